/- The law PlanSpoilt: whatever the input, the function hands back true, and the input reads as it did; the listed variables hold what the program's text lays (the card ties them). -/
import Derived.Test.YtdknkbpgkkakhaaDoorP15
import Derived.Test.YtdknkbpgkkakhaaDoorOpenL
import Derived.Test.YtdknkbpgkkakhaaDoorTie
import Derived.Test.YtdknkbpgkkakhaaDoorCards
import Derived.SevenTiedAt
import Derived.ChangeMaps5
import Derived.MakeChecks
import Derived.Lay
namespace Go.Proofs.YtdknkbpgkkakhaaDoor
open Go.ChangeShapes Go.WideShapes Go.ChangeAt Go.RowKit Go.ChangeMaps

set_option maxRecDepth 100000 in
theorem planSpoilt_lifted (os : Os) (started : os.Started) (H : Type) (enc : TypeId × Value → H) :
    ReturnsInHanded {} Tryd.checked os 5 .any (fun w args => (Rows.planSpoiltSpec.pre enc Tryd.prog Tryd.f5 Rows.planSpoiltRow.domain false w args ∧ laidMetH Tryd.prog Rows.planSpoiltRow.laid w) ∧ sizedMet enc Tryd.prog Tryd.f5 (OpenSpec.ofChange Rows.planSpoiltSpec) false w args)
      (Rows.planSpoiltSpec.post enc Tryd.prog Tryd.f5 false true false false) := by
  refine law_laid (laid := Rows.planSpoiltRow.laid) os started (by kernel_rfl) Tryd.func5 rfl rfl (by kernel_rfl) (fun ds h => ?_)
    (ChangeSpec.witness_shaped (enc := enc) (C := Tryd.checked) (os := os) (X := fun w _ => laidMetH Tryd.prog Rows.planSpoiltRow.laid w) false (World.laidAll Tryd.prog os Rows.planSpoiltRow.laid) #[.int .u8 0, .int .u8 0] 8 (World.laidAll_os _ _ _)
      (World.shaped_of_ZipB (by kernel_rfl) (by kernel_rfl)) (by kernel_rfl) (by kernel_rfl) (by kernel_rfl)
      (by rw [MakeChecks.laidMetH_plain _ _ _ (by kernel_rfl)]; exact laidMet_laidAll _ (by kernel_rfl) (by kernel_rfl))) ?_
  · match ds, h with
    | [d0, d1], _ => exact ⟨rfl, rfl, rfl⟩
  intro W base args ds p hval hA hlt _ hmax
  obtain ⟨mx, hmx⟩ := hmax
  rw [Tryd.params5] at hA hval
  obtain ⟨v0, v1, d0, d1, p0, p1, rfl, rfl, rfl, h0, h1⟩ := trodAll_two hA
  obtain ⟨a0, rfl, rfl, rfl, wa0⟩ := open_int Tryd.underlying5 (hval 0 5 v0 rfl rfl) h0
  have hb0 := u8_bounds wa0
  obtain ⟨a1, rfl, rfl, rfl, wa1⟩ := open_int Tryd.underlying5 (hval 1 5 v1 rfl rfl) h1
  have hb1 := u8_bounds wa1
  exact by obtain ⟨x, rfl⟩ := Int.eq_ofNat_of_zero_le hb0.1; obtain ⟨n, rfl⟩ := Int.eq_ofNat_of_zero_le hb1.1; exact planSpoilt_walk x n (by omega) (by omega) W mx hmx

theorem planSpoilt_holds : Rows.PlanSpoiltSaid :=
  OpenClaim.holds_of_wide 5 Tryd.f5 rfl rfl rfl rfl rfl rfl rfl ⟨rfl, rfl, rfl, rfl, rfl⟩ rfl rfl rfl rfl rfl (by kernel_rfl) Tryd.func5 (by kernel_rfl)
    (of_decide_eq_true (by kernel_rfl)) (by unfold Func.isWrapper; first | (rw [if_pos (by decide +kernel)]; kernel_rfl) | (rw [if_neg (by decide +kernel)]; exact ⟨rfl, rfl⟩))
    (fun os started H enc _ => planSpoilt_lifted os started H enc)

theorem planSpoilt_card_holds : Rows.PlanSpoiltCardSaid :=
  Claim7.holds_tied_plain_at .later [] [.data, .pinned] true (true, "75c30193e4951df6c052e2b1ebb4608140e2146cbf3120aa25f3411697226fe5") false planSpoilt_holds (fun _ h => by cases h) (by kernel_rfl) (fun _ h => by cases h) planSpoilt_row_tie rfl ⟨rfl, rfl⟩ (by kernel_rfl) rfl
    (fun f fn hf hfn => by
      obtain rfl : f = 5 := Option.some.inj ((show Tryd.prog.funcNamed "ravelin/ravelinlaw2.PlanSpoilt" = some 5 by kernel_rfl).symm.trans hf) |>.symm
      obtain rfl : fn = Tryd.f5 := (Option.some.inj (Tryd.func5.symm.trans hfn)).symm
      exact ⟨by kernel_rfl, fun j t ht => by
        rw [Tryd.params5] at ht
        have hm : t ∈ [5, 5] := by simpa using Array.mem_of_getElem? ht
        have hall : ([5, 5].all fun u => !Tryd.prog.wantsStandIn u) = true := by kernel_rfl
        exact (show Tryd.prog.wantsStandIn t = false by simpa using List.all_eq_true.1 hall t hm)⟩)
    (by kernel_rfl)

#print axioms planSpoilt_card_holds
end Go.Proofs.YtdknkbpgkkakhaaDoor
