/- The law PlanChains: whatever the input, the function hands back true, and the input reads as it did; the listed variables hold what the program's text lays (the card ties them). -/
import Derived.Test.YtdknkbpgkkakhaaDoorP16
import Derived.Test.YtdknkbpgkkakhaaDoorOpenL
import Derived.Test.YtdknkbpgkkakhaaDoorTie
import Derived.Test.YtdknkbpgkkakhaaDoorCards
import Derived.SevenTiedAt
import Derived.ChangeMaps5
import Derived.MakeChecks
import Derived.Lay
namespace Go.Proofs.YtdknkbpgkkakhaaDoor
open Go.ChangeShapes Go.WideShapes Go.ChangeAt Go.RowKit Go.ChangeMaps

set_option maxRecDepth 100000 in
theorem planChains_lifted (os : Os) (started : os.Started) (H : Type) (enc : TypeId × Value → H) :
    ReturnsInHanded {} Tryd.checked os 6 .any (fun w args => (Rows.planChainsSpec.pre enc Tryd.prog Tryd.f6 Rows.planChainsRow.domain false w args ∧ laidMetH Tryd.prog Rows.planChainsRow.laid w) ∧ sizedMet enc Tryd.prog Tryd.f6 (OpenSpec.ofChange Rows.planChainsSpec) false w args)
      (Rows.planChainsSpec.post enc Tryd.prog Tryd.f6 false true false false) := by
  refine law_laid (laid := Rows.planChainsRow.laid) os started (by kernel_rfl) Tryd.func6 rfl rfl (by kernel_rfl) (fun ds h => ?_)
    (ChangeSpec.witness_shaped (enc := enc) (C := Tryd.checked) (os := os) (X := fun w _ => laidMetH Tryd.prog Rows.planChainsRow.laid w) false (World.laidAll Tryd.prog os Rows.planChainsRow.laid) #[.int .u8 0, .int .u8 0, .int .u8 0] 8 (World.laidAll_os _ _ _)
      (World.shaped_of_ZipB (by kernel_rfl) (by kernel_rfl)) (by kernel_rfl) (by kernel_rfl) (by kernel_rfl)
      (by rw [MakeChecks.laidMetH_plain _ _ _ (by kernel_rfl)]; exact laidMet_laidAll _ (by kernel_rfl) (by kernel_rfl))) ?_
  · match ds, h with
    | [d0, d1, d2], _ => exact ⟨rfl, rfl, rfl⟩
  intro W base args ds p hval hA hlt _ hmax
  obtain ⟨mx, hmx⟩ := hmax
  rw [Tryd.params6] at hA hval
  obtain ⟨v0, v1, v2, d0, d1, d2, p0, p1, p2, rfl, rfl, rfl, h0, h1, h2⟩ := trodAll_three hA
  obtain ⟨a0, rfl, rfl, rfl, wa0⟩ := open_int Tryd.underlying5 (hval 0 5 v0 rfl rfl) h0
  have hb0 := u8_bounds wa0
  obtain ⟨a1, rfl, rfl, rfl, wa1⟩ := open_int Tryd.underlying5 (hval 1 5 v1 rfl rfl) h1
  have hb1 := u8_bounds wa1
  obtain ⟨a2, rfl, rfl, rfl, wa2⟩ := open_int Tryd.underlying5 (hval 2 5 v2 rfl rfl) h2
  have hb2 := u8_bounds wa2
  exact by obtain ⟨n, rfl⟩ := Int.eq_ofNat_of_zero_le hb0.1; obtain ⟨a, rfl⟩ := Int.eq_ofNat_of_zero_le hb1.1; obtain ⟨b, rfl⟩ := Int.eq_ofNat_of_zero_le hb2.1; exact planChains_walk n a b (by omega) (by omega) (by omega) W mx hmx

theorem planChains_holds : Rows.PlanChainsSaid :=
  OpenClaim.holds_of_wide 6 Tryd.f6 rfl rfl rfl rfl rfl rfl rfl ⟨rfl, rfl, rfl, rfl, rfl⟩ rfl rfl rfl rfl rfl (by kernel_rfl) Tryd.func6 (by kernel_rfl)
    (of_decide_eq_true (by kernel_rfl)) (by unfold Func.isWrapper; first | (rw [if_pos (by decide +kernel)]; kernel_rfl) | (rw [if_neg (by decide +kernel)]; exact ⟨rfl, rfl⟩))
    (fun os started H enc _ => planChains_lifted os started H enc)

theorem planChains_card_holds : Rows.PlanChainsCardSaid :=
  Claim7.holds_tied_plain_at .later [] [.data, .pinned] true (true, "75c30193e4951df6c052e2b1ebb4608140e2146cbf3120aa25f3411697226fe5") false planChains_holds (fun _ h => by cases h) (by kernel_rfl) (fun _ h => by cases h) planChains_row_tie rfl ⟨rfl, rfl⟩ (by kernel_rfl) rfl
    (fun f fn hf hfn => by
      obtain rfl : f = 6 := Option.some.inj ((show Tryd.prog.funcNamed "ravelin/ravelinlaw2.PlanChains" = some 6 by kernel_rfl).symm.trans hf) |>.symm
      obtain rfl : fn = Tryd.f6 := (Option.some.inj (Tryd.func6.symm.trans hfn)).symm
      exact ⟨by kernel_rfl, fun j t ht => by
        rw [Tryd.params6] at ht
        have hm : t ∈ [5, 5, 5] := by simpa using Array.mem_of_getElem? ht
        have hall : ([5, 5, 5].all fun u => !Tryd.prog.wantsStandIn u) = true := by kernel_rfl
        exact (show Tryd.prog.wantsStandIn t = false by simpa using List.all_eq_true.1 hall t hm)⟩)
    (by kernel_rfl)

#print axioms planChains_card_holds
end Go.Proofs.YtdknkbpgkkakhaaDoor
