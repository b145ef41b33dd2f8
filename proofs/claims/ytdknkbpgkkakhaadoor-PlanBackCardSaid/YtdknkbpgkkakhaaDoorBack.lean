/- The law PlanBack: whatever the input, the function hands back true, and the input reads as it did; the listed variables hold what the program's text lays (the card ties them). -/
import Derived.Test.YtdknkbpgkkakhaaDoorP17
import Derived.Test.YtdknkbpgkkakhaaDoorOpenL
import Derived.Test.YtdknkbpgkkakhaaDoorTie
import Derived.Test.YtdknkbpgkkakhaaDoorCards
import Derived.SevenTiedAt
import Derived.ChangeMaps5
import Derived.MakeChecks
import Derived.Lay
namespace Go.Proofs.YtdknkbpgkkakhaaDoor
open Go.ChangeShapes Go.WideShapes Go.ChangeAt Go.RowKit Go.ChangeMaps

set_option maxRecDepth 100000 in
theorem planBack_lifted (os : Os) (started : os.Started) (H : Type) (enc : TypeId × Value → H) :
    ReturnsInHanded {} Tryd.checked os 4 .any (fun w args => (Rows.planBackSpec.pre enc Tryd.prog Tryd.f4 Rows.planBackRow.domain false w args ∧ laidMetH Tryd.prog Rows.planBackRow.laid w) ∧ sizedMet enc Tryd.prog Tryd.f4 (OpenSpec.ofChange Rows.planBackSpec) false w args)
      (Rows.planBackSpec.post enc Tryd.prog Tryd.f4 false true false false) := by
  refine law_laid (laid := Rows.planBackRow.laid) os started (by kernel_rfl) Tryd.func4 rfl rfl (by kernel_rfl) (fun ds h => ?_)
    (ChangeSpec.witness_shaped (enc := enc) (C := Tryd.checked) (os := os) (X := fun w _ => laidMetH Tryd.prog Rows.planBackRow.laid w) false (World.laidAll Tryd.prog os Rows.planBackRow.laid) #[.agg #[.slice none 0 0], .slice none 0 0] 8 (World.laidAll_os _ _ _)
      (World.shaped_of_ZipB (by kernel_rfl) (by kernel_rfl)) (by kernel_rfl) (by kernel_rfl) (by kernel_rfl)
      (by rw [MakeChecks.laidMetH_plain _ _ _ (by kernel_rfl)]; exact laidMet_laidAll _ (by kernel_rfl) (by kernel_rfl))) ?_
  · match ds, h with
    | [d0, d1], _ => exact ⟨rfl, rfl, rfl⟩
  intro W base args ds p hval hA hlt _ hmax
  obtain ⟨mx, hmx⟩ := hmax
  rw [Tryd.params4] at hA hval
  obtain ⟨v0, v1, d0, d1, p0, p1, rfl, rfl, rfl, h0, h1⟩ := trodAll_two hA
  obtain ⟨A0, c0, rs0, rfl, hm0, _, hR0⟩ := open_lattice (hval 0 24 v0 rfl rfl) h0 (fun x hx => hlt x (by simp [hx]))
  obtain ⟨A1, c1, ks1, rfl, hm1, hR1⟩ := open_bools Tryd.underlying38 (okWide_slice Tryd.underlying38 (hval 1 38 v1 rfl rfl)) h1 (fun x hx => hlt x (by simp [hx]))
  exact planBack_walk A0 c0 rs0 A1 c1 ks1 W mx hmx hR0 (by simp only [maxLen] at hm0; omega) hR1 (by simp only [maxLen] at hm1; omega)

theorem planBack_holds : Rows.PlanBackSaid :=
  OpenClaim.holds_of_wide 4 Tryd.f4 rfl rfl rfl rfl rfl rfl rfl ⟨rfl, rfl, rfl, rfl, rfl⟩ rfl rfl rfl rfl rfl (by kernel_rfl) Tryd.func4 (by kernel_rfl)
    (of_decide_eq_true (by kernel_rfl)) (by unfold Func.isWrapper; first | (rw [if_pos (by decide +kernel)]; kernel_rfl) | (rw [if_neg (by decide +kernel)]; exact ⟨rfl, rfl⟩))
    (fun os started H enc _ => planBack_lifted os started H enc)

theorem planBack_card_holds : Rows.PlanBackCardSaid :=
  Claim7.holds_tied_plain_at .later [] [.data, .pinned] true (true, "75c30193e4951df6c052e2b1ebb4608140e2146cbf3120aa25f3411697226fe5") false planBack_holds (fun _ h => by cases h) (by kernel_rfl) (fun _ h => by cases h) planBack_row_tie rfl ⟨rfl, rfl⟩ (by kernel_rfl) rfl
    (fun f fn hf hfn => by
      obtain rfl : f = 4 := Option.some.inj ((show Tryd.prog.funcNamed "ravelin/ravelinlaw2.PlanBack" = some 4 by kernel_rfl).symm.trans hf) |>.symm
      obtain rfl : fn = Tryd.f4 := (Option.some.inj (Tryd.func4.symm.trans hfn)).symm
      exact ⟨by kernel_rfl, fun j t ht => by
        rw [Tryd.params4] at ht
        have hm : t ∈ [24, 38] := by simpa using Array.mem_of_getElem? ht
        have hall : ([24, 38].all fun u => !Tryd.prog.wantsStandIn u) = true := by kernel_rfl
        exact (show Tryd.prog.wantsStandIn t = false by simpa using List.all_eq_true.1 hall t hm)⟩)
    (by kernel_rfl)

#print axioms planBack_card_holds
end Go.Proofs.YtdknkbpgkkakhaaDoor
