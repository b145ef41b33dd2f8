/- The law PlanTells: whatever the input, the function hands back true, and the input reads as it did; the listed variables hold what the program's text lays (the card ties them). -/
import Derived.Test.YtdknkbpgkkakhaaDoorP14
import Derived.Test.YtdknkbpgkkakhaaDoorOpenL
import Derived.Test.YtdknkbpgkkakhaaDoorTie
import Derived.Test.YtdknkbpgkkakhaaDoorCards
import Derived.SevenTiedAt
import Derived.ChangeMaps5
import Derived.MakeChecks
import Derived.Lay
namespace Go.Proofs.YtdknkbpgkkakhaaDoor
open Go.ChangeShapes Go.WideShapes Go.ChangeAt Go.RowKit Go.ChangeMaps

set_option maxRecDepth 100000 in
theorem planTells_lifted (os : Os) (started : os.Started) (H : Type) (enc : TypeId × Value → H) :
    ReturnsInHanded {} Tryd.checked os 3 .any (fun w args => (Rows.planTellsSpec.pre enc Tryd.prog Tryd.f3 Rows.planTellsRow.domain false w args ∧ laidMetH Tryd.prog Rows.planTellsRow.laid w) ∧ sizedMet enc Tryd.prog Tryd.f3 (OpenSpec.ofChange Rows.planTellsSpec) false w args)
      (Rows.planTellsSpec.post enc Tryd.prog Tryd.f3 false true false false) := by
  refine law_laid (laid := Rows.planTellsRow.laid) os started (by kernel_rfl) Tryd.func3 rfl rfl (by kernel_rfl) (fun ds h => ?_)
    (ChangeSpec.witness_shaped (enc := enc) (C := Tryd.checked) (os := os) (X := fun w _ => laidMetH Tryd.prog Rows.planTellsRow.laid w) false (World.laidAll Tryd.prog os Rows.planTellsRow.laid) #[.agg #[.slice none 0 0], .string ⟨#[]⟩, .int .i64 0] 8 (World.laidAll_os _ _ _)
      (World.shaped_of_ZipB (by kernel_rfl) (by kernel_rfl)) (by kernel_rfl) (by kernel_rfl) (by kernel_rfl)
      (by rw [MakeChecks.laidMetH_plain _ _ _ (by kernel_rfl)]; exact laidMet_laidAll _ (by kernel_rfl) (by kernel_rfl))) ?_
  · match ds, h with
    | [d0, d1, d2], _ => exact ⟨rfl, rfl, rfl⟩
  intro W base args ds p hval hA hlt _ hmax
  obtain ⟨mx, hmx⟩ := hmax
  rw [Tryd.params3] at hA hval
  obtain ⟨v0, v1, v2, d0, d1, d2, p0, p1, p2, rfl, rfl, rfl, h0, h1, h2⟩ := trodAll_three hA
  obtain ⟨A0, c0, rs0, rfl, hm0, _, hR0⟩ := open_lattice (hval 0 24 v0 rfl rfl) h0 (fun x hx => hlt x (by simp [hx]))
  obtain ⟨s1, rfl, rfl, rfl, ws1⟩ := open_string Tryd.underlying9 (hval 1 9 v1 rfl rfl) h1
  obtain ⟨a2, rfl, rfl, rfl, wa2⟩ := open_int Tryd.underlying3 (hval 2 3 v2 rfl rfl) h2
  have hb2 := i64_bounds wa2
  exact planTells_walk A0 c0 rs0 s1 a2 W mx hmx hR0 (by simp only [maxLen] at hm0; omega) (by simp only [maxLen] at ws1; omega) hb2.1 hb2.2

theorem planTells_holds : Rows.PlanTellsSaid :=
  OpenClaim.holds_of_wide 3 Tryd.f3 rfl rfl rfl rfl rfl rfl rfl ⟨rfl, rfl, rfl, rfl, rfl⟩ rfl rfl rfl rfl rfl (by kernel_rfl) Tryd.func3 (by kernel_rfl)
    (of_decide_eq_true (by kernel_rfl)) (by unfold Func.isWrapper; first | (rw [if_pos (by decide +kernel)]; kernel_rfl) | (rw [if_neg (by decide +kernel)]; exact ⟨rfl, rfl⟩))
    (fun os started H enc _ => planTells_lifted os started H enc)

theorem planTells_card_holds : Rows.PlanTellsCardSaid :=
  Claim7.holds_tied_plain_at .later [] [.data, .pinned] true (true, "75c30193e4951df6c052e2b1ebb4608140e2146cbf3120aa25f3411697226fe5") false planTells_holds (fun _ h => by cases h) (by kernel_rfl) (fun _ h => by cases h) planTells_row_tie rfl ⟨rfl, rfl⟩ (by kernel_rfl) rfl
    (fun f fn hf hfn => by
      obtain rfl : f = 3 := Option.some.inj ((show Tryd.prog.funcNamed "ravelin/ravelinlaw2.PlanTells" = some 3 by kernel_rfl).symm.trans hf) |>.symm
      obtain rfl : fn = Tryd.f3 := (Option.some.inj (Tryd.func3.symm.trans hfn)).symm
      exact ⟨by kernel_rfl, fun j t ht => by
        rw [Tryd.params3] at ht
        have hm : t ∈ [24, 9, 3] := by simpa using Array.mem_of_getElem? ht
        have hall : ([24, 9, 3].all fun u => !Tryd.prog.wantsStandIn u) = true := by kernel_rfl
        exact (show Tryd.prog.wantsStandIn t = false by simpa using List.all_eq_true.1 hall t hm)⟩)
    (by kernel_rfl)

#print axioms planTells_card_holds
end Go.Proofs.YtdknkbpgkkakhaaDoor
