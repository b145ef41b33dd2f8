/- The law RoadPlays: whatever the input, the function hands back true, and the input reads as it did. No condition. -/
import Derived.Test.YtdknkbpgkkakhaaRoad23
import Derived.Test.YtdknkbpgkkakhaaOpenL
namespace Go.Proofs.Ytdknkbpgkkakhaa
open Go.ChangeShapes Go.WideShapes Go.ChangeAt Go.RowKit

set_option maxRecDepth 100000 in
theorem roadPlays_lifted (os : Os) (started : os.Started) (H : Type) (enc : TypeId × Value → H) :
    ReturnsInHanded {} Try.checked os 12 .any (Rows.roadPlaysSpec.pre6 enc Try.prog Try.f12 Rows.roadPlaysRow.domain false) (Rows.roadPlaysSpec.post enc Try.prog Try.f12 false true false false) := by
  refine law_lifted os started (by kernel_rfl) Try.func12 rfl rfl (by kernel_rfl) (fun ds h => ?_)
    (ChangeSpec.witness6 (enc := enc) (C := Try.checked) false ⟨#[], #[.agg #[.slice none 0 0], .slice none 0 0], []⟩ 8 (by kernel_rfl) (by kernel_rfl) (by kernel_rfl) (by kernel_rfl)) ?_
  · match ds, h with
    | [d0, d1], _ => exact ⟨rfl, rfl, rfl⟩
  intro W base args ds p hval hA hlt _
  rw [Try.params12] at hA hval
  obtain ⟨v0, v1, d0, d1, p0, p1, rfl, rfl, rfl, h0, h1⟩ := trodAll_two hA
  obtain ⟨A0, c0, rs0, rfl, hm0, _, hR0⟩ := open_lattice (hval 0 53 v0 rfl rfl) h0 (fun x hx => hlt x (by simp [hx]))
  obtain ⟨A1, c1, ls1, rfl, hm1, hR1, hq1⟩ := open_steps (okWide_slice Try.underlying71 (hval 1 71 v1 rfl rfl)) h1 (fun x hx => hlt x (by simp [hx]))
  exact roadPlays_walk A0 c0 rs0 A1 c1 ls1 W hR0 (by simp only [maxLen] at hm0; omega) hR1 (by simp only [maxLen] at hm1; omega) hq1

theorem roadPlays_holds : Rows.RoadPlaysSaid :=
  OpenClaim.holds_of_wide 12 Try.f12 rfl rfl rfl rfl rfl rfl rfl ⟨rfl, rfl, rfl, rfl, rfl⟩ rfl rfl rfl rfl rfl (by kernel_rfl) Try.func12 (by kernel_rfl)
    (of_decide_eq_true (by kernel_rfl)) (by unfold Func.isWrapper; first | (rw [if_pos (by decide +kernel)]; kernel_rfl) | (rw [if_neg (by decide +kernel)]; exact ⟨rfl, rfl⟩))
    (fun os started H enc _ => roadPlays_lifted os started H enc)

#print axioms roadPlays_holds
end Go.Proofs.Ytdknkbpgkkakhaa
