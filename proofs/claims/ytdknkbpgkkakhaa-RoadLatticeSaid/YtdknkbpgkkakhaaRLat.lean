/- The law RoadLattice: whatever the input, the function hands back true, and the input reads as it did. No condition. -/
import Derived.Test.YtdknkbpgkkakhaaRoad13
import Derived.Test.YtdknkbpgkkakhaaOpenL
namespace Go.Proofs.Ytdknkbpgkkakhaa
open Go.ChangeShapes Go.WideShapes Go.ChangeAt Go.RowKit

set_option maxRecDepth 100000 in
theorem roadLattice_lifted (os : Os) (started : os.Started) (H : Type) (enc : TypeId × Value → H) :
    ReturnsInHanded {} Try.checked os 15 .any (Rows.roadLatticeSpec.pre6 enc Try.prog Try.f15 Rows.roadLatticeRow.domain false) (Rows.roadLatticeSpec.post enc Try.prog Try.f15 false true false false) := by
  refine law_lifted os started (by kernel_rfl) Try.func15 rfl rfl (by kernel_rfl) (fun ds h => ?_)
    (ChangeSpec.witness6 (enc := enc) (C := Try.checked) false ⟨#[], #[.agg #[.slice none 0 0]], []⟩ 8 (by kernel_rfl) (by kernel_rfl) (by kernel_rfl) (by kernel_rfl)) ?_
  · match ds, h with
    | [d0], _ => exact ⟨rfl, rfl, rfl⟩
  intro W base args ds p hval hA hlt _
  rw [Try.params15] at hA hval
  obtain ⟨v0, d0, rfl, rfl, h0⟩ := trodAll_one hA
  obtain ⟨A0, c0, rs0, rfl, hm0, _, hR0⟩ := open_lattice (hval 0 53 v0 rfl rfl) h0 hlt
  exact roadLattice_walk A0 c0 rs0 W hR0 (by simp only [maxLen] at hm0; omega)

theorem roadLattice_holds : Rows.RoadLatticeSaid :=
  OpenClaim.holds_of_wide 15 Try.f15 rfl rfl rfl rfl rfl rfl rfl ⟨rfl, rfl, rfl, rfl, rfl⟩ rfl rfl rfl rfl rfl (by kernel_rfl) Try.func15 (by kernel_rfl)
    (of_decide_eq_true (by kernel_rfl)) (by unfold Func.isWrapper; first | (rw [if_pos (by decide +kernel)]; kernel_rfl) | (rw [if_neg (by decide +kernel)]; exact ⟨rfl, rfl⟩))
    (fun os started H enc _ => roadLattice_lifted os started H enc)

#print axioms roadLattice_holds
end Go.Proofs.Ytdknkbpgkkakhaa
