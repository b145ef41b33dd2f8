/- The law IntakeTurns: whatever the input, the function hands back true, and the input reads as it did. No condition. -/
import Derived.Test.YtdknkbpgkkakhaaInt15
import Derived.Test.YtdknkbpgkkakhaaOpen
namespace Go.Proofs.Ytdknkbpgkkakhaa
open Go.ChangeShapes Go.WideShapes Go.ChangeAt Go.RowKit

set_option maxRecDepth 100000 in
theorem intakeTurns_lifted (os : Os) (started : os.Started) (H : Type) (enc : TypeId × Value → H) :
    ReturnsInHanded {} Try.checked os 20 .any (Rows.intakeTurnsSpec.pre6 enc Try.prog Try.f20 Rows.intakeTurnsRow.domain false) (Rows.intakeTurnsSpec.post enc Try.prog Try.f20 false true false false) := by
  refine law_lifted os started (by kernel_rfl) Try.func20 rfl rfl (by kernel_rfl) (fun ds h => ?_)
    (ChangeSpec.witness6 (enc := enc) (C := Try.checked) false ⟨#[], #[.int .u8 0, .bool false], []⟩ 8 (by kernel_rfl) (by kernel_rfl) (by kernel_rfl) (by kernel_rfl)) ?_
  · match ds, h with
    | [d0, d1], _ => exact ⟨rfl, rfl, rfl⟩
  intro W base args ds p hval hA hlt _
  rw [Try.params20] at hA hval
  obtain ⟨v0, v1, d0, d1, p0, p1, rfl, rfl, rfl, h0, h1⟩ := trodAll_two hA
  obtain ⟨a0, rfl, rfl, rfl, wa0⟩ := open_int Try.underlying5 (hval 0 5 v0 rfl rfl) h0
  have hb0 := u8_bounds wa0
  obtain ⟨a1, rfl, rfl, rfl⟩ := open_bool Try.underlying4 (hval 1 4 v1 rfl rfl) h1
  exact intakeTurns_walk a0 a1 W hb0

theorem intakeTurns_holds : Rows.IntakeTurnsSaid :=
  OpenClaim.holds_of_wide 20 Try.f20 rfl rfl rfl rfl rfl rfl rfl ⟨rfl, rfl, rfl, rfl, rfl⟩ rfl rfl rfl rfl rfl (by kernel_rfl) Try.func20 (by kernel_rfl)
    (of_decide_eq_true (by kernel_rfl)) (by unfold Func.isWrapper; first | (rw [if_pos (by decide +kernel)]; kernel_rfl) | (rw [if_neg (by decide +kernel)]; exact ⟨rfl, rfl⟩))
    (fun os started H enc _ => intakeTurns_lifted os started H enc)

#print axioms intakeTurns_holds
end Go.Proofs.Ytdknkbpgkkakhaa
