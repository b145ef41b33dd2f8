/- The law IntakeHeld: whatever the input, the function hands back true, and the input reads as it did. No condition. -/
import Derived.Test.YtdknkbpgkkakhaaInt16
import Derived.Test.YtdknkbpgkkakhaaOpen
namespace Go.Proofs.Ytdknkbpgkkakhaa
open Go.ChangeShapes Go.WideShapes Go.ChangeAt Go.RowKit

set_option maxRecDepth 100000 in
theorem intakeHeld_lifted (os : Os) (started : os.Started) (H : Type) (enc : TypeId × Value → H) :
    ReturnsInHanded {} Try.checked os 19 .any (Rows.intakeHeldSpec.pre6 enc Try.prog Try.f19 Rows.intakeHeldRow.domain false) (Rows.intakeHeldSpec.post enc Try.prog Try.f19 false true false false) := by
  refine law_lifted os started (by kernel_rfl) Try.func19 rfl rfl (by kernel_rfl) (fun ds h => ?_)
    (ChangeSpec.witness6 (enc := enc) (C := Try.checked) false ⟨#[], #[.int .u8 0], []⟩ 8 (by kernel_rfl) (by kernel_rfl) (by kernel_rfl) (by kernel_rfl)) ?_
  · match ds, h with
    | [d0], _ => exact ⟨rfl, rfl, rfl⟩
  intro W base args ds p hval hA hlt _
  rw [Try.params19] at hA hval
  obtain ⟨v0, d0, rfl, rfl, h0⟩ := trodAll_one hA
  obtain ⟨a0, rfl, rfl, rfl, wa0⟩ := open_int Try.underlying5 (hval 0 5 v0 rfl rfl) h0
  have hb0 := u8_bounds wa0
  exact intakeHeld_walk a0 W hb0

theorem intakeHeld_holds : Rows.IntakeHeldSaid :=
  OpenClaim.holds_of_wide 19 Try.f19 rfl rfl rfl rfl rfl rfl rfl ⟨rfl, rfl, rfl, rfl, rfl⟩ rfl rfl rfl rfl rfl (by kernel_rfl) Try.func19 (by kernel_rfl)
    (of_decide_eq_true (by kernel_rfl)) (by unfold Func.isWrapper; first | (rw [if_pos (by decide +kernel)]; kernel_rfl) | (rw [if_neg (by decide +kernel)]; exact ⟨rfl, rfl⟩))
    (fun os started H enc _ => intakeHeld_lifted os started H enc)

#print axioms intakeHeld_holds
end Go.Proofs.Ytdknkbpgkkakhaa
