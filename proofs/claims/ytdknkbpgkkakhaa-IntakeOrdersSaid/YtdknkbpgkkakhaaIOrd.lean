/- The law IntakeOrders: whatever the input, the function hands back true, and the input reads as it did. No condition. -/
import Derived.Test.YtdknkbpgkkakhaaInt19
import Derived.Test.YtdknkbpgkkakhaaOpenB
namespace Go.Proofs.Ytdknkbpgkkakhaa
open Go.ChangeShapes Go.WideShapes Go.ChangeAt Go.RowKit

set_option maxRecDepth 100000 in
theorem intakeOrders_lifted (os : Os) (started : os.Started) (H : Type) (enc : TypeId × Value → H) :
    ReturnsInHanded {} Try.checked os 17 .any (Rows.intakeOrdersSpec.pre6 enc Try.prog Try.f17 Rows.intakeOrdersRow.domain false) (Rows.intakeOrdersSpec.post enc Try.prog Try.f17 false true false false) := by
  refine law_lifted os started (by kernel_rfl) Try.func17 rfl rfl (by kernel_rfl) (fun ds h => ?_)
    (ChangeSpec.witness6 (enc := enc) (C := Try.checked) false ⟨#[], #[.slice none 0 0, .int .u16 0], []⟩ 8 (by kernel_rfl) (by kernel_rfl) (by kernel_rfl) (by kernel_rfl)) ?_
  · match ds, h with
    | [d0, d1], _ => exact ⟨rfl, rfl, rfl⟩
  intro W base args ds p hval hA hlt _
  rw [Try.params17] at hA hval
  obtain ⟨v0, v1, d0, d1, p0, p1, rfl, rfl, rfl, h0, h1⟩ := trodAll_two hA
  obtain ⟨A0, c0, ks0, rfl, hm0, hR0, hq0⟩ := open_u8s Try.underlying49 (okWide_slice Try.underlying49 (hval 0 49 v0 rfl rfl)) h0 (fun x hx => hlt x (by simp [hx]))
  obtain ⟨a1, rfl, rfl, rfl, wa1⟩ := open_int Try.underlying112 (hval 1 112 v1 rfl rfl) h1
  have hb1 : 0 ≤ a1 ∧ a1 ≤ 65535 := by
    simp [Lit.wf, IntKind.min, IntKind.max, IntKind.signed, IntKind.bits] at wa1
    omega
  exact intakeOrders_walk a1 A0 c0 ks0 W hb1 hR0 hq0 (by simp only [maxLen] at hm0; omega)

theorem intakeOrders_holds : Rows.IntakeOrdersSaid :=
  OpenClaim.holds_of_wide 17 Try.f17 rfl rfl rfl rfl rfl rfl rfl ⟨rfl, rfl, rfl, rfl, rfl⟩ rfl rfl rfl rfl rfl (by kernel_rfl) Try.func17 (by kernel_rfl)
    (of_decide_eq_true (by kernel_rfl)) (by unfold Func.isWrapper; first | (rw [if_pos (by decide +kernel)]; kernel_rfl) | (rw [if_neg (by decide +kernel)]; exact ⟨rfl, rfl⟩))
    (fun os started H enc _ => intakeOrders_lifted os started H enc)

#print axioms intakeOrders_holds
end Go.Proofs.Ytdknkbpgkkakhaa
