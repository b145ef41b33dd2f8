/- The law LatticeOrders: whatever the input, the function hands back true, and the input reads as it did. No condition. -/
import Derived.Test.YtdknkbpgkkakhaaLat18
import Derived.Test.YtdknkbpgkkakhaaOpenL
namespace Go.Proofs.Ytdknkbpgkkakhaa
open Go.ChangeShapes Go.WideShapes Go.ChangeAt Go.RowKit

set_option maxRecDepth 100000 in
theorem latticeOrders_lifted (os : Os) (started : os.Started) (H : Type) (enc : TypeId × Value → H) :
    ReturnsInHanded {} Try.checked os 7 .any (Rows.latticeOrdersSpec.pre6 enc Try.prog Try.f7 Rows.latticeOrdersRow.domain false) (Rows.latticeOrdersSpec.post enc Try.prog Try.f7 false true false false) := by
  refine law_lifted os started (by kernel_rfl) Try.func7 rfl rfl (by kernel_rfl) (fun ds h => ?_)
    (ChangeSpec.witness6 (enc := enc) (C := Try.checked) false ⟨#[], #[.agg #[.slice none 0 0]], []⟩ 8 (by kernel_rfl) (by kernel_rfl) (by kernel_rfl) (by kernel_rfl)) ?_
  · match ds, h with
    | [d0], _ => exact ⟨rfl, rfl, rfl⟩
  intro W base args ds p hval hA hlt _
  rw [Try.params7] at hA hval
  obtain ⟨v0, d0, rfl, rfl, h0⟩ := trodAll_one hA
  obtain ⟨A0, c0, rs0, rfl, hm0, _, hR0⟩ := open_lattice (hval 0 53 v0 rfl rfl) h0 hlt
  exact latticeOrders_walk A0 c0 rs0 W hR0 (by simp only [maxLen] at hm0; omega)

theorem latticeOrders_holds : Rows.LatticeOrdersSaid :=
  OpenClaim.holds_of_wide 7 Try.f7 rfl rfl rfl rfl rfl rfl rfl ⟨rfl, rfl, rfl, rfl, rfl⟩ rfl rfl rfl rfl rfl (by kernel_rfl) Try.func7 (by kernel_rfl)
    (of_decide_eq_true (by kernel_rfl)) (by unfold Func.isWrapper; first | (rw [if_pos (by decide +kernel)]; kernel_rfl) | (rw [if_neg (by decide +kernel)]; exact ⟨rfl, rfl⟩))
    (fun os started H enc _ => latticeOrders_lifted os started H enc)

#print axioms latticeOrders_holds
end Go.Proofs.Ytdknkbpgkkakhaa
