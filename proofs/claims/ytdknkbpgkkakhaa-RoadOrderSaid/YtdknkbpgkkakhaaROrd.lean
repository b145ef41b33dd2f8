/- The law RoadOrder: whatever the input, the function hands back true, and the input reads as it did. No condition. -/
import Derived.Test.YtdknkbpgkkakhaaRoad17
import Derived.Test.YtdknkbpgkkakhaaOpenB
namespace Go.Proofs.Ytdknkbpgkkakhaa
open Go.ChangeShapes Go.WideShapes Go.ChangeAt Go.RowKit

set_option maxRecDepth 100000 in
theorem roadOrder_lifted (os : Os) (started : os.Started) (H : Type) (enc : TypeId × Value → H) :
    ReturnsInHanded {} Try.checked os 14 .any (Rows.roadOrderSpec.pre6 enc Try.prog Try.f14 Rows.roadOrderRow.domain false) (Rows.roadOrderSpec.post enc Try.prog Try.f14 false true false false) := by
  refine law_lifted os started (by kernel_rfl) Try.func14 rfl rfl (by kernel_rfl) (fun ds h => ?_)
    (ChangeSpec.witness6 (enc := enc) (C := Try.checked) false ⟨#[], #[.int .u8 0, .slice none 0 0, .int .u8 0], []⟩ 8 (by kernel_rfl) (by kernel_rfl) (by kernel_rfl) (by kernel_rfl)) ?_
  · match ds, h with
    | [d0, d1, d2], _ => exact ⟨rfl, rfl, rfl⟩
  intro W base args ds p hval hA hlt _
  rw [Try.params14] at hA hval
  obtain ⟨v0, v1, v2, d0, d1, d2, p0, p1, p2, rfl, rfl, rfl, h0, h1, h2⟩ := trodAll_three hA
  obtain ⟨a0, rfl, rfl, rfl, wa0⟩ := open_int Try.underlying5 (hval 0 5 v0 rfl rfl) h0
  have hb0 := u8_bounds wa0
  obtain ⟨A1, c1, ks1, rfl, hm1, hR1, hq1⟩ := open_u8s Try.underlying49 (okWide_slice Try.underlying49 (hval 1 49 v1 rfl rfl)) h1 (fun x hx => hlt x (by simp [hx]))
  obtain ⟨a2, rfl, rfl, rfl, wa2⟩ := open_int Try.underlying5 (hval 2 5 v2 rfl rfl) h2
  have hb2 := u8_bounds wa2
  exact roadOrder_walk a0 a2 A1 c1 ks1 W hb0 hb2 hR1 hq1 (by simp only [maxLen] at hm1; omega)

theorem roadOrder_holds : Rows.RoadOrderSaid :=
  OpenClaim.holds_of_wide 14 Try.f14 rfl rfl rfl rfl rfl rfl rfl ⟨rfl, rfl, rfl, rfl, rfl⟩ rfl rfl rfl rfl rfl (by kernel_rfl) Try.func14 (by kernel_rfl)
    (of_decide_eq_true (by kernel_rfl)) (by unfold Func.isWrapper; first | (rw [if_pos (by decide +kernel)]; kernel_rfl) | (rw [if_neg (by decide +kernel)]; exact ⟨rfl, rfl⟩))
    (fun os started H enc _ => roadOrder_lifted os started H enc)

#print axioms roadOrder_holds
end Go.Proofs.Ytdknkbpgkkakhaa
