/- The law LatticeTells: whatever the input, the function hands back true, and the input reads as it did. No condition. -/
import Derived.Test.YtdknkbpgkkakhaaLat15
import Derived.Test.YtdknkbpgkkakhaaOpenL
namespace Go.Proofs.Ytdknkbpgkkakhaa
open Go.ChangeShapes Go.WideShapes Go.ChangeAt Go.RowKit

set_option maxRecDepth 100000 in
theorem latticeTells_lifted (os : Os) (started : os.Started) (H : Type) (enc : TypeId × Value → H) :
    ReturnsInHanded {} Try.checked os 6 .any (Rows.latticeTellsSpec.pre6 enc Try.prog Try.f6 Rows.latticeTellsRow.domain false) (Rows.latticeTellsSpec.post enc Try.prog Try.f6 false true false false) := by
  refine law_lifted os started (by kernel_rfl) Try.func6 rfl rfl (by kernel_rfl) (fun ds h => ?_)
    (ChangeSpec.witness6 (enc := enc) (C := Try.checked) false ⟨#[], #[.agg #[.slice none 0 0], .int .i64 0, .int .i64 0, .int .i64 0], []⟩ 8 (by kernel_rfl) (by kernel_rfl) (by kernel_rfl) (by kernel_rfl)) ?_
  · match ds, h with
    | [d0, d1, d2, d3], _ => exact ⟨rfl, rfl, rfl⟩
  intro W base args ds p hval hA hlt _
  rw [Try.params6] at hA hval
  obtain ⟨v0, v1, v2, v3, d0, d1, d2, d3, p0, p1, p2, p3, rfl, rfl, rfl, h0, h1, h2, h3⟩ := trodAll_four hA
  obtain ⟨A, c, rs, rfl, hm, _, hR⟩ := open_lattice (hval 0 53 v0 rfl rfl) h0 (fun x hx => hlt x (by simp [hx]))
  obtain ⟨a, rfl, rfl, rfl, wa⟩ := open_int Try.underlying3 (hval 1 3 v1 rfl rfl) h1
  obtain ⟨b, rfl, rfl, rfl, wb⟩ := open_int Try.underlying3 (hval 2 3 v2 rfl rfl) h2
  obtain ⟨n, rfl, rfl, rfl, wn⟩ := open_int Try.underlying3 (hval 3 3 v3 rfl rfl) h3
  have hn := i64_bounds wn
  exact latticeTells_walk A c rs a b n W hR (by simp only [maxLen] at hm; omega) hn.1 hn.2

theorem latticeTells_holds : Rows.LatticeTellsSaid :=
  OpenClaim.holds_of_wide 6 Try.f6 rfl rfl rfl rfl rfl rfl rfl ⟨rfl, rfl, rfl, rfl, rfl⟩ rfl rfl rfl rfl rfl (by kernel_rfl) Try.func6 (by kernel_rfl)
    (of_decide_eq_true (by kernel_rfl)) (by unfold Func.isWrapper; first | (rw [if_pos (by decide +kernel)]; kernel_rfl) | (rw [if_neg (by decide +kernel)]; exact ⟨rfl, rfl⟩))
    (fun os started H enc _ => latticeTells_lifted os started H enc)

#print axioms latticeTells_holds
end Go.Proofs.Ytdknkbpgkkakhaa
