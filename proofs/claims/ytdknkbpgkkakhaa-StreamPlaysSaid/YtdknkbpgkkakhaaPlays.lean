/- The law StreamPlays: whatever the input, the function hands back true, and the input reads as it did. No condition. -/
import Derived.Test.YtdknkbpgkkakhaaStr11
import Derived.Test.YtdknkbpgkkakhaaOpenI
namespace Go.Proofs.Ytdknkbpgkkakhaa
open Go.ChangeShapes Go.WideShapes Go.ChangeAt Go.RowKit

section
variable {H : Type} {enc : TypeId × Value → H} {P : Program} {w : World} {base : Nat} {spare : Nat → Bool} {held : Bool}
theorem trodAll_five {t0 t1 t2 t3 t4 : TypeId} {args : Array Value} {ds : List (DataW H)} {ps : List MemPlace} (h : DataW.TrodAll enc P w base spare held [t0, t1, t2, t3, t4] args.toList ds ps) :
    ∃ v0 v1 v2 v3 v4 d0 d1 d2 d3 d4 p0 p1 p2 p3 p4, args = #[v0, v1, v2, v3, v4] ∧ ds = [d0, d1, d2, d3, d4] ∧ ps = p0 ++ p1 ++ p2 ++ p3 ++ p4 ∧ DataW.Trod enc P w base spare held t0 v0 d0 p0 ∧ DataW.Trod enc P w base spare held t1 v1 d1 p1 ∧ DataW.Trod enc P w base spare held t2 v2 d2 p2 ∧ DataW.Trod enc P w base spare held t3 v3 d3 p3 ∧ DataW.Trod enc P w base spare held t4 v4 d4 p4 := by
  obtain ⟨v0, vs0, d0, ds0, p0, q0, hargs, rfl, rfl, hd0, hrest0⟩ := trodAll_cons h
  obtain ⟨v1, vs1, d1, ds1, p1, q1, rfl, rfl, rfl, hd1, hrest1⟩ := trodAll_cons hrest0
  obtain ⟨v2, vs2, d2, ds2, p2, q2, rfl, rfl, rfl, hd2, hrest2⟩ := trodAll_cons hrest1
  obtain ⟨v3, vs3, d3, ds3, p3, q3, rfl, rfl, rfl, hd3, hrest3⟩ := trodAll_cons hrest2
  obtain ⟨v4, vs4, d4, ds4, p4, q4, rfl, rfl, rfl, hd4, hrest4⟩ := trodAll_cons hrest3
  obtain ⟨rfl, rfl, rfl⟩ := trodAll_nil hrest4
  exact ⟨v0, v1, v2, v3, v4, d0, d1, d2, d3, d4, p0, p1, p2, p3, p4, by cases args; simp_all, rfl, by simp, hd0, hd1, hd2, hd3, hd4⟩
end

set_option maxRecDepth 100000 in
theorem streamPlays_lifted (os : Os) (started : os.Started) (H : Type) (enc : TypeId × Value → H) :
    ReturnsInHanded {} Try.checked os 3 .any (Rows.streamPlaysSpec.pre6 enc Try.prog Try.f3 Rows.streamPlaysRow.domain false) (Rows.streamPlaysSpec.post enc Try.prog Try.f3 false true false false) := by
  refine law_lifted os started (by kernel_rfl) Try.func3 rfl rfl (by kernel_rfl) (fun ds h => ?_)
    (ChangeSpec.witness6 (enc := enc) (C := Try.checked) false ⟨#[], #[.int .i64 0, .slice none 0 0, .slice none 0 0, .int .i64 0, .int .i64 0], []⟩ 8 (by kernel_rfl) (by kernel_rfl) (by kernel_rfl) (by kernel_rfl)) ?_
  · match ds, h with
    | [d0, d1, d2, d3, d4], _ => exact ⟨rfl, rfl, rfl⟩
  intro W base args ds p hval hA hlt _
  rw [Try.params3] at hA hval
  obtain ⟨v0, v1, v2, v3, v4, d0, d1, d2, d3, d4, p0, p1, p2, p3, p4, rfl, rfl, rfl, h0, h1, h2, h3, h4⟩ := trodAll_five hA
  obtain ⟨a0, rfl, rfl, rfl, wa0⟩ := open_int Try.underlying3 (hval 0 3 v0 rfl rfl) h0
  obtain ⟨A, c, ls, rfl, hm, hR, hok⟩ := open_its (okWide_slice Try.underlying22 (hval 1 22 v1 rfl rfl)) h1 (fun x hx => hlt x (by simp [hx]))
  obtain ⟨A2, c2, ks, rfl, hm2, hK⟩ := open_bools Try.underlying23 (okWide_slice Try.underlying23 (hval 2 23 v2 rfl rfl)) h2 (fun x hx => hlt x (by simp [hx]))
  obtain ⟨a3, rfl, rfl, rfl, wa3⟩ := open_int Try.underlying3 (hval 3 3 v3 rfl rfl) h3
  obtain ⟨a4, rfl, rfl, rfl, wa4⟩ := open_int Try.underlying3 (hval 4 3 v4 rfl rfl) h4
  have hb3 := i64_bounds wa3
  exact streamPlays_walk a0 a3 a4 A A2 c c2 ls ks W hR hok hK (by simp only [maxLen] at hm; omega) (by simp only [maxLen] at hm2; omega) hb3.2

theorem streamPlays_holds : Rows.StreamPlaysSaid :=
  OpenClaim.holds_of_wide 3 Try.f3 rfl rfl rfl rfl rfl rfl rfl ⟨rfl, rfl, rfl, rfl, rfl⟩ rfl rfl rfl rfl rfl (by kernel_rfl) Try.func3 (by kernel_rfl)
    (of_decide_eq_true (by kernel_rfl)) (by unfold Func.isWrapper; first | (rw [if_pos (by decide +kernel)]; kernel_rfl) | (rw [if_neg (by decide +kernel)]; exact ⟨rfl, rfl⟩))
    (fun os started H enc _ => streamPlays_lifted os started H enc)

#print axioms streamPlays_holds
end Go.Proofs.Ytdknkbpgkkakhaa
