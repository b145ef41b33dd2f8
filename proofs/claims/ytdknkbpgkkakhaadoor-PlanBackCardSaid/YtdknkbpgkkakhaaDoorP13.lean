/- Layer 2: known. -/
import Derived.Test.YtdknkbpgkkakhaaDoorP12
import Derived.Test.YtdknkbpgkkakhaaDoorP8
namespace Go.Proofs.YtdknkbpgkkakhaaDoor
open Go.RowKit

/-- Parse, over a text that is read as M. -/
theorem planParse_is {s : ByteArray} {M : Mat} {k : Nat} (hp : parseM s = (M, k)) {n : Nat} (hn : M.length = n) (w : World) (hs : s.size ≤ 10000) {m : Int} (hm : w.cell? ⟨0, 0, none⟩ = some (.int .i64 m)) :
    Calls Tryd.prog 9 #[.string s] w fun e w' => ∃ A c rs B, e = .returned (.tuple #[.agg #[.slice A n c], .int .i64 (k : Int)]) ∧ mat rs = M ∧ rs.length = n ∧ MatAt w' B A rs ∧ Ext w w' := by
  refine (planParse_any s w hs m hm).mono ?_
  rintro e w' ⟨A, c, rs, rfl, h1, h2, h3⟩
  rw [hp] at h1 ⊢
  have h1 : mat rs = M := h1
  have hl : rs.length = n := by rw [← hn, ← h1, mat_length]
  exact ⟨A, c, rs, _, by rw [hl], h1, hl, h2, h3⟩
theorem refChain_is (n : Nat) (w : World) (hn : n ≤ 100) {l : Nat} (hl : (lchain (n : Int)).length = l) : Calls Tryd.prog 21 #[.int .i64 (n : Int)] w fun e w' =>
    ∃ A c rs B, e = .returned (.agg #[.slice A l c]) ∧ Hid (mat rs = lchain (n : Int)) ∧ rs.length = l ∧ MatAt w' B A rs ∧ Ext w w' := by
  refine (refChain_any (n : Int) w (by omega) (by omega)).mono ?_
  rintro e w' ⟨A, c, rs, rfl, h1, h2, h3⟩
  have h4 : rs.length = l := by rw [← mat_length, h1]; exact hl
  exact ⟨A, c, rs, _, by rw [h4], h1, h4, h2, h3⟩
theorem print_is {w : World} {B : Nat} {A : Option Addr} {c : Nat} {rs : List Rw} {M : Mat} {l : Nat} (hA : MatAt w B A rs) (hm : Hid (mat rs = M)) (hl : rs.length = l) (h6 : l ≤ 100) {t : ByteArray} (ht : prUp M (levels M) = t) :
    Calls Tryd.prog 13 #[.agg #[.slice A l c]] w fun e w' => e = .returned (.string t) ∧ Ext w w' := by
  have h := planPrint_any A c rs w B hA (by omega)
  rw [hm.out, ht, hl] at h
  exact h
theorem known1 : parseM ⟨#[97, 62, 10, 98, 62, 97, 10, 99, 62, 97, 10, 100, 62, 98, 99, 10]⟩ = ([[true, false, false, false], [true, true, false, false], [true, false, true, false], [true, true, true, true]], 0) := by decide +kernel
theorem known2 : parseM ⟨#[97, 62, 98, 10, 98, 62, 97, 10]⟩ = ([], 11) := by decide +kernel
theorem known3 : parseM ⟨#[98, 62, 10]⟩ = ([], 10) := by decide +kernel
theorem known4 : lvl ⟨#[99]⟩ = some 2 := by decide +kernel
theorem known5 : nam 5 = ⟨#[102]⟩ := by decide +kernel
theorem known6 : nam 6 = ⟨#[]⟩ := by decide +kernel
theorem known7 : prUp (lchain 2) (levels (lchain 2)) = ⟨#[97, 62, 10, 98, 62, 97, 10]⟩ := by decide +kernel
theorem known7l : (lchain 2).length = 2 := by decide +kernel
set_option maxRecDepth 100000 in
set_option maxHeartbeats 4000000 in
theorem known_any (w : World) (m : Int) (hm : w.cell? ⟨0, 0, none⟩ = some (.int .i64 m)) : Calls Tryd.prog 7 #[] w fun e w' => e = .returned (.bool true) ∧ Ext w w' := by
  have h1 := planParse_is known1 (n := 4) rfl w (by decide) hm
  go_enter Tryd.func7, Tryd.ntmps7
  go_wp2_with fail
  refine h1.mono ?_
  clear h1
  rintro e w1 ⟨A1, c1, rs1, B1, rfl, _, _, _, x1⟩
  have a1 := ext_alloc w1 (.cells #[.slice A1 4 c1] 24)
  have y1 := ext_trans x1 a1
  have b1 := Blk.new w1 24 #[.slice A1 4 c1]
  obtain ⟨g1, hg1⟩ : ∃ g, g = w1.heap.size := ⟨_, rfl⟩
  rw [← hg1] at b1
  go_upto_region 2 with fail
  rw [← hg1]
  clear hg1 a1 x1
  generalize w1.alloc (.cells #[.slice A1 4 c1] 24) = v1 at y1 b1 ⊢
  have h2 := planParse_is known2 (n := 0) rfl v1 (by decide) (ext_cell y1 hm)
  go_wp2_with fail
  refine h2.mono ?_
  clear h2
  rintro e w2 ⟨A2, c2, rs2, B2, rfl, _, _, _, x2⟩
  have a2 := ext_alloc w2 (.cells #[.slice A2 0 c2] 24)
  have y2 := ext_trans y1 (ext_trans x2 a2)
  have b2 := b1.ext (ext_trans x2 a2)
  go_upto_region 3 with fail
  clear a2 x2 b1 y1
  generalize w2.alloc (.cells #[.slice A2 0 c2] 24) = v2 at y2 b2 ⊢
  have h3 := planParse_is known3 (n := 0) rfl v2 (by decide) (ext_cell y2 hm)
  go_wp2_with fail
  refine h3.mono ?_
  clear h3
  rintro e w3 ⟨A3, c3, rs3, B3, rfl, _, _, _, x3⟩
  have a3 := ext_alloc w3 (.cells #[.slice A3 0 c3] 24)
  have y3 := ext_trans y2 (ext_trans x3 a3)
  have b3 := b2.ext (ext_trans x3 a3)
  go_upto_region 4 with fail
  clear a3 x3 b2 y2
  generalize w3.alloc (.cells #[.slice A3 0 c3] 24) = v3 at y3 b3 ⊢
  go_wp2_with fail
  refine (planLevel_any ⟨#[99]⟩ v3 (by decide)).mono ?_
  rintro e w4 ⟨rfl, rfl⟩
  rw [known4, show lvlV (some 2) = .tuple #[.int .i64 2, .bool true] from rfl]
  have c0 := b3.cell 0
  simp only [List.getElem?_toArray, List.getElem?_cons_zero] at c0
  go_wp2_with fail
  refine (planName_any 5 v3 (by decide)).mono ?_
  rintro e w5 ⟨rfl, x5⟩
  rw [known5]
  go_wp2_with fail
  refine (planName_any 6 w5 (by decide)).mono ?_
  rintro e w6 ⟨rfl, x6⟩
  rw [known6]
  go_wp2_with fail
  refine (refChain_is 2 w6 (by decide) known7l).mono ?_
  rintro e w7 ⟨A7, c7, rs7, B7, rfl, hm7, hl7, hM7, x7⟩
  have hp := print_is hM7 hm7 hl7 (by decide) known7 (c := c7)
  clear hm7 hl7 hM7
  go_wp2_with fail
  refine hp.mono ?_
  rintro e w8 ⟨rfl, x8⟩
  clear hp
  go_wp2_with fail
  go_ret
  exact ⟨rfl, ext_trans y3 (ext_trans x5 (ext_trans x6 (ext_trans x7 x8)))⟩
end Go.Proofs.YtdknkbpgkkakhaaDoor
