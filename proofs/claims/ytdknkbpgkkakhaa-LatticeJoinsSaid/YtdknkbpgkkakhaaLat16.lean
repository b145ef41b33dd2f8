/- The law LatticeJoins, walked. -/
import Derived.Test.YtdknkbpgkkakhaaLat14
namespace Go.Proofs.Ytdknkbpgkkakhaa
open Go.RowKit

/-- Four rows and their slice, laid one behind the other. -/
def rowSl (g : Nat) (l : List Bool) : Value := .slice (some ⟨g, 0, none⟩) l.length l.length
def domBlk (g : Nat) (l1 l2 l3 l4 : List Bool) : Obj := .cells #[rowSl g l1, rowSl (g + 1) l2, rowSl (g + 1 + 1) l3, rowSl (g + 1 + 1 + 1) l4] 23
theorem mat4 (w : World) (B : Nat) (l1 l2 l3 l4 : List Bool) :
    MatAt (((((w.alloc (rowBlk l1)).alloc (rowBlk l2)).alloc (rowBlk l3)).alloc (rowBlk l4)).alloc (domBlk w.heap.size l1 l2 l3 l4)) B (some ⟨w.heap.size + 1 + 1 + 1 + 1, 0, none⟩)
      [⟨some ⟨w.heap.size, 0, none⟩, l1.length, l1⟩, ⟨some ⟨w.heap.size + 1, 0, none⟩, l2.length, l2⟩, ⟨some ⟨w.heap.size + 1 + 1, 0, none⟩, l3.length, l3⟩, ⟨some ⟨w.heap.size + 1 + 1 + 1, 0, none⟩, l4.length, l4⟩] ∧
    Ext w (((((w.alloc (rowBlk l1)).alloc (rowBlk l2)).alloc (rowBlk l3)).alloc (rowBlk l4)).alloc (domBlk w.heap.size l1 l2 l3 l4)) := by
  have e2 := ext_alloc w (rowBlk l1)
  have g2 : BitsAt (w.alloc (rowBlk l1)) B (some ⟨w.heap.size, 0, none⟩) l1 := bits_list _ (Blk.new _ _ _)
  have s2 : (w.alloc (rowBlk l1)).heap.size = w.heap.size + 1 := by simp
  generalize w.alloc (rowBlk l1) = w2 at *
  have e3 := ext_alloc w2 (rowBlk l2)
  have g3 : BitsAt (w2.alloc (rowBlk l2)) B (some ⟨w2.heap.size, 0, none⟩) l2 := bits_list _ (Blk.new _ _ _)
  have s3 : (w2.alloc (rowBlk l2)).heap.size = w2.heap.size + 1 := by simp
  generalize w2.alloc (rowBlk l2) = w3 at *
  have e4 := ext_alloc w3 (rowBlk l3)
  have g4 : BitsAt (w3.alloc (rowBlk l3)) B (some ⟨w3.heap.size, 0, none⟩) l3 := bits_list _ (Blk.new _ _ _)
  have s4 : (w3.alloc (rowBlk l3)).heap.size = w3.heap.size + 1 := by simp
  generalize w3.alloc (rowBlk l3) = w4 at *
  have e5 := ext_alloc w4 (rowBlk l4)
  have g5 : BitsAt (w4.alloc (rowBlk l4)) B (some ⟨w4.heap.size, 0, none⟩) l4 := bits_list _ (Blk.new _ _ _)
  have s5 : (w4.alloc (rowBlk l4)).heap.size = w4.heap.size + 1 := by simp
  generalize w4.alloc (rowBlk l4) = w5 at *
  have e6 := ext_alloc w5 (domBlk w.heap.size l1 l2 l3 l4)
  have g6 : Blk (w5.alloc (domBlk w.heap.size l1 l2 l3 l4)) w5.heap.size 23 _ := Blk.new _ _ _
  have hx : Ext w (w5.alloc (domBlk w.heap.size l1 l2 l3 l4)) := ext_trans e2 (ext_trans e3 (ext_trans e4 (ext_trans e5 e6)))
  generalize w5.alloc (domBlk w.heap.size l1 l2 l3 l4) = w6 at *
  rw [show w.heap.size + 1 + 1 + 1 + 1 = w5.heap.size by omega, show w.heap.size + 1 + 1 + 1 = w4.heap.size by omega, show w.heap.size + 1 + 1 = w3.heap.size by omega, show w.heap.size + 1 = w2.heap.size by omega] at *
  refine ⟨⟨rws_list _ g6, ?_⟩, hx⟩
  intro r hr
  simp only [List.mem_cons, List.not_mem_nil, or_false] at hr
  rcases hr with rfl | rfl | rfl | rfl
  · exact RowsAt.ext g2 (ext_trans e3 (ext_trans e4 (ext_trans e5 e6)))
  · exact RowsAt.ext g3 (ext_trans e4 (ext_trans e5 e6))
  · exact RowsAt.ext g4 (ext_trans e5 e6)
  · exact RowsAt.ext g5 e6

def vM : Mat := [[true, false, false, false], [false, true, false, false], [true, true, true, false], [true, true, false, true]]

set_option maxRecDepth 100000 in
set_option maxHeartbeats 8000000 in
theorem latticeJoins_walk (a b : Int) (w : World) (ha : 0 ≤ a ∧ a ≤ 255) (hb : 0 ≤ b ∧ b ≤ 255) :
    Calls Try.prog 11 #[.int .u8 a, .int .u8 b] w fun e w' => e = .returned (.bool true) ∧ Ext w w' := by
  obtain ⟨ha0, ha1⟩ := ha
  obtain ⟨hb0, hb1⟩ := hb
  go_enter Try.func11, Try.ntmps11
  go_wp2_with fail
  refine (known1_any _).mono ?_
  rintro e w1 ⟨rfl, x1⟩
  go_upto_region 4 with fail
  obtain ⟨hM, x2⟩ := mat4 w1 0 [true, false, false, false] [false, true, false, false] [true, true, true, false] [true, true, false, true]
  obtain ⟨R, hR⟩ : ∃ R : List Rw, R = [⟨some ⟨w1.heap.size, 0, none⟩, 4, [true, false, false, false]⟩, ⟨some ⟨w1.heap.size + 1, 0, none⟩, 4, [false, true, false, false]⟩, ⟨some ⟨w1.heap.size + 1 + 1, 0, none⟩, 4, [true, true, true, false]⟩, ⟨some ⟨w1.heap.size + 1 + 1 + 1, 0, none⟩, 4, [true, true, false, true]⟩] := ⟨_, rfl⟩
  have hM' : MatAt (((((w1.alloc (.cells #[.bool true, .bool false, .bool false, .bool false] 4)).alloc (.cells #[.bool false, .bool true, .bool false, .bool false] 4)).alloc (.cells #[.bool true, .bool true, .bool true, .bool false] 4)).alloc (.cells #[.bool true, .bool true, .bool false, .bool true] 4)).alloc (.cells #[.slice (some ⟨w1.heap.size, 0, none⟩) 4 4, .slice (some ⟨w1.heap.size + 1, 0, none⟩) 4 4, .slice (some ⟨w1.heap.size + 1 + 1, 0, none⟩) 4 4, .slice (some ⟨w1.heap.size + 1 + 1 + 1, 0, none⟩) 4 4] 23)) 0 (some ⟨w1.heap.size + 1 + 1 + 1 + 1, 0, none⟩) R := by rw [hR]; exact hM
  have x2' : Ext w1 (((((w1.alloc (.cells #[.bool true, .bool false, .bool false, .bool false] 4)).alloc (.cells #[.bool false, .bool true, .bool false, .bool false] 4)).alloc (.cells #[.bool true, .bool true, .bool true, .bool false] 4)).alloc (.cells #[.bool true, .bool true, .bool false, .bool true] 4)).alloc (.cells #[.slice (some ⟨w1.heap.size, 0, none⟩) 4 4, .slice (some ⟨w1.heap.size + 1, 0, none⟩) 4 4, .slice (some ⟨w1.heap.size + 1 + 1, 0, none⟩) 4 4, .slice (some ⟨w1.heap.size + 1 + 1 + 1, 0, none⟩) 4 4] 23)) := x2
  have sz : (((((w1.alloc (.cells #[.bool true, .bool false, .bool false, .bool false] 4)).alloc (.cells #[.bool false, .bool true, .bool false, .bool false] 4)).alloc (.cells #[.bool true, .bool true, .bool true, .bool false] 4)).alloc (.cells #[.bool true, .bool true, .bool false, .bool true] 4)).alloc (.cells #[.slice (some ⟨w1.heap.size, 0, none⟩) 4 4, .slice (some ⟨w1.heap.size + 1, 0, none⟩) 4 4, .slice (some ⟨w1.heap.size + 1 + 1, 0, none⟩) 4 4, .slice (some ⟨w1.heap.size + 1 + 1 + 1, 0, none⟩) 4 4] 23)).heap.size = w1.heap.size + 1 + 1 + 1 + 1 + 1 := by simp
  have HD : Hid (mat R = vM) := by show _ = _; rw [hR]; rfl
  have h4 : R.length = 4 := by rw [hR]; rfl
  have HL := Lib.hid h4; clear h4
  clear hM x2 hR
  generalize ((((w1.alloc (.cells #[.bool true, .bool false, .bool false, .bool false] 4)).alloc (.cells #[.bool false, .bool true, .bool false, .bool false] 4)).alloc (.cells #[.bool true, .bool true, .bool true, .bool false] 4)).alloc (.cells #[.bool true, .bool true, .bool false, .bool true] 4)).alloc (.cells #[.slice (some ⟨w1.heap.size, 0, none⟩) 4 4, .slice (some ⟨w1.heap.size + 1, 0, none⟩) 4 4, .slice (some ⟨w1.heap.size + 1 + 1, 0, none⟩) 4 4, .slice (some ⟨w1.heap.size + 1 + 1 + 1, 0, none⟩) 4 4] 23) = w2 at hM' x2' sz ⊢
  generalize w1.heap.size + 1 + 1 + 1 + 1 + 1 = g1 at *
  generalize w1.heap.size + 1 + 1 + 1 + 1 = g at *
  subst sz
  have b0 : Blk (w2.alloc (.cells #[.slice (some ⟨g, 0, none⟩) 4 4] 53)) w2.heap.size 53 #[.slice (some ⟨g, 0, none⟩) 4 4] := Blk.new _ _ _
  have hM3 := hM'.ext (ext_alloc w2 (.cells #[.slice (some ⟨g, 0, none⟩) 4 4] 53))
  have x3 := ext_trans (ext_trans x1 x2') (ext_alloc w2 (.cells #[.slice (some ⟨g, 0, none⟩) 4 4] 53))
  generalize w2.alloc (.cells #[.slice (some ⟨g, 0, none⟩) 4 4] 53) = w3 at b0 hM3 x3 ⊢
  generalize w2.heap.size = g2 at b0 ⊢
  clear x1 x2' hM'
  go_cut [6, 7] (fun s6 s7 wc => (∃ I J : Int, 0 ≤ I ∧ I < 4 ∧ 0 ≤ J ∧ J < 4 ∧ s6 = .int .i64 I ∧ s7 = .int .i64 J) ∧ w3 = wc)
  case first =>
    go_wp2
    go_meet

    exact ⟨⟨_, _, by omega, by omega, by omega, by omega, rfl, rfl⟩, rfl⟩
  case rest =>
    obtain ⟨⟨I, J, i0, i4, j0, j4, rfl, rfl⟩, rfl⟩ := hcut
    have ck := b0.cell 0
    simp only [List.getElem?_toArray, List.getElem?_cons_zero] at ck
    have hl : R.length ≤ 9223372036854775807 := by rw [HL.out]; decide
    rcases (by omega : I = 0 ∨ I = 1 ∨ I = 2 ∨ I = 3) with rfl | rfl | rfl | rfl
    · rcases (by omega : J = 0 ∨ J = 1 ∨ J = 2 ∨ J = 3) with rfl | rfl | rfl | rfl
      · have P : Ext w3 w3 := Below.refl _ _
        have hJ := latJoin_any (some ⟨g, 0, none⟩) 4 R 0 0 _ 0 (hM3.ext P) hl
        rw [HL.out] at hJ
        go_wp2_with fail
        refine hJ.mono ?_
        clear hJ
        rintro e v1 ⟨rfl, y⟩
        rw [show joinN (mat R) 0 0 = 0 by rw [HD.out]; decide, show joinB (mat R) 0 0 = true by rw [HD.out]; decide]
        replace P := ext_trans P y
        replace ck := ext_cell y ck
        clear y
        have hJ := check_any (some ⟨g, 0, none⟩) 4 R _ 0 (hM3.ext P) hl
        rw [HL.out] at hJ
        go_wp2_with fail
        refine hJ.mono ?_
        clear hJ
        rintro e v2 ⟨rfl, y⟩
        rw [show lchk (mat R) = 0 by rw [HD.out]; decide]
        replace P := ext_trans P y
        replace ck := ext_cell y ck
        clear y
        have hJ := latCovers_any (some ⟨g, 0, none⟩) 4 R 2 _ 0 (hM3.ext P) hl
        rw [HL.out] at hJ
        go_wp2_with fail
        refine hJ.mono ?_
        clear hJ
        rintro e v3 ⟨v, rfl, hown, y⟩
        obtain ⟨A1, c1, rfl⟩ := hown.form
        rw [show (lcovers (mat R) 2).length = 2 by rw [HD.out]; decide]
        clear hown
        replace P := ext_trans P y
        replace ck := ext_cell y ck
        clear y
        go_wp2
        go_ret
        exact ⟨rfl, ext_trans x3 P⟩
      · have P : Ext w3 w3 := Below.refl _ _
        have hJ := latJoin_any (some ⟨g, 0, none⟩) 4 R 0 1 _ 0 (hM3.ext P) hl
        rw [HL.out] at hJ
        go_wp2_with fail
        refine hJ.mono ?_
        clear hJ
        rintro e v1 ⟨rfl, y⟩
        rw [show joinN (mat R) 0 1 = 0 by rw [HD.out]; decide, show joinB (mat R) 0 1 = false by rw [HD.out]; decide]
        replace P := ext_trans P y
        replace ck := ext_cell y ck
        clear y
        have hJ := check_any (some ⟨g, 0, none⟩) 4 R _ 0 (hM3.ext P) hl
        rw [HL.out] at hJ
        go_wp2_with fail
        refine hJ.mono ?_
        clear hJ
        rintro e v2 ⟨rfl, y⟩
        rw [show lchk (mat R) = 0 by rw [HD.out]; decide]
        replace P := ext_trans P y
        replace ck := ext_cell y ck
        clear y
        have hJ := latCovers_any (some ⟨g, 0, none⟩) 4 R 2 _ 0 (hM3.ext P) hl
        rw [HL.out] at hJ
        go_wp2_with fail
        refine hJ.mono ?_
        clear hJ
        rintro e v3 ⟨v, rfl, hown, y⟩
        obtain ⟨A1, c1, rfl⟩ := hown.form
        rw [show (lcovers (mat R) 2).length = 2 by rw [HD.out]; decide]
        clear hown
        replace P := ext_trans P y
        replace ck := ext_cell y ck
        clear y
        go_wp2
        go_ret
        exact ⟨rfl, ext_trans x3 P⟩
      · have P : Ext w3 w3 := Below.refl _ _
        have hJ := latJoin_any (some ⟨g, 0, none⟩) 4 R 0 2 _ 0 (hM3.ext P) hl
        rw [HL.out] at hJ
        go_wp2_with fail
        refine hJ.mono ?_
        clear hJ
        rintro e v1 ⟨rfl, y⟩
        rw [show joinN (mat R) 0 2 = 2 by rw [HD.out]; decide, show joinB (mat R) 0 2 = true by rw [HD.out]; decide]
        replace P := ext_trans P y
        replace ck := ext_cell y ck
        clear y
        have hJ := check_any (some ⟨g, 0, none⟩) 4 R _ 0 (hM3.ext P) hl
        rw [HL.out] at hJ
        go_wp2_with fail
        refine hJ.mono ?_
        clear hJ
        rintro e v2 ⟨rfl, y⟩
        rw [show lchk (mat R) = 0 by rw [HD.out]; decide]
        replace P := ext_trans P y
        replace ck := ext_cell y ck
        clear y
        have hJ := latCovers_any (some ⟨g, 0, none⟩) 4 R 2 _ 0 (hM3.ext P) hl
        rw [HL.out] at hJ
        go_wp2_with fail
        refine hJ.mono ?_
        clear hJ
        rintro e v3 ⟨v, rfl, hown, y⟩
        obtain ⟨A1, c1, rfl⟩ := hown.form
        rw [show (lcovers (mat R) 2).length = 2 by rw [HD.out]; decide]
        clear hown
        replace P := ext_trans P y
        replace ck := ext_cell y ck
        clear y
        go_wp2
        go_ret
        exact ⟨rfl, ext_trans x3 P⟩
      · have P : Ext w3 w3 := Below.refl _ _
        have hJ := latJoin_any (some ⟨g, 0, none⟩) 4 R 0 3 _ 0 (hM3.ext P) hl
        rw [HL.out] at hJ
        go_wp2_with fail
        refine hJ.mono ?_
        clear hJ
        rintro e v1 ⟨rfl, y⟩
        rw [show joinN (mat R) 0 3 = 3 by rw [HD.out]; decide, show joinB (mat R) 0 3 = true by rw [HD.out]; decide]
        replace P := ext_trans P y
        replace ck := ext_cell y ck
        clear y
        have hJ := check_any (some ⟨g, 0, none⟩) 4 R _ 0 (hM3.ext P) hl
        rw [HL.out] at hJ
        go_wp2_with fail
        refine hJ.mono ?_
        clear hJ
        rintro e v2 ⟨rfl, y⟩
        rw [show lchk (mat R) = 0 by rw [HD.out]; decide]
        replace P := ext_trans P y
        replace ck := ext_cell y ck
        clear y
        have hJ := latCovers_any (some ⟨g, 0, none⟩) 4 R 2 _ 0 (hM3.ext P) hl
        rw [HL.out] at hJ
        go_wp2_with fail
        refine hJ.mono ?_
        clear hJ
        rintro e v3 ⟨v, rfl, hown, y⟩
        obtain ⟨A1, c1, rfl⟩ := hown.form
        rw [show (lcovers (mat R) 2).length = 2 by rw [HD.out]; decide]
        clear hown
        replace P := ext_trans P y
        replace ck := ext_cell y ck
        clear y
        go_wp2
        go_ret
        exact ⟨rfl, ext_trans x3 P⟩
    · rcases (by omega : J = 0 ∨ J = 1 ∨ J = 2 ∨ J = 3) with rfl | rfl | rfl | rfl
      · have P : Ext w3 w3 := Below.refl _ _
        have hJ := latJoin_any (some ⟨g, 0, none⟩) 4 R 1 0 _ 0 (hM3.ext P) hl
        rw [HL.out] at hJ
        go_wp2_with fail
        refine hJ.mono ?_
        clear hJ
        rintro e v1 ⟨rfl, y⟩
        rw [show joinN (mat R) 1 0 = 0 by rw [HD.out]; decide, show joinB (mat R) 1 0 = false by rw [HD.out]; decide]
        replace P := ext_trans P y
        replace ck := ext_cell y ck
        clear y
        have hJ := check_any (some ⟨g, 0, none⟩) 4 R _ 0 (hM3.ext P) hl
        rw [HL.out] at hJ
        go_wp2_with fail
        refine hJ.mono ?_
        clear hJ
        rintro e v2 ⟨rfl, y⟩
        rw [show lchk (mat R) = 0 by rw [HD.out]; decide]
        replace P := ext_trans P y
        replace ck := ext_cell y ck
        clear y
        have hJ := latCovers_any (some ⟨g, 0, none⟩) 4 R 2 _ 0 (hM3.ext P) hl
        rw [HL.out] at hJ
        go_wp2_with fail
        refine hJ.mono ?_
        clear hJ
        rintro e v3 ⟨v, rfl, hown, y⟩
        obtain ⟨A1, c1, rfl⟩ := hown.form
        rw [show (lcovers (mat R) 2).length = 2 by rw [HD.out]; decide]
        clear hown
        replace P := ext_trans P y
        replace ck := ext_cell y ck
        clear y
        go_wp2
        go_ret
        exact ⟨rfl, ext_trans x3 P⟩
      · have P : Ext w3 w3 := Below.refl _ _
        have hJ := latJoin_any (some ⟨g, 0, none⟩) 4 R 1 1 _ 0 (hM3.ext P) hl
        rw [HL.out] at hJ
        go_wp2_with fail
        refine hJ.mono ?_
        clear hJ
        rintro e v1 ⟨rfl, y⟩
        rw [show joinN (mat R) 1 1 = 1 by rw [HD.out]; decide, show joinB (mat R) 1 1 = true by rw [HD.out]; decide]
        replace P := ext_trans P y
        replace ck := ext_cell y ck
        clear y
        have hJ := check_any (some ⟨g, 0, none⟩) 4 R _ 0 (hM3.ext P) hl
        rw [HL.out] at hJ
        go_wp2_with fail
        refine hJ.mono ?_
        clear hJ
        rintro e v2 ⟨rfl, y⟩
        rw [show lchk (mat R) = 0 by rw [HD.out]; decide]
        replace P := ext_trans P y
        replace ck := ext_cell y ck
        clear y
        have hJ := latCovers_any (some ⟨g, 0, none⟩) 4 R 2 _ 0 (hM3.ext P) hl
        rw [HL.out] at hJ
        go_wp2_with fail
        refine hJ.mono ?_
        clear hJ
        rintro e v3 ⟨v, rfl, hown, y⟩
        obtain ⟨A1, c1, rfl⟩ := hown.form
        rw [show (lcovers (mat R) 2).length = 2 by rw [HD.out]; decide]
        clear hown
        replace P := ext_trans P y
        replace ck := ext_cell y ck
        clear y
        go_wp2
        go_ret
        exact ⟨rfl, ext_trans x3 P⟩
      · have P : Ext w3 w3 := Below.refl _ _
        have hJ := latJoin_any (some ⟨g, 0, none⟩) 4 R 1 2 _ 0 (hM3.ext P) hl
        rw [HL.out] at hJ
        go_wp2_with fail
        refine hJ.mono ?_
        clear hJ
        rintro e v1 ⟨rfl, y⟩
        rw [show joinN (mat R) 1 2 = 2 by rw [HD.out]; decide, show joinB (mat R) 1 2 = true by rw [HD.out]; decide]
        replace P := ext_trans P y
        replace ck := ext_cell y ck
        clear y
        have hJ := check_any (some ⟨g, 0, none⟩) 4 R _ 0 (hM3.ext P) hl
        rw [HL.out] at hJ
        go_wp2_with fail
        refine hJ.mono ?_
        clear hJ
        rintro e v2 ⟨rfl, y⟩
        rw [show lchk (mat R) = 0 by rw [HD.out]; decide]
        replace P := ext_trans P y
        replace ck := ext_cell y ck
        clear y
        have hJ := latCovers_any (some ⟨g, 0, none⟩) 4 R 2 _ 0 (hM3.ext P) hl
        rw [HL.out] at hJ
        go_wp2_with fail
        refine hJ.mono ?_
        clear hJ
        rintro e v3 ⟨v, rfl, hown, y⟩
        obtain ⟨A1, c1, rfl⟩ := hown.form
        rw [show (lcovers (mat R) 2).length = 2 by rw [HD.out]; decide]
        clear hown
        replace P := ext_trans P y
        replace ck := ext_cell y ck
        clear y
        go_wp2
        go_ret
        exact ⟨rfl, ext_trans x3 P⟩
      · have P : Ext w3 w3 := Below.refl _ _
        have hJ := latJoin_any (some ⟨g, 0, none⟩) 4 R 1 3 _ 0 (hM3.ext P) hl
        rw [HL.out] at hJ
        go_wp2_with fail
        refine hJ.mono ?_
        clear hJ
        rintro e v1 ⟨rfl, y⟩
        rw [show joinN (mat R) 1 3 = 3 by rw [HD.out]; decide, show joinB (mat R) 1 3 = true by rw [HD.out]; decide]
        replace P := ext_trans P y
        replace ck := ext_cell y ck
        clear y
        have hJ := check_any (some ⟨g, 0, none⟩) 4 R _ 0 (hM3.ext P) hl
        rw [HL.out] at hJ
        go_wp2_with fail
        refine hJ.mono ?_
        clear hJ
        rintro e v2 ⟨rfl, y⟩
        rw [show lchk (mat R) = 0 by rw [HD.out]; decide]
        replace P := ext_trans P y
        replace ck := ext_cell y ck
        clear y
        have hJ := latCovers_any (some ⟨g, 0, none⟩) 4 R 2 _ 0 (hM3.ext P) hl
        rw [HL.out] at hJ
        go_wp2_with fail
        refine hJ.mono ?_
        clear hJ
        rintro e v3 ⟨v, rfl, hown, y⟩
        obtain ⟨A1, c1, rfl⟩ := hown.form
        rw [show (lcovers (mat R) 2).length = 2 by rw [HD.out]; decide]
        clear hown
        replace P := ext_trans P y
        replace ck := ext_cell y ck
        clear y
        go_wp2
        go_ret
        exact ⟨rfl, ext_trans x3 P⟩
    · rcases (by omega : J = 0 ∨ J = 1 ∨ J = 2 ∨ J = 3) with rfl | rfl | rfl | rfl
      · have P : Ext w3 w3 := Below.refl _ _
        have hJ := latJoin_any (some ⟨g, 0, none⟩) 4 R 2 0 _ 0 (hM3.ext P) hl
        rw [HL.out] at hJ
        go_wp2_with fail
        refine hJ.mono ?_
        clear hJ
        rintro e v1 ⟨rfl, y⟩
        rw [show joinN (mat R) 2 0 = 2 by rw [HD.out]; decide, show joinB (mat R) 2 0 = true by rw [HD.out]; decide]
        replace P := ext_trans P y
        replace ck := ext_cell y ck
        clear y
        have hJ := check_any (some ⟨g, 0, none⟩) 4 R _ 0 (hM3.ext P) hl
        rw [HL.out] at hJ
        go_wp2_with fail
        refine hJ.mono ?_
        clear hJ
        rintro e v2 ⟨rfl, y⟩
        rw [show lchk (mat R) = 0 by rw [HD.out]; decide]
        replace P := ext_trans P y
        replace ck := ext_cell y ck
        clear y
        have hJ := latCovers_any (some ⟨g, 0, none⟩) 4 R 2 _ 0 (hM3.ext P) hl
        rw [HL.out] at hJ
        go_wp2_with fail
        refine hJ.mono ?_
        clear hJ
        rintro e v3 ⟨v, rfl, hown, y⟩
        obtain ⟨A1, c1, rfl⟩ := hown.form
        rw [show (lcovers (mat R) 2).length = 2 by rw [HD.out]; decide]
        clear hown
        replace P := ext_trans P y
        replace ck := ext_cell y ck
        clear y
        go_wp2
        go_ret
        exact ⟨rfl, ext_trans x3 P⟩
      · have P : Ext w3 w3 := Below.refl _ _
        have hJ := latJoin_any (some ⟨g, 0, none⟩) 4 R 2 1 _ 0 (hM3.ext P) hl
        rw [HL.out] at hJ
        go_wp2_with fail
        refine hJ.mono ?_
        clear hJ
        rintro e v1 ⟨rfl, y⟩
        rw [show joinN (mat R) 2 1 = 2 by rw [HD.out]; decide, show joinB (mat R) 2 1 = true by rw [HD.out]; decide]
        replace P := ext_trans P y
        replace ck := ext_cell y ck
        clear y
        have hJ := check_any (some ⟨g, 0, none⟩) 4 R _ 0 (hM3.ext P) hl
        rw [HL.out] at hJ
        go_wp2_with fail
        refine hJ.mono ?_
        clear hJ
        rintro e v2 ⟨rfl, y⟩
        rw [show lchk (mat R) = 0 by rw [HD.out]; decide]
        replace P := ext_trans P y
        replace ck := ext_cell y ck
        clear y
        have hJ := latCovers_any (some ⟨g, 0, none⟩) 4 R 2 _ 0 (hM3.ext P) hl
        rw [HL.out] at hJ
        go_wp2_with fail
        refine hJ.mono ?_
        clear hJ
        rintro e v3 ⟨v, rfl, hown, y⟩
        obtain ⟨A1, c1, rfl⟩ := hown.form
        rw [show (lcovers (mat R) 2).length = 2 by rw [HD.out]; decide]
        clear hown
        replace P := ext_trans P y
        replace ck := ext_cell y ck
        clear y
        go_wp2
        go_ret
        exact ⟨rfl, ext_trans x3 P⟩
      · have P : Ext w3 w3 := Below.refl _ _
        have hJ := latJoin_any (some ⟨g, 0, none⟩) 4 R 2 2 _ 0 (hM3.ext P) hl
        rw [HL.out] at hJ
        go_wp2_with fail
        refine hJ.mono ?_
        clear hJ
        rintro e v1 ⟨rfl, y⟩
        rw [show joinN (mat R) 2 2 = 2 by rw [HD.out]; decide, show joinB (mat R) 2 2 = true by rw [HD.out]; decide]
        replace P := ext_trans P y
        replace ck := ext_cell y ck
        clear y
        have hJ := check_any (some ⟨g, 0, none⟩) 4 R _ 0 (hM3.ext P) hl
        rw [HL.out] at hJ
        go_wp2_with fail
        refine hJ.mono ?_
        clear hJ
        rintro e v2 ⟨rfl, y⟩
        rw [show lchk (mat R) = 0 by rw [HD.out]; decide]
        replace P := ext_trans P y
        replace ck := ext_cell y ck
        clear y
        have hJ := latCovers_any (some ⟨g, 0, none⟩) 4 R 2 _ 0 (hM3.ext P) hl
        rw [HL.out] at hJ
        go_wp2_with fail
        refine hJ.mono ?_
        clear hJ
        rintro e v3 ⟨v, rfl, hown, y⟩
        obtain ⟨A1, c1, rfl⟩ := hown.form
        rw [show (lcovers (mat R) 2).length = 2 by rw [HD.out]; decide]
        clear hown
        replace P := ext_trans P y
        replace ck := ext_cell y ck
        clear y
        go_wp2
        go_ret
        exact ⟨rfl, ext_trans x3 P⟩
      · have P : Ext w3 w3 := Below.refl _ _
        have hJ := latJoin_any (some ⟨g, 0, none⟩) 4 R 2 3 _ 0 (hM3.ext P) hl
        rw [HL.out] at hJ
        go_wp2_with fail
        refine hJ.mono ?_
        clear hJ
        rintro e v1 ⟨rfl, y⟩
        rw [show joinN (mat R) 2 3 = 0 by rw [HD.out]; decide, show joinB (mat R) 2 3 = false by rw [HD.out]; decide]
        replace P := ext_trans P y
        replace ck := ext_cell y ck
        clear y
        have hJ := check_any (some ⟨g, 0, none⟩) 4 R _ 0 (hM3.ext P) hl
        rw [HL.out] at hJ
        go_wp2_with fail
        refine hJ.mono ?_
        clear hJ
        rintro e v2 ⟨rfl, y⟩
        rw [show lchk (mat R) = 0 by rw [HD.out]; decide]
        replace P := ext_trans P y
        replace ck := ext_cell y ck
        clear y
        have hJ := latCovers_any (some ⟨g, 0, none⟩) 4 R 2 _ 0 (hM3.ext P) hl
        rw [HL.out] at hJ
        go_wp2_with fail
        refine hJ.mono ?_
        clear hJ
        rintro e v3 ⟨v, rfl, hown, y⟩
        obtain ⟨A1, c1, rfl⟩ := hown.form
        rw [show (lcovers (mat R) 2).length = 2 by rw [HD.out]; decide]
        clear hown
        replace P := ext_trans P y
        replace ck := ext_cell y ck
        clear y
        go_wp2
        go_ret
        exact ⟨rfl, ext_trans x3 P⟩
    · rcases (by omega : J = 0 ∨ J = 1 ∨ J = 2 ∨ J = 3) with rfl | rfl | rfl | rfl
      · have P : Ext w3 w3 := Below.refl _ _
        have hJ := latJoin_any (some ⟨g, 0, none⟩) 4 R 3 0 _ 0 (hM3.ext P) hl
        rw [HL.out] at hJ
        go_wp2_with fail
        refine hJ.mono ?_
        clear hJ
        rintro e v1 ⟨rfl, y⟩
        rw [show joinN (mat R) 3 0 = 3 by rw [HD.out]; decide, show joinB (mat R) 3 0 = true by rw [HD.out]; decide]
        replace P := ext_trans P y
        replace ck := ext_cell y ck
        clear y
        have hJ := check_any (some ⟨g, 0, none⟩) 4 R _ 0 (hM3.ext P) hl
        rw [HL.out] at hJ
        go_wp2_with fail
        refine hJ.mono ?_
        clear hJ
        rintro e v2 ⟨rfl, y⟩
        rw [show lchk (mat R) = 0 by rw [HD.out]; decide]
        replace P := ext_trans P y
        replace ck := ext_cell y ck
        clear y
        have hJ := latCovers_any (some ⟨g, 0, none⟩) 4 R 2 _ 0 (hM3.ext P) hl
        rw [HL.out] at hJ
        go_wp2_with fail
        refine hJ.mono ?_
        clear hJ
        rintro e v3 ⟨v, rfl, hown, y⟩
        obtain ⟨A1, c1, rfl⟩ := hown.form
        rw [show (lcovers (mat R) 2).length = 2 by rw [HD.out]; decide]
        clear hown
        replace P := ext_trans P y
        replace ck := ext_cell y ck
        clear y
        go_wp2
        go_ret
        exact ⟨rfl, ext_trans x3 P⟩
      · have P : Ext w3 w3 := Below.refl _ _
        have hJ := latJoin_any (some ⟨g, 0, none⟩) 4 R 3 1 _ 0 (hM3.ext P) hl
        rw [HL.out] at hJ
        go_wp2_with fail
        refine hJ.mono ?_
        clear hJ
        rintro e v1 ⟨rfl, y⟩
        rw [show joinN (mat R) 3 1 = 3 by rw [HD.out]; decide, show joinB (mat R) 3 1 = true by rw [HD.out]; decide]
        replace P := ext_trans P y
        replace ck := ext_cell y ck
        clear y
        have hJ := check_any (some ⟨g, 0, none⟩) 4 R _ 0 (hM3.ext P) hl
        rw [HL.out] at hJ
        go_wp2_with fail
        refine hJ.mono ?_
        clear hJ
        rintro e v2 ⟨rfl, y⟩
        rw [show lchk (mat R) = 0 by rw [HD.out]; decide]
        replace P := ext_trans P y
        replace ck := ext_cell y ck
        clear y
        have hJ := latCovers_any (some ⟨g, 0, none⟩) 4 R 2 _ 0 (hM3.ext P) hl
        rw [HL.out] at hJ
        go_wp2_with fail
        refine hJ.mono ?_
        clear hJ
        rintro e v3 ⟨v, rfl, hown, y⟩
        obtain ⟨A1, c1, rfl⟩ := hown.form
        rw [show (lcovers (mat R) 2).length = 2 by rw [HD.out]; decide]
        clear hown
        replace P := ext_trans P y
        replace ck := ext_cell y ck
        clear y
        go_wp2
        go_ret
        exact ⟨rfl, ext_trans x3 P⟩
      · have P : Ext w3 w3 := Below.refl _ _
        have hJ := latJoin_any (some ⟨g, 0, none⟩) 4 R 3 2 _ 0 (hM3.ext P) hl
        rw [HL.out] at hJ
        go_wp2_with fail
        refine hJ.mono ?_
        clear hJ
        rintro e v1 ⟨rfl, y⟩
        rw [show joinN (mat R) 3 2 = 0 by rw [HD.out]; decide, show joinB (mat R) 3 2 = false by rw [HD.out]; decide]
        replace P := ext_trans P y
        replace ck := ext_cell y ck
        clear y
        have hJ := check_any (some ⟨g, 0, none⟩) 4 R _ 0 (hM3.ext P) hl
        rw [HL.out] at hJ
        go_wp2_with fail
        refine hJ.mono ?_
        clear hJ
        rintro e v2 ⟨rfl, y⟩
        rw [show lchk (mat R) = 0 by rw [HD.out]; decide]
        replace P := ext_trans P y
        replace ck := ext_cell y ck
        clear y
        have hJ := latCovers_any (some ⟨g, 0, none⟩) 4 R 2 _ 0 (hM3.ext P) hl
        rw [HL.out] at hJ
        go_wp2_with fail
        refine hJ.mono ?_
        clear hJ
        rintro e v3 ⟨v, rfl, hown, y⟩
        obtain ⟨A1, c1, rfl⟩ := hown.form
        rw [show (lcovers (mat R) 2).length = 2 by rw [HD.out]; decide]
        clear hown
        replace P := ext_trans P y
        replace ck := ext_cell y ck
        clear y
        go_wp2
        go_ret
        exact ⟨rfl, ext_trans x3 P⟩
      · have P : Ext w3 w3 := Below.refl _ _
        have hJ := latJoin_any (some ⟨g, 0, none⟩) 4 R 3 3 _ 0 (hM3.ext P) hl
        rw [HL.out] at hJ
        go_wp2_with fail
        refine hJ.mono ?_
        clear hJ
        rintro e v1 ⟨rfl, y⟩
        rw [show joinN (mat R) 3 3 = 3 by rw [HD.out]; decide, show joinB (mat R) 3 3 = true by rw [HD.out]; decide]
        replace P := ext_trans P y
        replace ck := ext_cell y ck
        clear y
        have hJ := check_any (some ⟨g, 0, none⟩) 4 R _ 0 (hM3.ext P) hl
        rw [HL.out] at hJ
        go_wp2_with fail
        refine hJ.mono ?_
        clear hJ
        rintro e v2 ⟨rfl, y⟩
        rw [show lchk (mat R) = 0 by rw [HD.out]; decide]
        replace P := ext_trans P y
        replace ck := ext_cell y ck
        clear y
        have hJ := latCovers_any (some ⟨g, 0, none⟩) 4 R 2 _ 0 (hM3.ext P) hl
        rw [HL.out] at hJ
        go_wp2_with fail
        refine hJ.mono ?_
        clear hJ
        rintro e v3 ⟨v, rfl, hown, y⟩
        obtain ⟨A1, c1, rfl⟩ := hown.form
        rw [show (lcovers (mat R) 2).length = 2 by rw [HD.out]; decide]
        clear hown
        replace P := ext_trans P y
        replace ck := ext_cell y ck
        clear y
        go_wp2
        go_ret
        exact ⟨rfl, ext_trans x3 P⟩
end Go.Proofs.Ytdknkbpgkkakhaa
