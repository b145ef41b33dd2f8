/- Layer 1: a lattice written out; what is known of the diamond. -/
import Derived.Test.YtdknkbpgkkakhaaLat12
namespace Go.Proofs.Ytdknkbpgkkakhaa
open Go.RowKit

/-- A block of elements of one cell each. -/
theorem rows_list1 {α : Type} {w : World} {g : Nat} {t : TypeId} {f : α → Value} {B : Nat} (ys : List α) (h : Blk w g t (ys.map f).toArray) : RowsAt w B t 1 (fun x => [f x]) (some ⟨g, 0, none⟩) ys := by
  intro i hi
  refine ⟨_, rfl, .inr ⟨_, _, h⟩, fun j v hj => ?_⟩
  have hj0 : j = 0 := by
    have := (List.getElem?_eq_some_iff.1 hj).1
    simp at this; exact this
  subst hj0
  have hv : v = f ys[i] := by simpa using hj.symm
  rw [hv, Nat.mul_one, add_zero, addr_at rfl rfl, h.cell]
  simp [hi]
theorem bits_list {w : World} {g : Nat} {B : Nat} (ys : List Bool) (h : Blk w g 4 (ys.map Value.bool).toArray) : BitsAt w B (some ⟨g, 0, none⟩) ys := rows_list1 ys h
theorem rws_list {w : World} {g : Nat} {B : Nat} (ys : List Rw) (h : Blk w g 23 (ys.map fun r => Value.slice r.A r.bs.length r.c).toArray) : RowsAt w B 23 1 Rw.cells (some ⟨g, 0, none⟩) ys := rows_list1 ys h

def diamondM : Mat := [[true, false, false, false], [true, true, false, false], [true, false, true, false], [true, true, true, true]]

def rowBlk (l : List Bool) : Obj := .cells (l.map Value.bool).toArray 4
set_option maxRecDepth 100000 in
set_option maxHeartbeats 1000000 in
theorem diamond_any (w : World) : Calls Try.prog 96 #[] w (ChainPost w diamondM) := by
  have hx1 : Ext w (w.alloc (.cells #[.slice none 0 0] 53)) := ext_alloc _ _
  have r0 : Blk (w.alloc (.cells #[.slice none 0 0] 53)) w.heap.size 53 #[.slice none 0 0] := Blk.new _ _ _
  have hsz : (w.alloc (.cells #[.slice none 0 0] 53)).heap.size = w.heap.size + 1 := by simp
  go_enter Try.func96, Try.ntmps96
  go_upto_region 1 with fail
  generalize w.alloc (.cells #[.slice none 0 0] 53) = w1 at hx1 r0 hsz ⊢
  have HSZ := Lib.hid hsz; clear hsz
  have hlt : w.heap.size < w1.heap.size := r0.lt
  have f1 := (((((r0.ext (ext_alloc _ (.cells #[.bool true, .bool false, .bool false, .bool false] 4))).ext (ext_alloc _ (.cells #[.bool true, .bool true, .bool false, .bool false] 4))).ext (ext_alloc _ (.cells #[.bool true, .bool false, .bool true, .bool false] 4))).ext (ext_alloc _ (.cells #[.bool true, .bool true, .bool true, .bool true] 4))).ext (ext_alloc _ (.cells #[.slice (some ⟨w1.heap.size, 0, none⟩) 4 4, .slice (some ⟨w1.heap.size + 1, 0, none⟩) 4 4, .slice (some ⟨w1.heap.size + 1 + 1, 0, none⟩) 4 4, .slice (some ⟨w1.heap.size + 1 + 1 + 1, 0, none⟩) 4 4] 23))).frozen 0
  have r1 := (((((r0.ext (ext_alloc _ (.cells #[.bool true, .bool false, .bool false, .bool false] 4))).ext (ext_alloc _ (.cells #[.bool true, .bool true, .bool false, .bool false] 4))).ext (ext_alloc _ (.cells #[.bool true, .bool false, .bool true, .bool false] 4))).ext (ext_alloc _ (.cells #[.bool true, .bool true, .bool true, .bool true] 4))).ext (ext_alloc _ (.cells #[.slice (some ⟨w1.heap.size, 0, none⟩) 4 4, .slice (some ⟨w1.heap.size + 1, 0, none⟩) 4 4, .slice (some ⟨w1.heap.size + 1 + 1, 0, none⟩) 4 4, .slice (some ⟨w1.heap.size + 1 + 1 + 1, 0, none⟩) 4 4] 23))).cell 0
  simp only [List.getElem?_toArray, List.getElem?_cons_zero] at r1
  go_wp2
  clear f1 r1
  have e2 := ext_alloc w1 (rowBlk [true, false, false, false])
  have g2 : BitsAt (w1.alloc (rowBlk [true, false, false, false])) w.heap.size (some ⟨w1.heap.size, 0, none⟩) [true, false, false, false] := bits_list _ (Blk.new _ _ _)
  have s2 : (w1.alloc (rowBlk [true, false, false, false])).heap.size = w1.heap.size + 1 := by simp
  change bodyPost _ _ _ _ _ ((((((w1.alloc (rowBlk [true, false, false, false])).alloc (rowBlk [true, true, false, false])).alloc (rowBlk [true, false, true, false])).alloc (rowBlk [true, true, true, true])).alloc _).setCell _ _)
  generalize w1.alloc (rowBlk [true, false, false, false]) = w2 at *
  have e3 := ext_alloc w2 (rowBlk [true, true, false, false])
  have g3 : BitsAt (w2.alloc (rowBlk [true, true, false, false])) w.heap.size (some ⟨w2.heap.size, 0, none⟩) [true, true, false, false] := bits_list _ (Blk.new _ _ _)
  have s3 : (w2.alloc (rowBlk [true, true, false, false])).heap.size = w2.heap.size + 1 := by simp
  generalize w2.alloc (rowBlk [true, true, false, false]) = w3 at *
  have e4 := ext_alloc w3 (rowBlk [true, false, true, false])
  have g4 : BitsAt (w3.alloc (rowBlk [true, false, true, false])) w.heap.size (some ⟨w3.heap.size, 0, none⟩) [true, false, true, false] := bits_list _ (Blk.new _ _ _)
  have s4 : (w3.alloc (rowBlk [true, false, true, false])).heap.size = w3.heap.size + 1 := by simp
  generalize w3.alloc (rowBlk [true, false, true, false]) = w4 at *
  have e5 := ext_alloc w4 (rowBlk [true, true, true, true])
  have g5 : BitsAt (w4.alloc (rowBlk [true, true, true, true])) w.heap.size (some ⟨w4.heap.size, 0, none⟩) [true, true, true, true] := bits_list _ (Blk.new _ _ _)
  have s5 : (w4.alloc (rowBlk [true, true, true, true])).heap.size = w4.heap.size + 1 := by simp
  generalize w4.alloc (rowBlk [true, true, true, true]) = w5 at *
  rw [show w1.heap.size + 1 + 1 + 1 + 1 = w5.heap.size by omega, show w1.heap.size + 1 + 1 + 1 = w4.heap.size by omega, show w1.heap.size + 1 + 1 = w3.heap.size by omega, show w1.heap.size + 1 = w2.heap.size by omega]
  have g6 : Blk (w5.alloc (.cells #[.slice (some ⟨w1.heap.size, 0, none⟩) 4 4, .slice (some ⟨w2.heap.size, 0, none⟩) 4 4, .slice (some ⟨w3.heap.size, 0, none⟩) 4 4, .slice (some ⟨w4.heap.size, 0, none⟩) 4 4] 23)) w5.heap.size 23 _ := Blk.new _ _ _
  have e6 := ext_alloc w5 (.cells #[.slice (some ⟨w1.heap.size, 0, none⟩) 4 4, .slice (some ⟨w2.heap.size, 0, none⟩) 4 4, .slice (some ⟨w3.heap.size, 0, none⟩) 4 4, .slice (some ⟨w4.heap.size, 0, none⟩) 4 4] 23)
  generalize w5.alloc (.cells #[.slice (some ⟨w1.heap.size, 0, none⟩) 4 4, .slice (some ⟨w2.heap.size, 0, none⟩) 4 4, .slice (some ⟨w3.heap.size, 0, none⟩) 4 4, .slice (some ⟨w4.heap.size, 0, none⟩) 4 4] 23) = w6 at *
  have r6 := r0.ext (ext_trans e2 (ext_trans e3 (ext_trans e4 (ext_trans e5 e6))))
  have hne : w5.heap.size ≠ w.heap.size := by omega
  have hk : Keeps w.heap.size [53] w6 (w6.setCell ⟨w.heap.size, 0, none⟩ (.slice (some ⟨w5.heap.size, 0, none⟩) 4 4)) := keeps_set1 r6 (Nat.le_refl _) 0 _
  have q := (r6.set_ 0 (.slice (some ⟨w5.heap.size, 0, none⟩) 4 4)).cell 0
  simp only [List.setIfInBounds_toArray, List.set_cons_zero, List.getElem?_toArray, List.getElem?_cons_zero] at q
  have hM : MatAt w6 w.heap.size (some ⟨w5.heap.size, 0, none⟩) [⟨some ⟨w1.heap.size, 0, none⟩, 4, [true, false, false, false]⟩, ⟨some ⟨w2.heap.size, 0, none⟩, 4, [true, true, false, false]⟩, ⟨some ⟨w3.heap.size, 0, none⟩, 4, [true, false, true, false]⟩, ⟨some ⟨w4.heap.size, 0, none⟩, 4, [true, true, true, true]⟩] := by
    refine ⟨rws_list _ g6, ?_⟩
    intro r hr
    simp only [List.mem_cons, List.not_mem_nil, or_false] at hr
    rcases hr with rfl | rfl | rfl | rfl
    · exact RowsAt.ext g2 (ext_trans e3 (ext_trans e4 (ext_trans e5 e6)))
    · exact RowsAt.ext g3 (ext_trans e4 (ext_trans e5 e6))
    · exact RowsAt.ext g4 (ext_trans e5 e6)
    · exact RowsAt.ext g5 e6
  refine bodyPost_ret (v := .agg #[.slice (some ⟨w5.heap.size, 0, none⟩) 4 4]) (by simp [results, Try.results96, go_sem, q]) rfl ⟨_, 4, _, rfl, rfl, ⟨hM.rows.keeps (T := [53]) hk (by decide), fun r hr => (hM.each r hr).keeps (T := [53]) hk (by decide)⟩, ?_⟩
  exact (ext_trans hx1 (ext_trans e2 (ext_trans e3 (ext_trans e4 (ext_trans e5 e6))))).setCell (Nat.le_refl _) _
end Go.Proofs.Ytdknkbpgkkakhaa
