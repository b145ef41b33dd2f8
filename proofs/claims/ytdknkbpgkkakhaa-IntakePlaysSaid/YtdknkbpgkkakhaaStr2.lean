/- stream.Stream's Next and Item. -/
import Derived.Test.YtdknkbpgkkakhaaStr1
namespace Go.Proofs.Ytdknkbpgkkakhaa
open Go.RowKit

/-- The item that comes next. -/
def nextIt (lev : Int) (n : Nat) (turn : Int) (ws : List Wr) : It := ⟨lev, (n : Int) + 1, turn, ws.isEmpty, ws⟩
theorem len_beq (ws : List Wr) : ((ws.length : Int) == 0) = ws.isEmpty := by
  cases ws with
  | nil => rfl
  | cons x xs =>
    simp only [List.length_cons, List.isEmpty_cons, beq_eq_false_iff_ne]; omega

abbrev zero33 : Obj := .cells #[.int .i64 0, .int .i64 0, .int .i64 0, .bool false, .slice none 0 0] 33

/-- A store into a block of another type leaves a row of rows as it reads. -/
theorem rows_set {α : Type} {w : World} {B : Nat} {e : TypeId} {s : Nat} {f : α → List Value} {A : Option Addr} {xs : List α} {g : Nat} {t : TypeId} {i : Nat} {u : Value} (hB : B ≤ g) (hne : e ≠ t)
    (h : RowsAt w B e s f A xs ∧ ∃ cs, Blk w g t cs) : RowsAt (w.setCell ⟨g, i, none⟩ u) B e s f A xs ∧ ∃ cs, Blk (w.setCell ⟨g, i, none⟩ u) g t cs := by
  obtain ⟨h1, cs, hb⟩ := h
  refine ⟨h1.keeps (T := [t]) (Keeps.of_mods (mods_setCell w ⟨g, i, none⟩ u) ?_) (by simpa using hne), _, hb.set_ i u⟩
  rintro k rfl
  refine ⟨hB, fun cs' t' fr hk => ?_⟩
  unfold Blk at hb
  rw [hb] at hk
  injection hk with hk
  injection hk with _ hk
  simp [hk]

set_option maxHeartbeats 1000000 in
theorem strNext_any {w : World} {B g : Nat} {lev turn0 : Int} {xs : List Iv} {v : Value} (h : StrAt w B 121 g lev turn0 xs v) (turn : Int) (A : Option Addr) (c : Nat) (ws : List Wr) (B' : Nat) (hA : WrsAt w B' A ws) (hl : ws.length * 40 ≤ 140737488351232) :
    Calls Try.prog 24 #[.pointer (some ⟨g, 0, none⟩), .int .i64 turn, .slice A ws.length c] w
      fun e w' => ∃ A' c', e = .returned (.agg #[.int .i64 lev, .int .i64 ((xs.length : Int) + 1), .int .i64 turn, .bool ws.isEmpty, .slice A' ws.length c']) ∧ WrsAt w' B' A' ws ∧ Ext w w' := by
  have hgl := h.blk.lt
  have hlen := h.len
  obtain ⟨A0, c0, rfl, _⟩ := h.form
  have h' := h.ext (ext_alloc w zero33)
  have k0 := h'.blk.cell 0
  have k2 := h'.blk.cell 2
  simp only [List.getElem?_toArray, List.getElem?_cons_zero, List.getElem?_cons_succ] at k0 k2
  have d0 := fun x (hx : Ext (w.alloc zero33) x) => ext_cell hx k0
  have d2 := fun x (hx : Ext (w.alloc zero33) x) => ext_cell hx k2
  have hle := Lib.hid (len_beq ws)
  have hwp : IntKind.i64.wrap ((xs.length : Int) + 1) = (xs.length : Int) + 1 := IntWalk.i64_in _ (by omega)
  clear k0 k2 h h'
  go_enter Try.func24, Try.ntmps24
  go_wp2
  refine wp_region_plan (.reads 0 (.reads 1 (.reads 2 (.reads 3 (.reads 4 (.reads 5 (.reads 6 (.reads 7 (.reads 8 (.reads 9 (.reads 10 (.reads 11 (.reads 12 (.reads 13 (.reads 14 (.makes 15 (.reads 16 (.turns 17 (.done))))))))))))))))))) (by kernel_rfl) (by kernel_rfl) (fun x => Ext (w.alloc zero33) x) (ext_drewN (w.alloc zero33) 1) ?_
  iterate 15 (refine seg_take0 ⟨_, _, _, _, _, _⟩ _ rfl rfl (fun x hx => by go_simp; try with_reducible rfl) (fun _ _ _ h => h) ?_; simp only [Act.put, List.setIfInBounds_toArray, List.set_cons_zero, List.set_cons_succ])
  refine seg_makes ⟨_, _, _, _, _, _⟩ rfl (fun K hK => ?_)
  go_simp
  refine (cloneWrs_any A c ws _ B' ((hA.ext (ext_alloc w zero33)).ext (ext_drewN _ 1)) hl).mono ?_
  rintro e w1 ⟨v, rfl, hown, hext⟩
  obtain ⟨A', c', rfl⟩ := own_form hown
  have hw1 : Ext (w.alloc zero33) w1 := ext_trans (ext_drewN _ 1) hext
  refine hK _ _ (fun x => Ext w1 x) (Below.refl _ _) (fun x hx => ext_trans (hw1) hx) ?_
  clear hK
  (refine seg_take0 ⟨_, _, _, _, _, _⟩ _ rfl rfl (fun x hx => by go_simp; try with_reducible rfl) (fun _ _ _ h => h) ?_; simp only [Act.put, List.setIfInBounds_toArray, List.set_cons_zero, List.set_cons_succ])
  refine seg_turns ⟨_, _, _, _, _, _⟩ rfl (fun K hK => ?_)
  have b1 : Blk w1 w.heap.size 33 #[.int .i64 0, .int .i64 0, .int .i64 0, .bool false, .slice none 0 0] := (Blk.new _ _ _).ext hw1
  have hz := b1.lt
  have e0 := b1.cell 0
  have e1 := b1.cell 1
  have e2 := b1.cell 2
  have e3 := b1.cell 3
  have e4 := b1.cell 4
  have f1 := b1.frozen
  simp only [List.getElem?_toArray, List.getElem?_cons_zero, List.getElem?_cons_succ] at e0 e1 e2 e3 e4
  have hb : Below w.heap.size w w1 := ext_trans (ext_alloc _ _) hw1
  have hown' : w1.ownsRow (w.heap.size + 1) 47 3 (.slice A' ws.length c') ws.length (flat Wr.cells ws) := by simpa using hown
  clear b1 hext hown hw1
  go_simp
  refine hK _ _ (fun _ => True) trivial ?_
  clear hK
  refine seg_done ?_
  go_wp2
  refine bodyPost_ret (v := .agg #[.int .i64 lev, .int .i64 ((xs.length : Int) + 1), .int .i64 turn, .bool ((ws.length : Int) == 0), .slice A' ws.length c']) (by simp [results, Try.results24, go_sem, e0, e1, e2, e3, e4]) rfl ⟨A', c', by rw [hle.out], ?_, ?_⟩
  · refine RowsAt.of_own (base := w.heap.size + 1) (n := ws.length) (c := c') ?_ Wr.cells_len rfl
    iterate 5 (refine ownsRow_setCell_below ?_ (by simp) _)
    exact hown'
  · iterate 5 (refine Below.setCell ?_ (by simp) _)
    exact hb

set_option maxHeartbeats 1000000 in
theorem strItem_some {w : World} {B g : Nat} {lev turn : Int} {xs : List Iv} {v : Value} (h : StrAt w B 121 g lev turn xs v) (n : Int) (h1 : 1 ≤ n) (h2 : n ≤ xs.length) :
    Calls Try.prog 31 #[.pointer (some ⟨g, 0, none⟩), .int .i64 n] w
      fun e w' => ∃ x A' c', xs[n.toNat - 1]? = some x ∧ e = .returned (.tuple #[.agg #[.int .i64 x.it.level, .int .i64 x.it.n, .int .i64 x.it.turn, .bool x.it.shut, .slice A' x.it.ws.length c'], .bool true]) ∧ WrsAt w' B A' x.it.ws ∧ Ext w w' := by
  obtain ⟨m, rfl⟩ : ∃ m : Nat, n = (m : Int) + 1 := ⟨(n - 1).toNat, by omega⟩
  have hm : m < xs.length := by omega
  have hgl := h.blk.lt
  have hlen := h.len
  have hbase := h.base
  have hix := h.ok _ (List.getElem_mem hm)
  obtain ⟨A0, c0, rfl, hR⟩ := h.form
  obtain ⟨ad, rfl, p0, p1, p2, p3, p4⟩ := RowsIv.get hR hm
  have k2 := h.blk.cell 2
  simp only [List.getElem?_toArray, List.getElem?_cons_zero, List.getElem?_cons_succ] at k2
  have q0 := ext_cell (ext_alloc w zero33) p0
  have q1 := ext_cell (ext_alloc w zero33) p1
  have q2 := ext_cell (ext_alloc w zero33) p2
  have q3 := ext_cell (ext_alloc w zero33) p3
  have q4 := ext_cell (ext_alloc w zero33) p4
  clear h hR p0 p1 p2 p3 p4
  go_enter Try.func31, Try.ntmps31
  go_wp2_with fail
  refine (itemCopy_any xs[m].it _ _ _ B (hix.at_.ext (ext_alloc w zero33)) (by have := hix.len; omega)).mono ?_
  rintro e w1 ⟨A', c', rfl, hW, hext⟩
  have b1 : Blk w1 w.heap.size 33 #[.int .i64 0, .int .i64 0, .int .i64 0, .bool false, .slice none 0 0] := (Blk.new _ _ _).ext hext
  have hz := b1.lt
  have e0 := b1.cell 0
  have e1 := b1.cell 1
  have e2 := b1.cell 2
  have e3 := b1.cell 3
  have e4 := b1.cell 4
  have f1 := b1.frozen
  simp only [List.getElem?_toArray, List.getElem?_cons_zero, List.getElem?_cons_succ] at e0 e1 e2 e3 e4
  have hb : Below w.heap.size w w1 := ext_trans (ext_alloc _ _) hext
  clear q0 q1 q2 q3 q4 hext
  go_wp2
  have hBg : B ≤ w.heap.size := by omega
  refine bodyPost_ret (v := .tuple #[.agg #[.int .i64 xs[m].it.level, .int .i64 xs[m].it.n, .int .i64 xs[m].it.turn, .bool xs[m].it.shut, .slice A' xs[m].it.ws.length c'], .bool true]) (by simp [results, Try.results31, go_sem, e0, e1, e2, e3, e4]) rfl ⟨xs[m], A', c', ?_, rfl, ?_, ?_⟩
  · rw [show ((m : Int) + 1).toNat - 1 = m by omega]; exact List.getElem?_eq_getElem hm
  · exact (rows_set hBg (by decide) (rows_set hBg (by decide) (rows_set hBg (by decide) (rows_set hBg (by decide) (rows_set hBg (by decide) ⟨hW, _, b1⟩))))).1
  · iterate 5 (refine Below.setCell ?_ (by simp) _)
    exact hb

set_option maxHeartbeats 1000000 in
theorem strItem_none {w : World} {B g : Nat} {lev turn : Int} {xs : List Iv} {v : Value} (h : StrAt w B 121 g lev turn xs v) (n : Int) (hn : n < 1 ∨ (xs.length : Int) < n) :
    Calls Try.prog 31 #[.pointer (some ⟨g, 0, none⟩), .int .i64 n] w
      fun e w' => e = .returned (.tuple #[.agg #[.int .i64 0, .int .i64 0, .int .i64 0, .bool false, .slice none 0 0], .bool false]) ∧ Ext w w' := by
  have hgl := h.blk.lt
  have hlen := h.len
  obtain ⟨A0, c0, rfl, -⟩ := h.form
  have k2 := h.blk.cell 2
  simp only [List.getElem?_toArray, List.getElem?_cons_zero, List.getElem?_cons_succ] at k2
  clear h
  rcases hn with hn | hn
  · go_enter Try.func31, Try.ntmps31
    go_wp2
    refine bodyPost_ret (v := .tuple #[.agg #[.int .i64 0, .int .i64 0, .int .i64 0, .bool false, .slice none 0 0], .bool false]) (by simp [results, Try.results31, go_sem]) rfl ⟨rfl, ?_⟩
    exact ext_alloc _ _
  · by_cases h1 : n < 1
    · omega
    · go_enter Try.func31, Try.ntmps31
      go_wp2
      refine bodyPost_ret (v := .tuple #[.agg #[.int .i64 0, .int .i64 0, .int .i64 0, .bool false, .slice none 0 0], .bool false]) (by simp [results, Try.results31, go_sem]) rfl ⟨rfl, ?_⟩
      exact ext_alloc _ _
end Go.Proofs.Ytdknkbpgkkakhaa
