/- Layer 22: Log. -/
import Derived.Test.YtdknkbpgkkakhaaRoad2
import Derived.Test.YtdknkbpgkkakhaaStr2
namespace Go.Proofs.Ytdknkbpgkkakhaa
open Go.RowKit
open Go.ChangeMaps (setBlock)

theorem RowsPv.get {w : World} {B : Nat} {A : Option Addr} {xs : List Pv} (h : RowsAt w B 94 6 Pv.cells A xs) {k : Nat} (hk : k < xs.length) :
    ∃ ad, A = some ad ∧ w.cell? (ad.add (k * 6)) = some (.int .i64 xs[k].lev) ∧ w.cell? ⟨(ad.add (k * 6)).block, (ad.add (k * 6)).off + 1, none⟩ = some (.int .i64 xs[k].x.it.level) ∧
      w.cell? ⟨(ad.add (k * 6)).block, (ad.add (k * 6)).off + 2, none⟩ = some (.int .i64 xs[k].x.it.n) ∧ w.cell? ⟨(ad.add (k * 6)).block, (ad.add (k * 6)).off + 3, none⟩ = some (.int .i64 xs[k].x.it.turn) ∧
      w.cell? ⟨(ad.add (k * 6)).block, (ad.add (k * 6)).off + 4, none⟩ = some (.bool xs[k].x.it.shut) ∧ w.cell? ⟨(ad.add (k * 6)).block, (ad.add (k * 6)).off + 5, none⟩ = some (.slice xs[k].x.A xs[k].x.it.ws.length xs[k].x.c) := by
  obtain ⟨ad, e, _, hc⟩ := h k hk
  exact ⟨ad, e, hc 0 _ rfl, hc 1 _ rfl, hc 2 _ rfl, hc 3 _ rfl, hc 4 _ rfl, hc 5 _ rfl⟩
def prs (ps : List Pv) : List (Int × It) := ps.map fun p => (p.lev, p.x.it)
theorem prs_length (ps : List Pv) : (prs ps).length = ps.length := by simp [prs]
theorem prs_step {xs ys : List Pv} (h : prs ys = (prs xs).take ys.length) (hlt : ys.length < xs.length) (y : Pv) (hy : (y.lev, y.x.it) = (xs[ys.length].lev, xs[ys.length].x.it)) :
    prs (ys ++ [y]) = (prs xs).take (ys ++ [y]).length := by
  have h1 : (prs xs)[ys.length]? = some (xs[ys.length].lev, xs[ys.length].x.it) := by simp [prs, List.getElem?_eq_getElem hlt]
  have h2 : prs (ys ++ [y]) = prs ys ++ [(y.lev, y.x.it)] := by simp [prs]
  rw [h2, h, List.length_append, List.length_singleton, List.take_add_one, h1, hy]
  simp

section
variable {w w' : World} {B : Nat} {A : Option Addr} {c : Nat} {rs : List Rw} {m : RoadMem} {s : RoadSt}
set_option maxRecDepth 100000 in
set_option maxHeartbeats 4000000 in
theorem roadLog_any (h : RoadAt w B A c rs m s) :
    Calls Try.prog 70 #[.pointer (some ⟨m.ra, 0, none⟩)] w fun e w' => ∃ v' ps, e = .returned v' ∧ Own elPv w' w.heap.size v' ps ∧ prs ps = s.log ∧ (∀ p ∈ ps, IvOk w' B p.x) ∧ Ext w w' := by
  obtain ⟨qs, hO, hqs, hok⟩ := h.log
  obtain ⟨A0, c0, hv⟩ := hO.form
  have c1 := h.blk.cell 3
  simp only [List.getElem?_toArray, List.getElem?_cons_zero, List.getElem?_cons_succ] at c1
  rw [hv] at hO c1
  have hR' : RowsAt w B 94 6 Pv.cells A0 qs := hO.rows (B := B)
  have hbase : B ≤ w.heap.size := Nat.le_trans h.base.1 (Nat.le_of_lt h.blk.lt)
  have h40 : qs.length ≤ 1000000 := by
    have := h.loglen
    rw [← hqs, List.length_map] at this
    exact this
  have H40 := Lib.hid h40
  have HYS : Hid (prs qs = s.log) := hqs
  clear h hO hv hqs h40
  go_enter Try.func70, Try.ntmps70
  go_wp2
  go_step3
  go_wp2
  go_step3
  go_wp2
  go_loopw [11, 3] (fun i o wr => ∃ ps : List Pv, i = .int .i64 (ps.length : Int) ∧ ps.length ≤ qs.length ∧ Ext w wr ∧ Own elPv wr w.heap.size o ps ∧ (∀ p ∈ ps, IvOk wr B p.x) ∧ Hid (prs ps = (prs qs).take ps.length)) (fun i _ _ => qs.length - (intOf i).toNat)
  case atStart => exact ⟨[], rfl, Nat.zero_le _, Below.refl _ _, Own.nil _ _, by simp, by show _ = _; simp [prs]⟩
  case round =>
    obtain ⟨ps, rfl, hm, hbel, hown, hps, HT⟩ := hrel
    obtain ⟨Ao, co, rfl⟩ := hown.form
    by_cases hlt : ps.length < qs.length
    · have hix := (hok _ (List.getElem_mem hlt)).ext hbel
      obtain ⟨ad, hA0, p0, p1, p2, p3, p4, p5⟩ := RowsPv.get (RowsAt.ext hR' hbel) hlt
      have e0 : A0 = some ad := hA0
      subst e0
      clear hR' c1
      go_wp2_with fail
      refine (itemCopy_any qs[ps.length].x.it _ _ _ B (hix.at_.ext (ext_alloc _ _)) (by have := hix.len; omega)).mono ?_
      rintro e w1 ⟨A', c', rfl, hW, hext0⟩
      have b1 : Blk w1 wr.heap.size 94 #[.int .i64 qs[ps.length].lev, .int .i64 qs[ps.length].x.it.level, .int .i64 qs[ps.length].x.it.n, .int .i64 qs[ps.length].x.it.turn, .bool qs[ps.length].x.it.shut, .slice qs[ps.length].x.A qs[ps.length].x.it.ws.length qs[ps.length].x.c] := (Blk.new _ _ _).ext hext0
      have hext : Ext wr w1 := ext_trans (ext_alloc _ _) hext0
      clear p0 p1 p2 p3 p4 p5 hext0
      have e1 := b1.cell 1
      have e2 := b1.cell 2
      have e3 := b1.cell 3
      have e4 := b1.cell 4
      have e5 := b1.cell 5
      have f1 := b1.frozen
      simp only [List.getElem?_toArray, List.getElem?_cons_zero, List.getElem?_cons_succ] at e1 e2 e3 e4 e5
      have hBg : B ≤ wr.heap.size := Nat.le_trans hbase hbel.size
      have b2 := ((((b1.set_ 1 (.int .i64 qs[ps.length].x.it.level)).set_ 2 (.int .i64 qs[ps.length].x.it.n)).set_ 3 (.int .i64 qs[ps.length].x.it.turn)).set_ 4 (.bool qs[ps.length].x.it.shut)).set_ 5 (.slice A' qs[ps.length].x.it.ws.length c')
      simp only [List.setIfInBounds_toArray, List.set_cons_zero, List.set_cons_succ] at b2
      have hW5 := (rows_set (i := 5) (u := .slice A' qs[ps.length].x.it.ws.length c') hBg (by decide) (rows_set (i := 4) (u := .bool qs[ps.length].x.it.shut) hBg (by decide) (rows_set (i := 3) (u := .int .i64 qs[ps.length].x.it.turn) hBg (by decide) (rows_set (i := 2) (u := .int .i64 qs[ps.length].x.it.n) hBg (by decide) (rows_set (i := 1) (u := .int .i64 qs[ps.length].x.it.level) hBg (by decide) ⟨hW, _, b1⟩))))).1
      have x5 : Ext wr (((((w1.setCell ⟨wr.heap.size, 1, none⟩ (.int .i64 qs[ps.length].x.it.level)).setCell ⟨wr.heap.size, 2, none⟩ (.int .i64 qs[ps.length].x.it.n)).setCell ⟨wr.heap.size, 3, none⟩ (.int .i64 qs[ps.length].x.it.turn)).setCell ⟨wr.heap.size, 4, none⟩ (.bool qs[ps.length].x.it.shut)).setCell ⟨wr.heap.size, 5, none⟩ (.slice A' qs[ps.length].x.it.ws.length c')) := by
        iterate 5 (refine Below.setCell ?_ (by simp) _)
        exact hext
      clear b1 hW hext
      go_upto_region 6 with fail
      clear e1 e2 e3 e4 e5 f1
      generalize (((((w1.setCell ⟨wr.heap.size, 1, none⟩ (.int .i64 qs[ps.length].x.it.level)).setCell ⟨wr.heap.size, 2, none⟩ (.int .i64 qs[ps.length].x.it.n)).setCell ⟨wr.heap.size, 3, none⟩ (.int .i64 qs[ps.length].x.it.turn)).setCell ⟨wr.heap.size, 4, none⟩ (.bool qs[ps.length].x.it.shut)).setCell ⟨wr.heap.size, 5, none⟩ (.slice A' qs[ps.length].x.it.ws.length c')) = w5 at b2 hW5 x5 ⊢
      have e0 := b2.cell 0
      have e1 := b2.cell 1
      have e2 := b2.cell 2
      have e3 := b2.cell 3
      have e4 := b2.cell 4
      have e5 := b2.cell 5
      simp only [List.getElem?_toArray, List.getElem?_cons_zero, List.getElem?_cons_succ] at e0 e1 e2 e3 e4 e5
      have HB := Lib.hid (rows_block (E := elPv) (B := B) (⟨qs[ps.length].lev, ⟨qs[ps.length].x.it, A', c'⟩⟩ : Pv) (Blk.new w5 94 (Pv.cells ⟨qs[ps.length].lev, ⟨qs[ps.length].x.it, A', c'⟩⟩).toArray))
      have HO := Lib.hid ((hown.ext x5).ext (ext_alloc w5 (.cells (Pv.cells ⟨qs[ps.length].lev, ⟨qs[ps.length].x.it, A', c'⟩⟩).toArray 94)))
      have hz1 : w.heap.size ≤ w5.heap.size := Nat.le_trans hbel.size x5.size
      have hm2 : ps.length ≤ 1000000 := by have := H40.out; omega
      have HW5 := Lib.hid hW5
      clear b2 hW5
      go_wp2_with (at_builtin; refine wpList_append elPv rfl _ _ rfl w.heap.size (.slice Ao ps.length co) ps rfl HO.out _ 1 [(⟨qs[ps.length].lev, ⟨qs[ps.length].x.it, A', c'⟩⟩ : Pv)] rfl B HB.out (by show _ * 64 ≤ _; simp; omega) (by simp; omega) (by simp; omega) ?_; intro A2 c2 w2 hown2 hg2 hat2)
      have hk2 : Keeps B [94] (w5.alloc (.cells (Pv.cells ⟨qs[ps.length].lev, ⟨qs[ps.length].x.it, A', c'⟩⟩).toArray 94)) w2 := HO.out.keeps hg2 hbase
      have hx2 : Ext wr (w5.alloc (.cells (Pv.cells ⟨qs[ps.length].lev, ⟨qs[ps.length].x.it, A', c'⟩⟩).toArray 94)) := ext_trans x5 (ext_alloc _ _)
      go_roundw
      case rel =>
        refine ⟨ps ++ [⟨qs[ps.length].lev, ⟨qs[ps.length].x.it, A', c'⟩⟩], by simp, by simp; omega, ?_, by simpa using hown2, ?_, prs_step HT.out hlt _ rfl⟩
        · exact (below_ext hbel (Nat.le_refl _) hx2).grown hg2 (by simp; omega) (fun k hk => (HO.out.typed hk).1)
        · intro y hy
          rcases List.mem_append.1 hy with hy | hy
          · exact ((hps y hy).ext hx2).keeps hk2 (by decide)
          · have e1 : y = ⟨qs[ps.length].lev, ⟨qs[ps.length].x.it, A', c'⟩⟩ := by simpa using hy
            subst e1
            exact ⟨(RowsAt.ext HW5.out (ext_alloc _ _)).keeps hk2 (by decide), hix.wr, hix.len⟩
      case measure => simp [intOf]; omega
    · have he : prs ps = s.log := by
        rw [← HYS.out, HT.out, List.take_of_length_le (by rw [prs_length]; omega)]
      go_wp2
      rw [Exit.noGoto_ret]
      go_ret
      exact ⟨_, ps, rfl, hown, he, hps, hbel⟩
end
end Go.Proofs.Ytdknkbpgkkakhaa
