/- Layer 22: Take. -/
import Derived.Test.YtdknkbpgkkakhaaRoad5
import Derived.Test.YtdknkbpgkkakhaaRoad9
namespace Go.Proofs.Ytdknkbpgkkakhaa
open Go.RowKit
open Go.ChangeMaps (setBlock)

theorem Own.off {α : Type} {E : Elem α} {w : World} {base : Nat} {v : Value} {xs : List α} (h : Own E w base v xs) : Off E w base v xs := by
  rcases h.2 with ⟨rfl, h0⟩ | ⟨g, cap, cur, rfl, hg, hh, hnc, hcm, hsz, htk⟩
  · exact .inl ⟨rfl, List.eq_nil_of_length_eq_zero h0⟩
  · refine .inr ⟨g, 0, cap, cur, rfl, hg, hh, hnc, hcm, by omega, fun j u hj => ?_⟩
    rw [← htk, List.getElem?_take] at hj
    split at hj
    · simpa using hj
    · cases hj

section
variable {w w' : World} {B : Nat} {A : Option Addr} {c : Nat} {rs : List Rw} {m : RoadMem} {s : RoadSt}
set_option maxRecDepth 100000 in
set_option maxHeartbeats 4000000 in
theorem roadTake_none (h : RoadAt w B A c rs m s) {t n : Int} (ht : wf64 t) (stays : Bool) (hno : n < 0 ∨ ((s.und t).length : Int) ≤ n) :
    Calls Try.prog 66 #[.pointer (some ⟨m.ra, 0, none⟩), .int .i64 t, .int .i64 n, .bool stays] w
      fun e w' => e = .returned (.tuple #[.agg #[.int .i64 0, .int .i64 0, .int .i64 0, .bool false, .slice none 0 0], .int .i64 18]) ∧ Ext w w' := by
  have x1 := ext_alloc w (.cells #[.int .i64 0, .int .i64 0, .int .i64 0, .bool false, .slice none 0 0] 33)
  have hrun := (h.ext x1).lookUnd ht
  have c1 := (h.ext x1).blk.cell 2
  simp only [List.getElem?_toArray, List.getElem?_cons_zero, List.getElem?_cons_succ] at c1
  obtain ⟨ys, hO, hys, hok⟩ := h.unds t
  obtain ⟨A0, c0, hv⟩ := hO.form
  rw [hv] at hrun
  have h40 : ys.length ≤ 40 := by
    have := h.few t
    rw [← hys, List.length_map] at this
    exact this
  have hno' : n < 0 ∨ (ys.length : Int) ≤ n := by rw [← hys, List.length_map] at hno; exact hno
  clear h ht hO hv hys hok hno
  rcases hno' with hn | hn
  all_goals
    go_enter Try.func66, Try.ntmps66
    go_wp2
    refine bodyPost_ret (v := .tuple #[.agg #[.int .i64 0, .int .i64 0, .int .i64 0, .bool false, .slice none 0 0], .int .i64 18]) (by simp [results, Try.results66, go_sem]) rfl ⟨rfl, ?_⟩
    exact x1

set_option maxRecDepth 100000 in
set_option maxHeartbeats 4000000 in
theorem roadTake_stays (h : RoadAt w B A c rs m s) {t : Int} {k : Nat} (ht : wf64 t) (hk : k < (s.und t).length) :
    Calls Try.prog 66 #[.pointer (some ⟨m.ra, 0, none⟩), .int .i64 t, .int .i64 k, .bool true] w
      fun e w' => ∃ A' c', e = .returned (.tuple #[.agg #[.int .i64 (s.und t)[k].level, .int .i64 (s.und t)[k].n, .int .i64 (s.und t)[k].turn, .bool (s.und t)[k].shut, .slice A' (s.und t)[k].ws.length c'], .int .i64 0]) ∧
        IvOk w' B ⟨(s.und t)[k], A', c'⟩ ∧ Ext w w' := by
  have x1 := ext_alloc w (.cells #[.int .i64 0, .int .i64 0, .int .i64 0, .bool false, .slice none 0 0] 33)
  have b0 := Blk.new w 33 #[.int .i64 0, .int .i64 0, .int .i64 0, .bool false, .slice none 0 0]
  have hrun := (h.ext x1).lookUnd ht
  have c1 := (h.ext x1).blk.cell 2
  simp only [List.getElem?_toArray, List.getElem?_cons_zero, List.getElem?_cons_succ] at c1
  obtain ⟨ys, hO, hys, hok⟩ := h.unds t
  obtain ⟨A0, c0, hv⟩ := hO.form
  rw [hv] at hrun hO
  have hR' : RowsIv w B A0 ys := hO.rows (B := B)
  have hBw : B ≤ w.heap.size := Nat.le_trans h.base.1 (Nat.le_of_lt h.blk.lt)
  have h40 : ys.length ≤ 40 := by
    have := h.few t
    rw [← hys, List.length_map] at this
    exact this
  have hlt : k < ys.length := by rw [← hys, List.length_map] at hk; exact hk
  have hxk : (s.und t)[k] = ys[k].it := by simp [← hys]
  rw [hxk]
  have hix := (hok _ (List.getElem_mem hlt)).ext x1
  obtain ⟨ad, hA0, p0, p1, p2, p3, p4⟩ := RowsIv.get (RowsAt.ext hR' x1) hlt
  have e0 : A0 = some ad := hA0
  subst e0
  generalize ys[k] = y at hix p0 p1 p2 p3 p4 ⊢
  have HBW := Lib.hid hBw
  clear h ht hO hv hys hok hk hxk hR' hBw
  go_enter Try.func66, Try.ntmps66
  go_wp2_with fail
  refine (itemCopy_any y.it _ _ _ B hix.at_ (by have := hix.len; omega)).mono ?_
  rintro e w1 ⟨A', c', rfl, hW, hext⟩
  have b1 := b0.ext hext
  have x2 := ext_trans x1 hext
  clear b0 x1 hext p0 p1 p2 p3 p4 hrun c1
  have d0 := b1.cell 0
  have d1 := b1.cell 1
  have d2 := b1.cell 2
  have d3 := b1.cell 3
  have d4 := b1.cell 4
  have f1 := b1.frozen
  simp only [List.getElem?_toArray, List.getElem?_cons_zero, List.getElem?_cons_succ] at d0 d1 d2 d3 d4
  have hz := b1.lt
  go_wp2

  refine bodyPost_ret (v := .tuple #[.agg #[.int .i64 y.it.level, .int .i64 y.it.n, .int .i64 y.it.turn, .bool y.it.shut, .slice A' y.it.ws.length c'], .int .i64 0]) (by simp [results, Try.results66, go_sem, hz, d0, d1, d2, d3, d4]) rfl ⟨A', c', rfl, ?_, ?_⟩
  · refine ⟨RowsAt.ext ?_ (ext_alloc _ _), hix.wr, hix.len⟩
    exact (rows_set HBW.out (by decide) (rows_set HBW.out (by decide) (rows_set HBW.out (by decide) (rows_set HBW.out (by decide) (rows_set HBW.out (by decide) ⟨hW, _, b1⟩))))).1
  · refine Below.alloc ?_ (by simp; omega) _
    iterate 5 (refine Below.setCell ?_ (by simp) _)
    exact x2

set_option maxRecDepth 100000 in
set_option maxHeartbeats 4000000 in
theorem roadTake_goes (h : RoadAt w B A c rs m s) {t : Int} {k : Nat} (ht : wf64 t) (hk : k < (s.und t).length) :
    Calls Try.prog 66 #[.pointer (some ⟨m.ra, 0, none⟩), .int .i64 t, .int .i64 k, .bool false] w
      fun e w' => ∃ A' c', e = .returned (.tuple #[.agg #[.int .i64 (s.und t)[k].level, .int .i64 (s.und t)[k].n, .int .i64 (s.und t)[k].turn, .bool (s.und t)[k].shut, .slice A' (s.und t)[k].ws.length c'], .int .i64 0]) ∧
        IvOk w' B ⟨(s.und t)[k], A', c'⟩ ∧ ∃ m', m'.ra = m.ra ∧ RoadAt w' B A c rs m' ⟨s.off, fun u => if u = t then (s.und t).eraseIdx k else s.und u, s.log⟩ ∧ RoadGo B w m w' m' := by
  have x1 := ext_alloc w (.cells #[.int .i64 0, .int .i64 0, .int .i64 0, .bool false, .slice none 0 0] 33)
  have b0 := Blk.new w 33 #[.int .i64 0, .int .i64 0, .int .i64 0, .bool false, .slice none 0 0]
  have hrun := (h.ext x1).lookUnd ht
  have c1 := (h.ext x1).blk.cell 2
  simp only [List.getElem?_toArray, List.getElem?_cons_zero, List.getElem?_cons_succ] at c1
  obtain ⟨ys, hO, hys, hok⟩ := h.unds t
  obtain ⟨A0, c0, hv⟩ := hO.form
  have HV := Lib.hid hv
  rw [hv] at hrun hO
  have hR' : RowsIv w B A0 ys := hO.rows (B := B)
  have hBw : B ≤ w.heap.size := Nat.le_trans h.base.1 (Nat.le_of_lt h.blk.lt)
  have h40 : ys.length ≤ 40 := by
    have := h.few t
    rw [← hys, List.length_map] at this
    exact this
  have hlt : k < ys.length := by rw [← hys, List.length_map] at hk; exact hk
  have hxk : (s.und t)[k] = ys[k].it := by simp [← hys]
  rw [hxk]
  have hix := (hok _ (List.getElem_mem hlt)).ext x1
  obtain ⟨ad, hA0, p0, p1, p2, p3, p4⟩ := RowsIv.get (RowsAt.ext hR' x1) hlt
  have e0 : A0 = some ad := hA0
  subst e0
  generalize hy : ys[k] = y at hix p0 p1 p2 p3 p4 ⊢
  have HBW := Lib.hid hBw
  have HYS : Hid (ys.map Iv.it = s.und t) := hys
  have HH := Lib.hid h
  have HOK := Lib.hid hok
  have HR := Lib.hid hR'
  clear h hO hv hys hok hk hxk hR' hBw hy
  go_enter Try.func66, Try.ntmps66
  go_wp2_with fail
  refine (itemCopy_any y.it _ _ _ B hix.at_ (by have := hix.len; omega)).mono ?_
  rintro e w1 ⟨A', c', rfl, hW, hext⟩
  have b1 := b0.ext hext
  have x2 := ext_trans x1 hext
  clear b0 x1 hext p0 p1 p2 p3 p4 hrun c1
  have hz := b1.lt
  have hEl : (ys.eraseIdx k).length = ys.length - 1 := by rw [List.length_eraseIdx, if_pos hlt]
  have HEL := Lib.hid hEl
  clear hEl
  go_upto_region 6 with fail
  have x5 := ext_trans x2 (ext_alloc w1 (.cells #[.int .i64 y.it.level, .int .i64 y.it.n, .int .i64 y.it.turn, .bool y.it.shut, .slice A' y.it.ws.length c'] 33))
  have b5 := Blk.new w1 33 #[.int .i64 y.it.level, .int .i64 y.it.n, .int .i64 y.it.turn, .bool y.it.shut, .slice A' y.it.ws.length c']
  have b1' := b1.ext (ext_alloc w1 (.cells #[.int .i64 y.it.level, .int .i64 y.it.n, .int .i64 y.it.turn, .bool y.it.shut, .slice A' y.it.ws.length c'] 33))
  have hW5 := RowsAt.ext hW (ext_alloc w1 (.cells #[.int .i64 y.it.level, .int .i64 y.it.n, .int .i64 y.it.turn, .bool y.it.shut, .slice A' y.it.ws.length c'] 33))
  clear b1 hW
  have hz1 := x2.size
  generalize hW5e : (w1.alloc (.cells #[.int .i64 y.it.level, .int .i64 y.it.n, .int .i64 y.it.turn, .bool y.it.shut, .slice A' y.it.ws.length c'] 33)) = W at x5 b5 b1' hW5 ⊢
  clear hW5e
  generalize w1.heap.size = gx at b5 hz hz1 ⊢
  have h5 := HH.out.ext x5
  have HWS := Lib.hid (⟨Nat.lt_of_lt_of_le b1'.lt (Nat.le_refl _), b5.lt⟩ : w.heap.size < W.heap.size ∧ gx < W.heap.size)
  have r0 := h5.blk.cell 2
  simp only [List.getElem?_toArray, List.getElem?_cons_zero, List.getElem?_cons_succ] at r0
  have y0 := fun x' (hx : Ext W x') => ext_cell hx r0
  have hwr : IntKind.i64.wrap ((k : Int) + 1) = (k : Int) + 1 := IntWalk.i64_in _ (by omega)
  clear r0
  refine wp_region_planH (.reads 0 (.reads 1 (.reads 2 (.reads 3 (.reads 4 (.reads 5 (.reads 7 (.reads 8 (.reads 9 (.makes 6 (.makes 10 (.turns 11 (.done))))))))))))) (by kernel_rfl) (by kernel_rfl) (fun x' => Ext W x') (ext_drewN W 1) (fun ops HOPS => ?_)
  (refine segH_pure _ _ _ _ _ _ (hid_get HOPS 0 _ rfl) rfl wanted_none (fun _ _ _ _ h => h) ?_; intro K hK; go_big_quiet_op; go_big_quiet_on)
  (refine segH_nil _ _ _ _ _ _ _ (hid_get HOPS 1 _ rfl) wanted_none rfl (fun _ _ _ _ h => h) ?_; simp only [Act.put, List.setIfInBounds_toArray, List.set_cons_zero, List.set_cons_succ])
  (refine segH_pure _ _ _ _ _ _ (hid_get HOPS 2 _ rfl) rfl wanted_none (fun _ _ _ _ h => h) ?_; intro K hK; go_big_quiet_op; go_big_quiet_on)
  (refine segH_load _ _ _ _ _ _ _ _ _ (hid_get HOPS 3 _ rfl) wanted_none rfl (fun _ _ _ _ h => h) (fun y hy => by go_simp; try with_reducible rfl) ?_; simp only [Act.put, List.setIfInBounds_toArray, List.set_cons_zero, List.set_cons_succ])
  (refine segH_pure _ _ _ _ _ _ (hid_get HOPS 4 _ rfl) rfl wanted_none (fun _ _ _ _ h => h) ?_; intro K hK; go_big_quiet_op; go_big_quiet_on)
  (refine segH_pure _ _ _ _ _ _ (hid_get HOPS 5 _ rfl) rfl wanted_none (fun _ _ _ _ h => h) ?_; intro K hK; go_big_quiet_op; go_big_quiet_on)
  (refine segH_pure _ _ _ _ _ _ (hid_get HOPS 7 _ rfl) rfl wanted_none (fun _ _ _ _ h => h) ?_; intro K hK; go_big_quiet_op; go_big_quiet_on)
  (refine segH_pure _ _ _ _ _ _ (hid_get HOPS 8 _ rfl) rfl wanted_none (fun _ _ _ _ h => h) ?_; intro K hK; go_big_quiet_op; go_big_quiet_on)
  (refine segH_pure _ _ _ _ _ _ (hid_get HOPS 9 _ rfl) rfl wanted_none (fun _ _ _ _ h => h) ?_; intro K hK; go_big_quiet_op; go_big_quiet_on)
  refine segH_makes _ _ _ _ _ _ (hid_get HOPS 6 _ rfl) wanted_none (fun K hK => ?_)
  go_big_op
  refine (cloneIts_any (some ad) c0 ys _ B (RowsAt.ext (RowsAt.ext HR.out x5) (ext_drewN W 1)) (by omega)).mono ?_
  rintro e w6 ⟨v, rfl, hown, y6⟩
  have P6 := ext_trans (ext_drewN W 1) y6
  have hO6 : Own elIv w6 (w.heap.size + 1) v ys := own_le hown (by have := HWS.out.1; simp; omega)
  have hown2 : w6.ownsRow W.heap.size 33 5 v ys.length (flat Iv.cells ys) := own_le hown (by simp)
  clear hown y6
  rcases hown2.2 with ⟨_, h0⟩ | ⟨g, cap, cur, hv6, hg6, hh6, hnc, _⟩
  · omega
  subst hv6
  refine hK _ _ (fun x' => Ext W x') P6 (fun _ h => h) ?_
  clear hK
  refine segH_makes _ _ _ _ _ _ (hid_get HOPS 10 _ rfl) wanted_none (fun K hK => ?_)
  go_big_op
  refine (delete_any (w := w6) (base := W.heap.size) hown2 hlt (by omega) hnc).mono ?_
  rintro e w7 ⟨rfl, hown7, hm7⟩
  have P7 : Ext W w7 := P6.trans (hm7.below P6.size (fun k hk => by have : k = g := hk; omega))
  have hO7 : Off elIv w7 B (.slice (some ⟨g, 0, none⟩) (ys.length - 1) cap) (ys.eraseIdx k) := by
    have h1 : Off elIv w7 B (.slice (some ⟨g, 0, none⟩) (ys.eraseIdx k).length cap) (ys.eraseIdx k) := (Own.off hown7).le (by have := HBW.out; have := HWS.out.1; omega)
    rw [HEL.out] at h1
    exact h1
  obtain ⟨o, m', hrun, h8, e8, hb8, hfu8, _⟩ := h5.storeUndX (w6 := w7) ht rfl (Mods.of_below P7 _) hO7 (fun z hz => ((HOK.out z (List.mem_of_mem_eraseIdx hz)).ext x5).ext P7) (fun b hb => .inr (by
    have e1 : g = b := by simpa [Value.ownBlock] using hb
    omega)) (by rw [HEL.out]; omega)
  have hmap := h5.undm.ext P7
  have b8 := (b5.ext P7).mods (mods_setBlock w7 m.mu o) (hmap.not_blk (b5.ext P7))
  have b9 := (b1'.ext P7).mods (mods_setBlock w7 m.mu o) (hmap.not_blk (b1'.ext P7))
  have hk8 := keeps_map hmap h5.base.2.2 o []
  have hW8 := (RowsAt.ext hW5 P7).keeps hk8 (by simp)
  have hne8 : ∀ u, ((m'.fu u).getD (.slice none 0 0)).ownBlock ≠ some w.heap.size := fun u hc => by
    rcases hfu8 u _ hc with h1 | h1
    · have e1 : g = w.heap.size := by simpa [Value.ownBlock] using h1
      have := HWS.out.1
      omega
    · obtain ⟨us, u1, _⟩ := HH.out.unds u
      have := (u1.typed h1).2.1
      omega
  have H8 : Hid (RoadAt (setBlock w7 m.mu o) B A c rs m' ⟨s.off, fun u => if u = t then (ys.eraseIdx k).map Iv.it else s.und u, s.log⟩ ∧ m'.ra = m.ra ∧ RoadGo B w m (setBlock w7 m.mu o) m') :=
    ⟨h8, e8, (RoadGo.of_ext x5 HBW.out m).trans hb8⟩
  have HNE := Lib.hid hne8
  refine hK _ _ (fun x' => Ext W x') P7 (fun _ h => h) ?_
  clear hK hown2 hown7 hm7 hO7 hO6 h8 e8 hb8 hfu8 hmap hk8 hne8 P6 P7
  refine segH_turns _ _ _ _ _ _ (hid_get HOPS 11 _ rfl) wanted_none (fun K hK => ?_)
  go_big_op
  refine hK _ _ (fun _ => True) trivial ?_
  clear hK
  refine seg_done ?_
  clear HOPS
  clear y0 hrun h5 hwr hW5 b5 b1' x5
  generalize setBlock w7 m.mu o = w8 at H8 b8 b9 hW8 ⊢
  have d0 := b9.cell 0
  have d1 := b9.cell 1
  have d2 := b9.cell 2
  have d3 := b9.cell 3
  have d4 := b9.cell 4
  have f1 := b9.frozen
  have g0 := b8.cell 0
  have g1 := b8.cell 1
  have g2 := b8.cell 2
  have g3 := b8.cell 3
  have g4 := b8.cell 4
  simp only [List.getElem?_toArray, List.getElem?_cons_zero, List.getElem?_cons_succ] at d0 d1 d2 d3 d4 g0 g1 g2 g3 g4
  go_wp2
  have hmods : Mods (fun i => i = w.heap.size) w8 (((((w8.setCell ⟨w.heap.size, 0, none⟩ (.int .i64 y.it.level)).setCell ⟨w.heap.size, 1, none⟩ (.int .i64 y.it.n)).setCell ⟨w.heap.size, 2, none⟩ (.int .i64 y.it.turn)).setCell ⟨w.heap.size, 3, none⟩ (.bool y.it.shut)).setCell ⟨w.heap.size, 4, none⟩ (.slice A' y.it.ws.length c')) :=
    ((((mods_setCell w8 ⟨w.heap.size, 0, none⟩ _).trans (mods_setCell _ ⟨w.heap.size, 1, none⟩ _) (fun _ _ h => h)).trans (mods_setCell _ ⟨w.heap.size, 2, none⟩ _) (fun _ _ h => h)).trans (mods_setCell _ ⟨w.heap.size, 3, none⟩ _) (fun _ _ h => h)).trans (mods_setCell _ ⟨w.heap.size, 4, none⟩ _) (fun _ _ h => h)
  refine bodyPost_ret (v := .tuple #[.agg #[.int .i64 y.it.level, .int .i64 y.it.n, .int .i64 y.it.turn, .bool y.it.shut, .slice A' y.it.ws.length c'], .int .i64 0]) (by simp [results, Try.results66, go_sem, d0, d1, d2, d3, d4, f1]) rfl ⟨A', c', rfl, ?_, m', H8.out.2.1, ?_, ?_⟩
  · refine ⟨?_, hix.wr, hix.len⟩
    exact (rows_set HBW.out (by decide) (rows_set HBW.out (by decide) (rows_set HBW.out (by decide) (rows_set HBW.out (by decide) (rows_set HBW.out (by decide) ⟨hW8, _, b9⟩))))).1
  · have h9 := H8.out.1.mods1 hmods HBW.out b9 HNE.out
    have e9 : (s.und t).eraseIdx k = (ys.eraseIdx k).map Iv.it := by
      have h5 : ys.map Iv.it = s.und t := HYS.out
      rw [← h5]
      rw [List.eraseIdx_eq_take_drop_succ, List.eraseIdx_eq_take_drop_succ, List.map_append, List.map_take, List.map_drop]
    rw [e9]
    exact h9
  · have hg := H8.out.2.2
    exact ⟨hg.below.trans ((hmods.below (Nat.le_of_lt b9.lt) (fun k hk => by have : k = w.heap.size := hk; omega)).mono HBW.out), hg.mods.trans hmods (fun k hk e => by have : k = w.heap.size := e; omega), hg.sub⟩
end
end Go.Proofs.Ytdknkbpgkkakhaa
