/- Layer 20: holds, lets. -/
import Derived.Test.YtdknkbpgkkakhaaInt4
namespace Go.Proofs.Ytdknkbpgkkakhaa
open Go.RowKit Go.Maps
open Go.ChangeMaps (setBlock)

section
variable {P : Program} {ops : Array Oper} {Q : Exit → Act → World → Prop} {a : Act} {w : World}
theorem semOps_drop (k : Nat) (h : wpList P ops Q (ops.toList.drop k) a w) : SemOps P ops Q (List.range' k (ops.size - k)) a w :=
  semOps_of (by
    have e := wpOps_eq_wpList (P := P) (Q := Q) (ops := ops) (ops.toList.drop k) k (fun j => by rw [List.getElem?_drop]; simp)
    rw [List.length_drop, Array.length_toList] at e
    rw [e]; exact h)
end
section
variable {w w' : World} {B : Nat} {A : Option Addr} {c : Nat} {rs : List Rw} {lev : Int} {m : IntMem} {s : IntSt}
theorem keeps_held (h : IntAt w B A c rs lev m s) (k : Mods (fun g => g = m.mo ∨ g = m.pc) w w') (T : List TypeId) : Keeps B T w w' := Keeps.of_mods k fun i hi => by
  rcases hi with rfl | rfl
  · refine ⟨h.base.2.1, fun cs t fr hk => ?_⟩
    obtain ⟨es, clock, h1, _⟩ := h.map
    rw [hk] at h1; cases h1
  · refine ⟨h.base.2.2, fun cs t fr hk => ?_⟩
    obtain ⟨_, _, _, h1, _⟩ := h.chan
    rw [hk] at h1; cases h1
/-- The map and the channel are turned. -/
theorem IntAt.turn (h : IntAt w B A c rs lev m s) (k : Mods (fun g => g = m.mo ∨ g = m.pc) w w') {n : Nat} {fh : Int × Int → Option Value} (hm : MapN Try.prog 143 wayV w' m.mo n fh) (hc : ChanIs w' m.pc 40 n) (hn : n ≤ 40) (s' : IntSt)
    (he : s'.have_ = s.have_ ∧ s'.over = s.over ∧ s'.came = s.came ∧ s'.first = s.first ∧ s'.cnt = n) (hh : ∀ x, HeldOk w' B (fh x) (s'.held x)) :
    IntAt w' B A c rs lev { m with fh := fh } s' ∧ IntGo B w m w' { m with fh := fh } := by
  obtain ⟨e1, e2, e3, e4, e5⟩ := he
  have hk := keeps_held h k []
  have km : Mods (IntOwn m) w w' := k.mono fun i hi => hi.elim (fun e => .inr (.inl e)) (fun e => .inr (.inr (.inl e)))
  refine ⟨⟨h.base, h.apart, h.blk.mods k (fun e => e.elim h.ga_mo h.ga_pc), h.size, h.lat, h.lev_, by rw [e1]; exact h.hav, by rw [e2]; exact h.ovr, h.mapc, h.chac, h.camc, by rw [e4]; exact h.firc, by rw [e5]; exact hm, by rw [e5]; exact hc, hh, ?_, h.mat.keeps hk (by simp) (by simp), by rw [e5]; exact hn, by rw [e3]; exact h.camelen⟩,
    ⟨km.below h.base_le (fun g hg => (h.own_lt hg).1), km, fun g hg => .inl hg, rfl⟩⟩
  rw [e3]
  obtain ⟨ys, h1, h2, h3⟩ := h.came
  exact ⟨ys, h1.mods k (fun b hb e => e.elim (fun e => h.vc_mo (by rw [hb, e])) (fun e => h.vc_pc (by rw [hb, e]))), h2, fun y hy => (h3 y hy).keeps hk (by simp)⟩

def holdsN (s : IntSt) : Nat := if s.cnt < 40 then 0 else 25
def holdsSt (s : IntSt) (x : It) : IntSt := if s.cnt < 40 then { s with held := fun y => if y = (x.level, x.n) then some x else s.held y, cnt := s.cnt + 1 } else s
set_option maxRecDepth 100000 in
set_option maxHeartbeats 4000000 in
theorem intHolds_any (h : IntAt w B A c rs lev m s) (x : Iv) (hx : IvOk w B x) (h1 : wf64 x.it.level) (h2 : wf64 x.it.n) (hnew : s.held (x.it.level, x.it.n) = none) :
    Calls Try.prog 103 #[.pointer (some ⟨m.ga, 0, none⟩), .agg #[.int .i64 x.it.level, .int .i64 x.it.n, .int .i64 x.it.turn, .bool x.it.shut, .slice x.A x.it.ws.length x.c]] w
      fun e w' => e = .returned (.int .i64 (holdsN s : Int)) ∧ ∃ m', IntAt w' B A c rs lev m' (holdsSt s x.it) ∧ IntGo B w m w' m' := by
  have hB := h.base_le
  obtain ⟨W, hW⟩ : ∃ W, W = (w.alloc (.cells #[.int .i64 x.it.level, .int .i64 x.it.n, .int .i64 x.it.turn, .bool x.it.shut, .slice x.A x.it.ws.length x.c] 33)).alloc (.cells #[.int .i64 x.it.level, .int .i64 x.it.n] 143) := ⟨_, rfl⟩
  have x0 : Ext w W := by rw [hW]; exact ext_trans (ext_alloc _ _) (ext_alloc _ _)
  have b0 : Blk W w.heap.size 33 #[.int .i64 x.it.level, .int .i64 x.it.n, .int .i64 x.it.turn, .bool x.it.shut, .slice x.A x.it.ws.length x.c] := by rw [hW]; exact (Blk.new _ _ _).ext (ext_alloc _ _)
  have b1 : Blk W (w.heap.size + 1) 143 #[.int .i64 x.it.level, .int .i64 x.it.n] := by
    rw [hW]
    have := Blk.new (w.alloc (.cells #[.int .i64 x.it.level, .int .i64 x.it.n, .int .i64 x.it.turn, .bool x.it.shut, .slice x.A x.it.ws.length x.c] 33)) 143 #[.int .i64 x.it.level, .int .i64 x.it.n]
    simpa using this
  have HI := h.ext x0
  have hgo : IntGo B w m W m := .of_ext x0 hB m
  have hx1 := hx.ext x0
  have HW := Lib.hid hW
  have c15 := HI.blk.cell 15
  rw [HI.chac] at c15
  clear hW h hx x0
  go_enter Try.func103, Try.ntmps103
  go_upto_region 2 with fail
  rw [← HW.out]
  clear HW
  obtain ⟨gx, hgx⟩ : ∃ gx, gx = w.heap.size := ⟨_, rfl⟩
  rw [← hgx] at b0 b1 ⊢
  clear hgx
  have c0 := b1.cell 0
  have c1 := b1.cell 1
  simp only [List.getElem?_toArray, List.getElem?_cons_zero, List.getElem?_cons_succ] at c0 c1
  go_upto_region 4 with fail
  obtain ⟨buf, s1, r1, hbuf, hsz⟩ := HI.chan
  by_cases hc : s.cnt < 40
  · refine sem_region ?_
    show SemOps _ _ _ [0, 1, 2] _ _
    refine sem_sel_room (v := .agg #[.int .i64 x.it.level, .int .i64 x.it.n]) (z := .agg #[.int .i64 0, .int .i64 0]) rfl rfl (by kernel_rfl) hbuf (by omega) ?_
    refine semOps_drop 1 ?_
    simp only [List.drop_succ_cons, List.drop_zero, Act.put, List.getElem_toArray, List.getElem_cons_zero, List.getElem_cons_succ, List.setIfInBounds_toArray, List.set_cons_zero, List.set_cons_succ]
    go_wp2_with fail
    obtain ⟨W2, hW2⟩ : ∃ W2, W2 = W.setChan m.pc 40 (buf.push (.agg #[.int .i64 x.it.level, .int .i64 x.it.n])) false (s1 + 1) r1 false := ⟨_, rfl⟩
    have k1 : Mods (fun k => k = m.pc) W W2 := by rw [hW2]; exact mods_setChan _ _ _ _ _ _
    have hch : ChanIs W2 m.pc 40 (s.cnt + 1) := by
      have := chan_set W HI.chan.lt 40 (buf.push (.agg #[.int .i64 x.it.level, .int .i64 x.it.n])) (s1 + 1) r1
      rw [Array.size_push, hsz] at this
      rw [hW2]; exact this
    rw [← hW2]
    have d0 := b0.mods k1 (HI.chan.not_blk b0)
    have d1 := b1.mods k1 (HI.chan.not_blk b1)
    have d2 := HI.blk.mods k1 HI.ga_pc
    have hm2 := HI.map.mods k1 HI.apart
    have hx2 := hx1.keeps (keeps_held HI (k1.mono fun _ e => .inr e) []) (by simp)
    have r0 := d0.cell 0
    have r1' := d0.cell 1
    have r2 := d0.cell 2
    have r3 := d0.cell 3
    have r4 := d0.cell 4
    have r5 := d1.cell 0
    have r6 := d1.cell 1
    have r7 := d2.cell 14
    rw [HI.mapc] at r7
    simp only [List.getElem?_toArray, List.getElem?_cons_zero, List.getElem?_cons_succ] at r0 r1' r2 r3 r4 r5 r6
    have y0 := fun x' (hx : Ext W2 x') => ext_cell hx r0
    have y1 := fun x' (hx : Ext W2 x') => ext_cell hx r1'
    have y2 := fun x' (hx : Ext W2 x') => ext_cell hx r2
    have y3 := fun x' (hx : Ext W2 x') => ext_cell hx r3
    have y4 := fun x' (hx : Ext W2 x') => ext_cell hx r4
    have y5 := fun x' (hx : Ext W2 x') => ext_cell hx r5
    have y6 := fun x' (hx : Ext W2 x') => ext_cell hx r6
    have y7 := fun x' (hx : Ext W2 x') => ext_cell hx r7
    have HIH := Lib.hid HI
    have HC := Lib.hid hc
    have HB0 := Lib.hid hB
    have hnew' : m.fh (x.it.level, x.it.n) = none := by
      rcases HI.helds (x.it.level, x.it.n) with h | ⟨y, _, h, _⟩
      · exact h.1
      · rw [hnew] at h; cases h
    clear hW2 hbuf hsz r0 r1' r2 r3 r4 r5 r6 r7 c0 c1 c15 d0 d1 d2 hx1 HI hc hB
    refine wp_region_planH3 (.reads 0 (.reads 1 (.reads 2 (.reads 3 (.reads 4 (.reads 5 (.makes 6 (.turns 7 (.done))))))))) (by kernel_rfl) (by kernel_rfl) (fun x' => Ext W2 x') (ext_drewN W2 1) (fun ops HOPS => ?_)
    (refine segH_pure _ _ _ _ _ _ (hid_get HOPS 0 _ rfl) rfl wanted_none (fun _ _ _ _ h => h) ?_; intro K hK; go_big_quiet_op; go_big_quiet_on)
    (refine segH_nil _ _ _ _ _ _ _ (hid_get HOPS 1 _ rfl) wanted_none rfl (fun _ _ _ _ h => h) ?_; simp only [Act.put, List.setIfInBounds_toArray, List.set_cons_zero, List.set_cons_succ])
    (refine segH_pure _ _ _ _ _ _ (hid_get HOPS 2 _ rfl) rfl wanted_none (fun _ _ _ _ h => h) ?_; intro K hK; go_big_quiet_op; go_big_quiet_on)
    (refine segH_load _ _ _ _ _ _ _ _ _ (hid_get HOPS 3 _ rfl) wanted_none rfl (fun _ _ _ _ h => h) (fun y hy => by go_simp; try with_reducible rfl) ?_; simp only [Act.put, List.setIfInBounds_toArray, List.set_cons_zero, List.set_cons_succ])
    (refine segH_load _ _ _ _ _ _ _ _ _ (hid_get HOPS 4 _ rfl) wanted_none rfl (fun _ _ _ _ h => h) (fun y hy => by go_simp; try with_reducible rfl) ?_; simp only [Act.put, List.setIfInBounds_toArray, List.set_cons_zero, List.set_cons_succ])
    (refine segH_load _ _ _ _ _ _ _ _ _ (hid_get HOPS 5 _ rfl) wanted_none rfl (fun _ _ _ _ h => h) (fun y hy => by go_simp; try with_reducible rfl) ?_; simp only [Act.put, List.setIfInBounds_toArray, List.set_cons_zero, List.set_cons_succ])
    refine segH_makes _ _ _ _ _ _ (hid_get HOPS 6 _ rfl) wanted_none (fun K hK => ?_)
    go_big_op
    refine (itemCopy_any x.it x.A x.c _ B (hx2.at_.ext (ext_drewN W2 1)) (by have := hx2.len; omega)).mono ?_
    rintro e w3 ⟨A3, c3, rfl, hW3, y⟩
    have P3 : Ext W2 w3 := ext_trans (ext_drewN W2 1) y
    have hm3 := hm2.ext P3
    obtain ⟨l, hl⟩ := key143 (x := (x.it.level, x.it.n)) h1 h2
    obtain ⟨o, hrun, hmN⟩ := hm3.store keyed143 ul137 wayV_inj hl hnew' (.agg (Iv.cells ⟨x.it, A3, c3⟩).toArray)
    have hrun' : (Instr.mapUpdate 137 (.map (some m.mo)) (.agg #[.int .i64 x.it.level, .int .i64 x.it.n]) (.agg #[.int .i64 x.it.level, .int .i64 x.it.n, .int .i64 x.it.turn, .bool x.it.shut, .slice A3 x.it.ws.length c3])).run Try.prog w3 = .ok () (setBlock w3 m.mo o) := hrun
    have k4 : Mods (fun k => k = m.mo) w3 (setBlock w3 m.mo o) := mods_setBlock _ _ _
    have hk4 : Keeps B [] w3 (setBlock w3 m.mo o) := Keeps.of_mods k4 fun i hi => by
      subst hi
      refine ⟨HIH.out.base.2.1, fun cs t fr hk => ?_⟩
      obtain ⟨es, clock, g1, _⟩ := hm3
      rw [hk] at g1; cases g1
    have km : Mods (fun g => g = m.mo ∨ g = m.pc) W (setBlock w3 m.mo o) := ((k1.mono (fun _ e => .inr e)).trans (Mods.of_below P3 (fun _ => False)) (fun _ _ e => e.elim)).trans k4 (fun _ _ e => .inl e)
    obtain ⟨p1, p2⟩ := HIH.out.turn km hmN ((hch.ext P3).mods k4 (fun e => HIH.out.apart e.symm)) HC.out { s with held := fun y => if y = (x.it.level, x.it.n) then some x.it else s.held y, cnt := s.cnt + 1 } ⟨rfl, rfl, rfl, rfl, rfl⟩ (fun z => by
      by_cases hz : z = (x.it.level, x.it.n)
      · rw [if_pos hz]
        refine .inr ⟨⟨x.it, A3, c3⟩, rfl, if_pos hz, ⟨RowsAt.keeps hW3 hk4 (by simp), hx2.wr, hx2.len⟩⟩
      · rw [if_neg hz]
        have e : (if z = (x.it.level, x.it.n) then some x.it else s.held z) = s.held z := if_neg hz
        show HeldOk _ _ _ (if z = (x.it.level, x.it.n) then some x.it else s.held z)
        rw [e]
        exact (HIH.out.helds z).keeps (keeps_held HIH.out km []) (by simp))
    have HF : Hid (holdsN s = 0 ∧ ∃ m', IntAt (setBlock w3 m.mo o) B A c rs lev m' (holdsSt s x.it) ∧ IntGo B w m (setBlock w3 m.mo o) m') :=
      ⟨if_pos HC.out, _, by rw [holdsSt, if_pos HC.out]; exact p1, hgo.trans p2⟩
    refine hK _ _ (fun x' => Ext W2 x') P3 (fun _ h => h) ?_
    clear hK y p1 p2 hm2 hm3 hmN k4 hk4 km
    clear hrun
    refine segH_turns _ _ _ _ _ _ (hid_get HOPS 7 _ rfl) wanted_none (fun K hK => ?_)
    go_big_op
    refine hK _ _ (fun _ => True) trivial ?_
    clear hK
    refine seg_done ?_
    clear HOPS
    clear y0 y1 y2 y3 y4 y5 y6 y7 hrun'
    go_wp2
    go_ret
    exact ⟨by rw [HF.out.1]; rfl, HF.out.2⟩
  · refine sem_region ?_
    show SemOps _ _ _ [0, 1, 2] _ _
    refine sem_sel_full (v := .agg #[.int .i64 x.it.level, .int .i64 x.it.n]) (z := .agg #[.int .i64 0, .int .i64 0]) rfl rfl (by kernel_rfl) hbuf (by omega) ?_
    refine semOps_drop 1 ?_
    simp only [List.drop_succ_cons, List.drop_zero, Act.put, List.getElem_toArray, List.getElem_cons_zero, List.getElem_cons_succ, List.setIfInBounds_toArray, List.set_cons_zero, List.set_cons_succ]
    go_wp2_with fail
    have HF : Hid (holdsN s = 25 ∧ holdsSt s x.it = s) := ⟨if_neg hc, if_neg hc⟩
    have HG : Hid (IntAt W B A c rs lev m s ∧ IntGo B w m W m) := ⟨HI, hgo⟩
    clear HI hgo hbuf hsz c15 c0 c1
    go_wp2
    go_ret
    exact ⟨by rw [HF.out.1]; rfl, m, by rw [HF.out.2]; exact HG.out.1, HG.out.2⟩
end
end Go.Proofs.Ytdknkbpgkkakhaa
