/- Layer 20: comes. -/
import Derived.Test.YtdknkbpgkkakhaaInt3
namespace Go.Proofs.Ytdknkbpgkkakhaa
open Go.RowKit Go.Maps
open Go.ChangeMaps (setBlock)

theorem Own.off {α : Type} {E : Elem α} {w : World} {base : Nat} {v : Value} {xs : List α} (h : Own E w base v xs) : Off E w base v xs := by
  rcases h.2 with ⟨rfl, h0⟩ | ⟨g, cap, cur, rfl, hg, hh, hnc, hcm, hsz, htk⟩
  · exact .inl ⟨rfl, List.eq_nil_of_length_eq_zero h0⟩
  · refine .inr ⟨g, 0, cap, cur, rfl, hg, hh, hnc, hcm, by omega, fun j u hj => ?_⟩
    rw [← htk, List.getElem?_take] at hj
    split at hj
    · simpa using hj
    · cases hj
section
variable {α : Type} (E : Elem α) {o : Oper} {a : Act} {K : Act → World → Prop} {Q : Exit → Act → World → Prop} {w : World}
theorem wp_append_off (s x : Operand) (ho : o.op = .call { callee := .builtin .append, args := #[s, x], argTypes := #[E.t, E.t] })
    (base : Nat) (v : Value) (xs : List α) (hs : a.eval s = v) (h0 : Off E w base v xs) (ad : Addr) (c : Nat) (ys : List α) (hx : a.eval x = .slice (some ad) ys.length c) (B : Nat) (hr : RowsAt w B E.e E.size E.f (some ad) ys) (hne : ys ≠ [])
    (hlen : (xs.length + ys.length) * E.bytes ≤ 140737488355328) (hl2 : xs.length + ys.length ≤ maxLen) (hbase : base ≤ w.heap.size)
    (h : ∀ v' w', Off E w' base v' (xs ++ ys) → w.grownBy w' v.ownBlock → (v'.ownBlock = v.ownBlock ∨ v'.ownBlock = some w.heap.size) → K (a.put o.dst v') w') :
    o.wp Try.prog a w K Q := by
  obtain ⟨v', w', hrun, h2, h3, h4⟩ := run_append_off (E := E) o.type h0 ad c ys B hr hne hlen hl2 hbase
  unfold Oper.wp execOp
  simp only [ho, resolve, invoke, builtin, Sem.run_bind, Sem.run_pure, Result.andThen_ok, List.map_toArray, List.map_cons, List.map_nil, hs, hx, hrun]
  exact h v' w' h2 h3 h4
end
/-- The slice cut down to its own length. -/
theorem Off.cut {α : Type} {E : Elem α} {w : World} {base : Nat} {A : Option Addr} {c : Nat} {xs : List α} (h : Off E w base (.slice A xs.length c) xs) : Off E w base (.slice A xs.length xs.length) xs := by
  rcases h with ⟨hv, rfl⟩ | ⟨g, off, cap, cur, hv, h1, h2, h3, h4, h5, h6⟩
  · injection hv with e1 _ _
    subst e1
    exact .inl ⟨rfl, rfl⟩
  · injection hv with e1 _ _
    subst e1
    refine .inr ⟨g, off, xs.length, cur, rfl, h1, h2, Nat.le_refl _, Nat.le_trans h3 h4, ?_, h6⟩
    have := Nat.mul_le_mul_right E.size h3
    omega
theorem Off.le_cap {α : Type} {E : Elem α} {w : World} {base : Nat} {A : Option Addr} {c : Nat} {xs : List α} (h : Off E w base (.slice A xs.length c) xs) : xs.length ≤ c := by
  rcases h with ⟨hv, rfl⟩ | ⟨g, off, cap, cur, hv, _, _, hnc, _⟩
  · exact Nat.zero_le _
  · injection hv with _ _ h3
    omega

section
variable {w w' : World} {B : Nat} {A : Option Addr} {c : Nat} {rs : List Rw} {lev : Int} {m : IntMem} {s : IntSt}
/-- Another slice of items that came, be the old one's block grown. -/
theorem IntAt.storeCame (h : IntAt w B A c rs lev m s) {w3 : World} (k3 : Mods (fun k => m.vc.ownBlock = some k) w w3) {v : Value} {ys : List Iv} (hv : Off elIv w3 B v ys) (hok : ∀ y ∈ ys, IvOk w3 B y) (hl : ys.length ≤ 1000000)
    (hnew : ∀ b, v.ownBlock = some b → m.vc.ownBlock = some b ∨ w.heap.size ≤ b) (s' : IntSt) (he : s'.have_ = s.have_ ∧ s'.over = s.over ∧ s'.held = s.held ∧ s'.cnt = s.cnt ∧ s'.first = s.first) (hc : its ys = s'.came) :
    IntAt (w3.setCell ⟨m.ga, 16, none⟩ v) B A c rs lev { m with cs := m.cs.setIfInBounds 16 v, vc := v } s' ∧ IntGo B w m (w3.setCell ⟨m.ga, 16, none⟩ v) { m with cs := m.cs.setIfInBounds 16 v, vc := v } := by
  have b3 : Blk w3 m.ga 140 m.cs := h.blk.mods k3 h.vc_ga
  have k4 : Mods (fun g => g = m.ga) w3 (w3.setCell ⟨m.ga, 16, none⟩ v) := mods_setCell w3 ⟨m.ga, 16, none⟩ v
  have hk4 : Keeps B [140] w3 (w3.setCell ⟨m.ga, 16, none⟩ v) := Keeps.of_mods k4 fun i hi => by
    subst hi
    refine ⟨h.base.1, fun cs t fr hk => ?_⟩
    unfold Blk at b3
    rw [b3] at hk
    injection hk with hk
    injection hk with _ hk
    simp [hk]
  have hk3 : Keeps B [33] w w3 := Keeps.of_mods k3 fun i hi => by
    obtain ⟨h1, cur, h2⟩ := h.vc_blk hi
    refine ⟨h1, fun cs t fr hk => ?_⟩
    unfold Blk at h2
    rw [h2] at hk
    injection hk with hk
    injection hk with _ hk
    simp [← hk]
  obtain ⟨e1, e2, e3, e4, e5⟩ := he
  have hne : v.ownBlock ≠ some m.ga := fun hb => by
    obtain ⟨_, _, cur, h1⟩ := hv.typed hb
    unfold Blk at h1 b3
    rw [b3] at h1
    injection h1 with h1
    injection h1 with _ h1
    cases h1
  have km : Mods (IntOwn m) w (w3.setCell ⟨m.ga, 16, none⟩ v) := (k3.mono fun _ e => .inr (.inr (.inr e))).trans k4 (fun _ _ e => .inl e)
  refine ⟨⟨h.base, h.apart, b3.set_ _ _, by show (m.cs.setIfInBounds _ _).size = _; rw [Array.size_setIfInBounds]; exact h.size, ?_, ?_, ?_, ?_, ?_, ?_, ?_, ?_, ?_, ?_, ?_, ?_, (h.mat.keeps hk3 (by decide) (by decide)).keeps hk4 (by decide) (by decide), by rw [e4]; exact h.few, by rw [← hc, its_length]; exact hl⟩,
    ⟨?_, km, ?_, rfl⟩⟩
  · show (m.cs.setIfInBounds _ _)[0]? = _
    rw [get_set_ne (by omega)]; exact h.lat
  · show (m.cs.setIfInBounds _ _)[1]? = _
    rw [get_set_ne (by omega)]; exact h.lev_
  · intro a ha
    show (m.cs.setIfInBounds _ _)[2 + a]? = _
    rw [get_set_ne (by omega), e1]; exact h.hav a ha
  · intro a ha
    show (m.cs.setIfInBounds _ _)[8 + a]? = _
    rw [get_set_ne (by omega), e2]; exact h.ovr a ha
  · show (m.cs.setIfInBounds _ _)[14]? = _
    rw [get_set_ne (by omega)]; exact h.mapc
  · show (m.cs.setIfInBounds _ _)[15]? = _
    rw [get_set_ne (by omega)]; exact h.chac
  · show (m.cs.setIfInBounds _ _)[16]? = _
    rw [get_set_eq (by rw [h.size]; omega)]
  · show (m.cs.setIfInBounds _ _)[17]? = _
    rw [get_set_ne (by omega), e5]; exact h.firc
  · rw [e4]; exact (h.map.mods k3 h.vc_mo).mods k4 (fun e => h.ga_mo e.symm)
  · rw [e4]; exact (h.chan.mods k3 h.vc_pc).mods k4 (fun e => h.ga_pc e.symm)
  · intro x
    rw [e3]; exact ((h.helds x).keeps hk3 (by decide)).keeps hk4 (by decide)
  · exact ⟨ys, hv.mods k4 (fun b hb e => hne (by rw [hb, e])), hc, fun y hy => (hok y hy).keeps hk4 (by decide)⟩
  · exact km.below h.base_le (fun g hg => (h.own_lt hg).1)
  · rintro g (rfl | rfl | rfl | hg)
    · exact .inl (.inl rfl)
    · exact .inl (.inr (.inl rfl))
    · exact .inl (.inr (.inr (.inl rfl)))
    · exact (hnew g hg).imp (fun e => .inr (.inr (.inr e))) id
def comesSt (s : IntSt) (x : It) : IntSt :=
  let s1 := comesHave s x.level.toNat
  if x.shut = true then comesOver s1 x.level.toNat else { s1 with came := s1.came ++ [x] }
set_option maxRecDepth 100000 in
set_option maxHeartbeats 4000000 in
theorem intComes_any (h : IntAt w B A c rs lev m s) (x : Iv) (hx : IvOk w B x) {a : Nat} (ha : a < 6) (hxa : x.it.level = (a : Int)) (h1 : 0 ≤ s.have_ a ∧ s.have_ a ≤ 1000000) (h2 : 0 ≤ s.over a ∧ s.over a ≤ 1000000) (hl : s.came.length < 1000000) :
    Calls Try.prog 112 #[.pointer (some ⟨m.ga, 0, none⟩), .agg #[.int .i64 x.it.level, .int .i64 x.it.n, .int .i64 x.it.turn, .bool x.it.shut, .slice x.A x.it.ws.length x.c]] w
      fun e w' => e = .returned (.tuple #[]) ∧ ∃ m', IntAt w' B A c rs lev m' (comesSt s x.it) ∧ IntGo B w m w' m' := by
  have hB := h.base_le
  have hst : comesSt s x.it = if x.it.shut = true then comesOver (comesHave s a) a else { comesHave s a with came := (comesHave s a).came ++ [x.it] } := by
    unfold comesSt
    rw [hxa]; rfl
  rw [hxa]
  have HST := Lib.hid hst
  clear hst
  obtain ⟨W, hW⟩ : ∃ W, W = w.alloc (.cells #[.int .i64 (a : Int), .int .i64 x.it.n, .int .i64 x.it.turn, .bool x.it.shut, .slice x.A x.it.ws.length x.c] 33) := ⟨_, rfl⟩
  have x0 : Ext w W := by rw [hW]; exact ext_alloc _ _
  have b0 : Blk W w.heap.size 33 #[.int .i64 (a : Int), .int .i64 x.it.n, .int .i64 x.it.turn, .bool x.it.shut, .slice x.A x.it.ws.length x.c] := by rw [hW]; exact Blk.new _ _ _
  have HI := h.ext x0
  have hgo : IntGo B w m W m := .of_ext x0 hB m
  have hx1 := hx.ext x0
  have hne : w.heap.size ≠ m.ga := fun e => by have := h.blk.lt; omega
  have hvg : m.vc.ownBlock ≠ some w.heap.size := fun e => by have := (h.own_lt (.inr (.inr (.inr e)))).2; omega
  have HW := Lib.hid hW
  clear hW h hx x0
  go_enter Try.func112, Try.ntmps112
  go_upto_region 1 with fail
  rw [← HW.out]
  clear HW
  obtain ⟨gx, hgx⟩ : ∃ gx, gx = w.heap.size := ⟨_, rfl⟩
  rw [← hgx] at b0 hne hvg ⊢
  clear hgx
  have r0 := b0.cell 0
  have r1 := HI.blk.cell (2 + a)
  rw [HI.hav a ha] at r1
  simp only [List.getElem?_toArray, List.getElem?_cons_zero, List.getElem?_cons_succ] at r0
  have y0 := fun x' (hx : Ext W x') => ext_cell hx r0
  have y1 := fun x' (hx : Ext W x') => ext_cell hx r1
  have fz := HI.blk.frozen
  have hwr : IntKind.i64.wrap (s.have_ a + 1) = s.have_ a + 1 := IntWalk.i64_in _ (by omega)
  clear r0 r1
  have HH := Lib.hid HI
  clear HI
  have q1 := y1 W.drew (ext_drewN W 1)
  have fzd := (HH.out.blk.ext (ext_drewN W 1)).frozen
  refine wp_region_planH3 (.reads 0 (.reads 1 (.reads 2 (.reads 3 (.reads 4 (.reads 5 (.reads 6 (.reads 7 (.reads 8 (.reads 9 (.reads 10 (.turns 11 (.done))))))))))))) (by kernel_rfl) (by kernel_rfl) (fun x' => Ext W x') (ext_drewN W 1) (fun ops HOPS => ?_)
  (refine segH_pure _ _ _ _ _ _ (hid_get HOPS 0 _ rfl) rfl wanted_none (fun _ _ _ _ h => h) ?_; intro K hK; go_big_quiet_op; go_big_quiet_on)
  (refine segH_pure _ _ _ _ _ _ (hid_get HOPS 1 _ rfl) rfl wanted_none (fun _ _ _ _ h => h) ?_; intro K hK; go_big_quiet_op; go_big_quiet_on)
  (refine segH_load _ _ _ _ _ _ _ _ _ (hid_get HOPS 2 _ rfl) wanted_none rfl (fun _ _ _ _ h => h) (fun y hy => by go_simp; try with_reducible rfl) ?_; simp only [Act.put, List.setIfInBounds_toArray, List.set_cons_zero, List.set_cons_succ])
  (refine segH_nil _ _ _ _ _ _ _ (hid_get HOPS 3 _ rfl) wanted_none rfl (fun _ _ _ _ h => h) ?_; simp only [Act.put, List.setIfInBounds_toArray, List.set_cons_zero, List.set_cons_succ])
  (refine segH_pure _ _ _ _ _ _ (hid_get HOPS 4 _ rfl) rfl wanted_none (fun _ _ _ _ h => h) ?_; intro K hK; go_big_quiet_op; go_big_quiet_on)
  (refine segH_pure _ _ _ _ _ _ (hid_get HOPS 5 _ rfl) rfl wanted_none (fun _ _ _ _ h => h) ?_; intro K hK; go_big_quiet_op; go_big_quiet_on)
  (refine segH_load _ _ _ _ _ _ _ _ _ (hid_get HOPS 6 _ rfl) wanted_none rfl (fun _ _ _ _ h => h) (fun y hy => by go_simp; try with_reducible rfl) ?_; simp only [Act.put, List.setIfInBounds_toArray, List.set_cons_zero, List.set_cons_succ])
  (refine segH_pure _ _ _ _ _ _ (hid_get HOPS 7 _ rfl) rfl wanted_none (fun _ _ _ _ h => h) ?_; intro K hK; go_big_quiet_op; go_big_quiet_on)
  (refine segH_nil _ _ _ _ _ _ _ (hid_get HOPS 8 _ rfl) wanted_none rfl (fun _ _ _ _ h => h) ?_; simp only [Act.put, List.setIfInBounds_toArray, List.set_cons_zero, List.set_cons_succ])
  (refine segH_pure _ _ _ _ _ _ (hid_get HOPS 9 _ rfl) rfl wanted_none (fun _ _ _ _ h => h) ?_; intro K hK; go_big_quiet_op; go_big_quiet_on)
  (refine segH_pure _ _ _ _ _ _ (hid_get HOPS 10 _ rfl) rfl wanted_none (fun _ _ _ _ h => h) ?_; intro K hK; go_big_quiet_op; go_big_quiet_on)
  refine segH_turns _ _ _ _ _ _ (hid_get HOPS 11 _ rfl) wanted_none (fun K hK => ?_)
  go_big_op
  refine hK _ _ (fun _ => True) trivial ?_
  clear hK
  refine seg_done ?_
  clear HOPS
  clear y0 y1 fz fzd q1 hwr
  have xd : Ext (W.setCell ⟨m.ga, 2 + a, none⟩ (.int .i64 (s.have_ a + 1))) (W.setCell ⟨m.ga, 2 + a, none⟩ (.int .i64 (s.have_ a + 1))).drew := ext_drewN _ 1
  obtain ⟨p1, p2⟩ := HH.out.putHave ha
  replace p1 := p1.ext xd
  have b1 := (b0.mods (mods_setCell W ⟨m.ga, 2 + a, none⟩ (.int .i64 (s.have_ a + 1))) hne).ext xd
  have hx2 := (hx1.keeps (keeps_ga HH.out (mods_setCell W ⟨m.ga, 2 + a, none⟩ (.int .i64 (s.have_ a + 1)))) (by decide)).ext xd
  have hgo2 := (hgo.trans p2).ext hB xd
  clear hx1 hgo HH p2 b0
  generalize (W.setCell ⟨m.ga, 2 + a, none⟩ (.int .i64 (s.have_ a + 1))).drew = w2 at p1 hgo2 b1 hx2 xd ⊢
  clear xd
  obtain ⟨m2, hm2, hm3, p1, hgo2⟩ : ∃ m2, m2.ga = m.ga ∧ m2.vc = m.vc ∧ IntAt w2 B A c rs lev m2 (comesHave s a) ∧ IntGo B w m w2 m2 := ⟨_, rfl, rfl, p1, hgo2⟩
  rw [← hm2] at hne ⊢
  rw [← hm3] at hvg
  clear hm2 hm3
  have b2 := b1
  have c3 := b1.cell 3
  simp only [List.getElem?_toArray, List.getElem?_cons_zero, List.getElem?_cons_succ] at c3
  have HP := Lib.hid p1
  have HG := Lib.hid hgo2
  have HB := Lib.hid b1
  have HX := Lib.hid hx2
  clear p1 hgo2 b1 b2 hx2
  cases hs : x.it.shut
  · rw [hs] at c3
    have HS := Lib.hid hs
    clear hs
    go_wp2
    go_upto_region 4 with fail
    have r0 := HB.out.cell 0
    have r1 := HB.out.cell 1
    have r2 := HB.out.cell 2
    have r3 := HB.out.cell 3
    have r4 := HB.out.cell 4
    have r5 := HP.out.blk.cell 16
    rw [HP.out.camc] at r5
    rw [HS.out] at r3
    simp only [List.getElem?_toArray, List.getElem?_cons_zero, List.getElem?_cons_succ] at r0 r1 r2 r3 r4
    obtain ⟨ys, hO, hys, hok⟩ := HP.out.came
    obtain ⟨A0, c0, hv⟩ := hO.form
    rw [hv] at r5 hO
    have hcap := hO.le_cap
    have hcl : ys.length < 1000000 := by
      rw [← its_length, hys]; exact hl
    have yb : ∀ x', Mods (fun k => m2.vc.ownBlock = some k) w2 x' → ∀ i, x'.cell? ⟨gx, i, none⟩ = w2.cell? ⟨gx, i, none⟩ := fun x' hx i => by rw [(HB.out.mods hx hvg).cell, HB.out.cell]
    have yg : ∀ x', Mods (fun k => m2.vc.ownBlock = some k) w2 x' → ∀ i, x'.cell? ⟨m2.ga, i, none⟩ = w2.cell? ⟨m2.ga, i, none⟩ := fun x' hx i => by rw [(HP.out.blk.mods hx HP.out.vc_ga).cell, HP.out.blk.cell]
    have y0 := fun x' hx => (yb x' hx 0).trans r0
    have y1 := fun x' hx => (yb x' hx 1).trans r1
    have y2 := fun x' hx => (yb x' hx 2).trans r2
    have y3 := fun x' hx => (yb x' hx 3).trans r3
    have y4 := fun x' hx => (yb x' hx 4).trans r4
    have y5 := fun x' hx => (yg x' hx 16).trans r5
    have HO := Lib.hid hO
    have HYS : Hid (its ys = s.came) := hys
    have HOK := Lib.hid hok
    have HV := Lib.hid hv
    clear r0 r1 r2 r3 r4 r5 c3 hO hys hok hv yb yg
    refine wp_region_planH3 (.reads 0 (.reads 1 (.reads 2 (.reads 3 (.reads 4 (.reads 5 (.reads 6 (.reads 7 (.reads 8 (.reads 9 (.reads 10 (.reads 11 (.reads 12 (.reads 13 (.reads 14 (.reads 15 (.reads 16 (.makes 17 (.makes 18 (.reads 19 (.reads 20 (.turns 21 (.done))))))))))))))))))))))) (by kernel_rfl) (by kernel_rfl) (fun x' => Mods (fun k => m2.vc.ownBlock = some k) w2 x') (Mods.of_below (ext_drewN w2 1) _) (fun ops HOPS => ?_)
    (refine segH_pure _ _ _ _ _ _ (hid_get HOPS 0 _ rfl) rfl wanted_none (fun _ _ _ _ h => h) ?_; intro K hK; go_big_quiet_op; go_big_quiet_on)
    (refine segH_pure _ _ _ _ _ _ (hid_get HOPS 1 _ rfl) rfl wanted_none (fun _ _ _ _ h => h) ?_; intro K hK; go_big_quiet_op; go_big_quiet_on)
    (refine segH_nil _ _ _ _ _ _ _ (hid_get HOPS 2 _ rfl) wanted_none rfl (fun _ _ _ _ h => h) ?_; simp only [Act.put, List.setIfInBounds_toArray, List.set_cons_zero, List.set_cons_succ])
    (refine segH_pure _ _ _ _ _ _ (hid_get HOPS 3 _ rfl) rfl wanted_none (fun _ _ _ _ h => h) ?_; intro K hK; go_big_quiet_op; go_big_quiet_on)
    (refine segH_load _ _ _ _ _ _ _ _ _ (hid_get HOPS 4 _ rfl) wanted_none rfl (fun _ _ _ _ h => h) (fun y hy => by go_simp; try with_reducible rfl) ?_; simp only [Act.put, List.setIfInBounds_toArray, List.set_cons_zero, List.set_cons_succ])
    (refine segH_pure _ _ _ _ _ _ (hid_get HOPS 5 _ rfl) rfl wanted_none (fun _ _ _ _ h => h) ?_; intro K hK; go_big_quiet_op; go_big_quiet_on)
    (refine segH_nil _ _ _ _ _ _ _ (hid_get HOPS 6 _ rfl) wanted_none rfl (fun _ _ _ _ h => h) ?_; simp only [Act.put, List.setIfInBounds_toArray, List.set_cons_zero, List.set_cons_succ])
    (refine segH_pure _ _ _ _ _ _ (hid_get HOPS 7 _ rfl) rfl wanted_none (fun _ _ _ _ h => h) ?_; intro K hK; go_big_quiet_op; go_big_quiet_on)
    (refine segH_load _ _ _ _ _ _ _ _ _ (hid_get HOPS 8 _ rfl) wanted_none rfl (fun _ _ _ _ h => h) (fun y hy => by go_simp; try with_reducible rfl) ?_; simp only [Act.put, List.setIfInBounds_toArray, List.set_cons_zero, List.set_cons_succ])
    (refine segH_pure _ _ _ _ _ _ (hid_get HOPS 9 _ rfl) rfl wanted_none (fun _ _ _ _ h => h) ?_; intro K hK; go_big_quiet_op; go_big_quiet_on)
    (refine segH_pure _ _ _ _ _ _ (hid_get HOPS 10 _ rfl) rfl wanted_none (fun _ _ _ _ h => h) ?_; intro K hK; go_big_quiet_op; go_big_quiet_on)
    (refine segH_nil _ _ _ _ _ _ _ (hid_get HOPS 11 _ rfl) wanted_none rfl (fun _ _ _ _ h => h) ?_; simp only [Act.put, List.setIfInBounds_toArray, List.set_cons_zero, List.set_cons_succ])
    (refine segH_pure _ _ _ _ _ _ (hid_get HOPS 12 _ rfl) rfl wanted_none (fun _ _ _ _ h => h) ?_; intro K hK; go_big_quiet_op; go_big_quiet_on)
    (refine segH_load _ _ _ _ _ _ _ _ _ (hid_get HOPS 13 _ rfl) wanted_none rfl (fun _ _ _ _ h => h) (fun y hy => by go_simp; try with_reducible rfl) ?_; simp only [Act.put, List.setIfInBounds_toArray, List.set_cons_zero, List.set_cons_succ])
    (refine segH_pure _ _ _ _ _ _ (hid_get HOPS 14 _ rfl) rfl wanted_none (fun _ _ _ _ h => h) ?_; intro K hK; go_big_quiet_op; go_big_quiet_on)
    (refine segH_pure _ _ _ _ _ _ (hid_get HOPS 15 _ rfl) rfl wanted_none (fun _ _ _ _ h => h) ?_; intro K hK; go_big_quiet_op; go_big_quiet_on)
    (refine segH_load _ _ _ _ _ _ _ _ _ (hid_get HOPS 16 _ rfl) wanted_none rfl (fun _ _ _ _ h => h) (fun y hy => by go_simp; try with_reducible rfl) ?_; simp only [Act.put, List.setIfInBounds_toArray, List.set_cons_zero, List.set_cons_succ])
    refine segH_makes _ _ _ _ _ _ (hid_get HOPS 17 _ rfl) wanted_none (fun K hK => ?_)
    go_big_op
    have xd : Ext w2 (w2.alloc (.cells (Iv.cells (⟨⟨(a : Int), x.it.n, x.it.turn, false, x.it.ws⟩, x.A, x.c⟩ : Iv)).toArray 33)).drew := ext_trans (ext_alloc _ _) (ext_drewN _ 1)
    have hsz : B ≤ (w2.alloc (.cells (Iv.cells (⟨⟨(a : Int), x.it.n, x.it.turn, false, x.it.ws⟩, x.A, x.c⟩ : Iv)).toArray 33)).drew.heap.size := Nat.le_trans hB (Nat.le_trans HG.out.below.size xd.size)
    have HBK := Lib.hid (RowsAt.ext (rows_block (E := elIv) (B := B) (⟨⟨(a : Int), x.it.n, x.it.turn, false, x.it.ws⟩, x.A, x.c⟩ : Iv) (Blk.new w2 33 (Iv.cells (⟨⟨(a : Int), x.it.n, x.it.turn, false, x.it.ws⟩, x.A, x.c⟩ : Iv)).toArray)) (ext_drewN _ 1))
    have hob : (Value.slice A0 ys.length ys.length).ownBlock = m2.vc.ownBlock := by rw [HV.out]; cases A0 <;> rfl
    have HXE : Hid ((⟨⟨(a : Int), x.it.n, x.it.turn, false, x.it.ws⟩, x.A, x.c⟩ : Iv).it = x.it) := by
      show _ = _
      rw [← hxa, ← HS.out]
    refine hK _ _ (fun x' => Mods (fun k => m2.vc.ownBlock = some k) w2 x') (Mods.of_below xd _) (fun _ h => h) ?_
    clear hK
    refine segH_makes _ _ _ _ _ _ (hid_get HOPS 18 _ rfl) wanted_none (fun K hK => ?_)
    refine wp_append_off elIv _ _ rfl B (.slice A0 ys.length ys.length) ys rfl (HO.out.cut.ext xd) ⟨w2.heap.size, 0, none⟩ 1 [(⟨⟨(a : Int), x.it.n, x.it.turn, false, x.it.ws⟩, x.A, x.c⟩ : Iv)] rfl B HBK.out (by simp) (by show _ * 56 ≤ _; simp; omega) (by simp [maxLen]; omega) hsz ?_
    intro v3 w3 hoff hg3 hat
    obtain ⟨A3, c3', rfl⟩ := hoff.form
    rw [hob] at hg3 hat
    have MS : Mods (fun k => m2.vc.ownBlock = some k) w2 w3 := (Mods.of_below xd _).trans (Mods.grown hg3) (fun k hk h => h)
    have hk3 : Keeps B [33] w2 w3 := Keeps.of_mods MS fun i hi => by
      obtain ⟨g1, cur, g2⟩ := HP.out.vc_blk hi
      refine ⟨g1, fun cs t fr hk => ?_⟩
      unfold Blk at g2
      rw [g2] at hk
      injection hk with hk
      injection hk with _ hk
      simp [← hk]
    have hx3 := HX.out.keeps hk3 (by decide)
    obtain ⟨p1, p2⟩ := HP.out.storeCame MS hoff (fun y hy => by
      rcases List.mem_append.1 hy with hy | hy
      · exact (HOK.out y hy).keeps hk3 (by decide)
      · have e1 : y = (⟨⟨(a : Int), x.it.n, x.it.turn, false, x.it.ws⟩, x.A, x.c⟩ : Iv) := by simpa using hy
        subst e1
        exact ⟨hx3.at_, hx3.wr, hx3.len⟩) (by simp; omega) (fun b hb => by
      rcases hat with h5 | h5
      · exact .inl (by rw [← h5]; exact hb)
      · right
        rw [h5] at hb
        exact Nat.le_trans xd.size (Nat.le_of_eq (Option.some.inj hb))) { comesHave s a with came := s.came ++ [x.it] } ⟨rfl, rfl, rfl, rfl, rfl⟩ (by rw [its_append, HYS.out]; show s.came ++ [(⟨⟨(a : Int), x.it.n, x.it.turn, false, x.it.ws⟩, x.A, x.c⟩ : Iv).it] = _; rw [HXE.out])
    have q1 := y5 w3 MS
    have fz := (HP.out.blk.mods MS HP.out.vc_ga).frozen
    have hgo := HG.out.trans p2
    refine hK _ _ (fun x' => Mods (fun k => m2.vc.ownBlock = some k) w2 x') MS (fun _ h => h) ?_
    clear hK
    simp only [Act.put, List.setIfInBounds_toArray, List.set_cons_zero, List.set_cons_succ]
    (refine segH_nil _ _ _ _ _ _ _ (hid_get HOPS 19 _ rfl) wanted_none rfl (fun _ _ _ _ h => h) ?_; simp only [Act.put, List.setIfInBounds_toArray, List.set_cons_zero, List.set_cons_succ])
    (refine segH_pure _ _ _ _ _ _ (hid_get HOPS 20 _ rfl) rfl wanted_none (fun _ _ _ _ h => h) ?_; intro K hK; go_big_quiet_op; go_big_quiet_on)
    refine segH_turns _ _ _ _ _ _ (hid_get HOPS 21 _ rfl) wanted_none (fun K hK => ?_)
    go_big_op
    refine hK _ _ (fun _ => True) trivial ?_
    clear hK
    refine seg_done ?_
    clear HOPS
    have HF : Hid (∃ m', IntAt (w3.setCell ⟨m2.ga, 16, none⟩ (.slice A3 (ys ++ [(⟨⟨(a : Int), x.it.n, x.it.turn, false, x.it.ws⟩, x.A, x.c⟩ : Iv)]).length c3')) B A c rs lev m' (comesSt s x.it) ∧ IntGo B w m (w3.setCell ⟨m2.ga, 16, none⟩ (.slice A3 (ys ++ [(⟨⟨(a : Int), x.it.n, x.it.turn, false, x.it.ws⟩, x.A, x.c⟩ : Iv)]).length c3')) m') := by
      rw [HST.out, if_neg (by rw [HS.out]; exact Bool.false_ne_true)]
      exact ⟨_, p1, hgo⟩
    clear p1 p2 hgo q1 fz y0 y1 y2 y3 y4 y5
    go_wp2
    (try simp only [Exit.inBlock, Exit.then])
    refine bodyPost_end (results_none rfl _ _ _) rfl ?_
    refine ⟨rfl, ?_⟩
    have hF := HF.out
    simp only [List.length_append, List.length_singleton] at hF
    exact hF
  · rw [hs] at c3
    have HS := Lib.hid hs
    clear hs
    go_upto_region 3 with fail
    have r0 := HB.out.cell 0
    have r1 := HP.out.blk.cell (8 + a)
    rw [HP.out.ovr a ha] at r1
    simp only [List.getElem?_toArray, List.getElem?_cons_zero, List.getElem?_cons_succ] at r0
    have y0 := fun x' (hx : Ext w2 x') => ext_cell hx r0
    have y1 := fun x' (hx : Ext w2 x') => ext_cell hx r1
    have q1 := y1 w2.drew (ext_drewN w2 1)
    have fzd := HP.out.blk.frozen
    have hwr : IntKind.i64.wrap (s.over a + 1) = s.over a + 1 := IntWalk.i64_in _ (by omega)
    rw [show (comesHave s a).over a = s.over a from rfl] at y1 q1
    clear r0 r1 c3
    refine wp_region_planH3 (.reads 0 (.reads 1 (.reads 2 (.reads 3 (.reads 4 (.reads 5 (.reads 6 (.reads 7 (.reads 8 (.reads 9 (.reads 10 (.turns 11 (.done))))))))))))) (by kernel_rfl) (by kernel_rfl) (fun x' => Ext w2 x') (ext_drewN w2 1) (fun ops HOPS => ?_)
    (refine segH_pure _ _ _ _ _ _ (hid_get HOPS 0 _ rfl) rfl wanted_none (fun _ _ _ _ h => h) ?_; intro K hK; go_big_quiet_op; go_big_quiet_on)
    (refine segH_pure _ _ _ _ _ _ (hid_get HOPS 1 _ rfl) rfl wanted_none (fun _ _ _ _ h => h) ?_; intro K hK; go_big_quiet_op; go_big_quiet_on)
    (refine segH_load _ _ _ _ _ _ _ _ _ (hid_get HOPS 2 _ rfl) wanted_none rfl (fun _ _ _ _ h => h) (fun y hy => by go_simp; try with_reducible rfl) ?_; simp only [Act.put, List.setIfInBounds_toArray, List.set_cons_zero, List.set_cons_succ])
    (refine segH_nil _ _ _ _ _ _ _ (hid_get HOPS 3 _ rfl) wanted_none rfl (fun _ _ _ _ h => h) ?_; simp only [Act.put, List.setIfInBounds_toArray, List.set_cons_zero, List.set_cons_succ])
    (refine segH_pure _ _ _ _ _ _ (hid_get HOPS 4 _ rfl) rfl wanted_none (fun _ _ _ _ h => h) ?_; intro K hK; go_big_quiet_op; go_big_quiet_on)
    (refine segH_pure _ _ _ _ _ _ (hid_get HOPS 5 _ rfl) rfl wanted_none (fun _ _ _ _ h => h) ?_; intro K hK; go_big_quiet_op; go_big_quiet_on)
    (refine segH_load _ _ _ _ _ _ _ _ _ (hid_get HOPS 6 _ rfl) wanted_none rfl (fun _ _ _ _ h => h) (fun y hy => by go_simp; try with_reducible rfl) ?_; simp only [Act.put, List.setIfInBounds_toArray, List.set_cons_zero, List.set_cons_succ])
    (refine segH_pure _ _ _ _ _ _ (hid_get HOPS 7 _ rfl) rfl wanted_none (fun _ _ _ _ h => h) ?_; intro K hK; go_big_quiet_op; go_big_quiet_on)
    (refine segH_nil _ _ _ _ _ _ _ (hid_get HOPS 8 _ rfl) wanted_none rfl (fun _ _ _ _ h => h) ?_; simp only [Act.put, List.setIfInBounds_toArray, List.set_cons_zero, List.set_cons_succ])
    (refine segH_pure _ _ _ _ _ _ (hid_get HOPS 9 _ rfl) rfl wanted_none (fun _ _ _ _ h => h) ?_; intro K hK; go_big_quiet_op; go_big_quiet_on)
    (refine segH_pure _ _ _ _ _ _ (hid_get HOPS 10 _ rfl) rfl wanted_none (fun _ _ _ _ h => h) ?_; intro K hK; go_big_quiet_op; go_big_quiet_on)
    refine segH_turns _ _ _ _ _ _ (hid_get HOPS 11 _ rfl) wanted_none (fun K hK => ?_)
    go_big_op
    refine hK _ _ (fun _ => True) trivial ?_
    clear hK
    refine seg_done ?_
    clear HOPS
    obtain ⟨p1, p2⟩ := HP.out.putOver ha
    have xd2 : Ext (w2.setCell ⟨m2.ga, 8 + a, none⟩ (.int .i64 (s.over a + 1))) (w2.setCell ⟨m2.ga, 8 + a, none⟩ (.int .i64 (s.over a + 1))).drew := ext_drewN _ 1
    replace p1 := p1.ext xd2
    have hg3 := (HG.out.trans p2).ext hB xd2
    clear y0 y1 fzd q1 hwr
    have HF : Hid (∃ m', IntAt (w2.setCell ⟨m2.ga, 8 + a, none⟩ (.int .i64 (s.over a + 1))).drew B A c rs lev m' (comesSt s x.it) ∧ IntGo B w m (w2.setCell ⟨m2.ga, 8 + a, none⟩ (.int .i64 (s.over a + 1))).drew m') := by
      rw [HST.out, if_pos HS.out]
      exact ⟨_, p1, hg3⟩
    clear p1 p2 hg3
    go_wp2
    (try simp only [Exit.inBlock, Exit.then])
    refine bodyPost_ret (results_none rfl _ _ _) rfl ?_
    exact ⟨rfl, HF.out⟩
end
end Go.Proofs.Ytdknkbpgkkakhaa
