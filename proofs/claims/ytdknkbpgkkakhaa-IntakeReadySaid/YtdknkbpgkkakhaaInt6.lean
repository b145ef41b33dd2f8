/- Layer 20: lets. -/
import Derived.Test.YtdknkbpgkkakhaaInt5
namespace Go.Proofs.Ytdknkbpgkkakhaa
open Go.RowKit Go.Maps
open Go.ChangeMaps (setBlock)

section
variable {P : Program} {ops : Array Oper} {Q : Exit → Act → World → Prop} {S : World → Prop} {i : Nat} {p : Plan} {a : Act} {w : World}
theorem segH_lookup (dst : Option Tmp) (t : TypeId) (x k : Operand) (ok : Bool) (ty : TypeId) (pos : String) (after : Array Edge) (guard : Option (Nat × Bool)) (mv kvv v : Value) (ho : ops[i]? = some ⟨dst, .lookup t x k ok, ty, pos, after, guard⟩) (hw : Region.wanted ⟨dst, .lookup t x k ok, ty, pos, after, guard⟩ (yielded ops a.tmps) = true)
    (hx : a.eval x = mv) (hk : a.eval k = kvv) (hQ : ∀ v c a w, Q (.panic c) (a.put dst v) w → Q (.panic c) a w)
    (hr : ∀ y, S y → (Instr.lookup t mv kvv ok).run P y = .ok v y) (h : wpSeg P ops Q p S (a.put dst v) w) : wpSeg P ops Q (.reads i p) S a w := by
  refine ⟨_, v, ho, .inl ⟨hw, fun y hy => ?_⟩, hQ v, h⟩
  have := hr y hy
  simp only [execOp, hx, hk, Sem.run_bind, this, Result.andThen_ok, Sem.run_pure]
end

/-- Five cells of one block written anew. -/
theorem blk_set5 {w : World} {g : Nat} {t : TypeId} {u0 u1 u2 u3 u4 : Value} (h : Blk w g t #[u0, u1, u2, u3, u4]) (v0 v1 v2 v3 v4 : Value) :
    Blk (((((w.setCell ⟨g, 0, none⟩ v0).setCell ⟨g, 1, none⟩ v1).setCell ⟨g, 2, none⟩ v2).setCell ⟨g, 3, none⟩ v3).setCell ⟨g, 4, none⟩ v4) g t #[v0, v1, v2, v3, v4] := by
  have := ((((h.set_ 0 v0).set_ 1 v1).set_ 2 v2).set_ 3 v3).set_ 4 v4
  simpa using this
theorem mods_set5 (w : World) (g : Nat) (v0 v1 v2 v3 v4 : Value) :
    Mods (fun k => k = g) w (((((w.setCell ⟨g, 0, none⟩ v0).setCell ⟨g, 1, none⟩ v1).setCell ⟨g, 2, none⟩ v2).setCell ⟨g, 3, none⟩ v3).setCell ⟨g, 4, none⟩ v4) :=
  ((((mods_setCell w ⟨g, 0, none⟩ v0).trans (mods_setCell _ ⟨g, 1, none⟩ v1) (fun _ _ h => h)).trans (mods_setCell _ ⟨g, 2, none⟩ v2) (fun _ _ h => h)).trans (mods_setCell _ ⟨g, 3, none⟩ v3) (fun _ _ h => h)).trans (mods_setCell _ ⟨g, 4, none⟩ v4) (fun _ _ h => h)
section
variable {w w' : World} {B : Nat} {A : Option Addr} {c : Nat} {rs : List Rw} {lev : Int} {m : IntMem} {s : IntSt}
/-- A block beside the intake is turned. -/
theorem IntAt.beside (h : IntAt w B A c rs lev m s) {g : Nat} {cs : Array Value} (hb : Blk w g 33 cs) (hB : B ≤ g) (hg : ¬ IntOwn m g) (k : Mods (fun i => i = g) w w') : IntAt w' B A c rs lev m s := by
  refine h.mods k (fun i e => by subst e; exact hg) (T := [33]) (Keeps.of_mods k fun i hi => ?_) (by decide) (by decide) (by decide)
  subst hi
  refine ⟨hB, fun cs' t fr hk => ?_⟩
  unfold Blk at hb
  rw [hb] at hk
  injection hk with hk
  injection hk with _ hk
  simp [← hk]
theorem IntGo.beside {w1 w2 : World} {m1 : IntMem} (h : IntGo B w m w1 m1) (hB : B ≤ w.heap.size) {g : Nat} (hg : w.heap.size ≤ g) (k : Mods (fun i => i = g) w1 w2) : IntGo B w m w2 m1 :=
  ⟨h.below.trans (k.below (Nat.le_trans hB h.below.size) (fun i e => by subst e; omega)), h.mods.trans k (fun i hi e => by subst e; omega), h.sub, h.ga⟩
def letsSt (s : IntSt) (k : Int × Int) : IntSt := { s with held := fun y => if y = k then none else s.held y, cnt := if (s.held k).isSome = true then s.cnt - 1 else s.cnt }
/-- What lets answers: the item's cells and whether there was one. -/
def LetsPost (w : World) (B : Nat) (A : Option Addr) (c : Nat) (rs : List Rw) (lev : Int) (m : IntMem) (s : IntSt) (k : Int × Int) (e : Ending) (w' : World) : Prop :=
  ((s.held k = none ∧ e = .returned (.tuple #[.agg #[.int .i64 0, .int .i64 0, .int .i64 0, .bool false, .slice none 0 0], .bool false])) ∨
    ∃ y : Iv, s.held k = some y.it ∧ e = .returned (.tuple #[.agg y.cells.toArray, .bool true]) ∧ IvOk w' B y) ∧
  ∃ m', IntAt w' B A c rs lev m' (letsSt s k) ∧ IntGo B w m w' m'
set_option maxRecDepth 100000 in
set_option maxHeartbeats 4000000 in
theorem intLets_any (h : IntAt w B A c rs lev m s) {a b : Int} (h1 : wf64 a) (h2 : wf64 b) :
    Calls Try.prog 113 #[.pointer (some ⟨m.ga, 0, none⟩), .agg #[.int .i64 a, .int .i64 b]] w (LetsPost w B A c rs lev m s (a, b)) := by
  have hB := h.base_le
  obtain ⟨W, hW⟩ : ∃ W, W = (w.alloc (.cells #[.int .i64 a, .int .i64 b] 143)).alloc (.cells #[.int .i64 0, .int .i64 0, .int .i64 0, .bool false, .slice none 0 0] 33) := ⟨_, rfl⟩
  have x0 : Ext w W := by rw [hW]; exact ext_trans (ext_alloc _ _) (ext_alloc _ _)
  have b0 : Blk W w.heap.size 143 #[.int .i64 a, .int .i64 b] := by rw [hW]; exact (Blk.new _ _ _).ext (ext_alloc _ _)
  have b1 : Blk W (w.heap.size + 1) 33 #[.int .i64 0, .int .i64 0, .int .i64 0, .bool false, .slice none 0 0] := by
    rw [hW]
    have := Blk.new (w.alloc (.cells #[.int .i64 a, .int .i64 b] 143)) 33 #[.int .i64 0, .int .i64 0, .int .i64 0, .bool false, .slice none 0 0]
    simpa using this
  have HI0 := h
  have HI := h.ext x0
  have hgo : IntGo B w m W m := .of_ext x0 hB m
  have HW := Lib.hid hW
  clear hW h x0
  go_enter Try.func113, Try.ntmps113
  go_upto_region 1 with fail
  rw [← HW.out]
  clear HW
  obtain ⟨gx, hgx⟩ : ∃ gx, gx = w.heap.size := ⟨_, rfl⟩
  rw [← hgx] at b0 b1 ⊢
  have hgw : w.heap.size ≤ gx := Nat.le_of_eq hgx.symm
  have hown : ¬ IntOwn m (gx + 1) := fun e => by have := (HI0.own_lt e).2; omega
  clear hgx
  have r0 := b0.cell 0
  have r1 := b0.cell 1
  have r2 := HI.blk.cell 14
  rw [HI.mapc] at r2
  simp only [List.getElem?_toArray, List.getElem?_cons_zero, List.getElem?_cons_succ] at r0 r1
  have y0 := fun x' (hx : Ext W x') => ext_cell hx r0
  have y1 := fun x' (hx : Ext W x') => ext_cell hx r1
  have y2 := fun x' (hx : Ext W x') => ext_cell hx r2
  obtain ⟨l, hl⟩ := key143 (x := (a, b)) h1 h2
  have hlk1 : ∀ x', Ext W x' → (Instr.lookup 137 (.map (some m.mo)) (.agg #[.int .i64 a, .int .i64 b]) true).run Try.prog x' = .ok (.tuple #[(m.fh (a, b)).getD (.agg #[.int .i64 0, .int .i64 0, .int .i64 0, .bool false, .slice none 0 0]), .bool (m.fh (a, b)).isSome]) x' := fun x' hx => (HI.map.ext hx).look keyed143 ul137 (zero33i x') wayV_inj hl
  clear r0 r1 r2
  rcases HI.helds (a, b) with ⟨e1, e2⟩ | ⟨y, e1, e2, hy⟩
  · simp only [e1, Option.getD_none, Option.isSome_none] at hlk1
    have hlk2 := hlk1
    refine wp_region_planH3 (.reads 0 (.reads 1 (.reads 2 (.reads 3 (.reads 4 (.reads 5 (.reads 6 (.reads 7 (.reads 8 (.makes 9 (.makes 10 (.reads 11 (.done))))))))))))) (by kernel_rfl) (by kernel_rfl) (fun x' => Ext W x') (ext_drewN W 1) (fun ops HOPS => ?_)
    (refine segH_pure _ _ _ _ _ _ (hid_get HOPS 0 _ rfl) rfl wanted_none (fun _ _ _ _ h => h) ?_; intro K hK; go_big_quiet_op; go_big_quiet_on)
    (refine segH_nil _ _ _ _ _ _ _ (hid_get HOPS 1 _ rfl) wanted_none rfl (fun _ _ _ _ h => h) ?_; simp only [Act.put, List.setIfInBounds_toArray, List.set_cons_zero, List.set_cons_succ])
    (refine segH_pure _ _ _ _ _ _ (hid_get HOPS 2 _ rfl) rfl wanted_none (fun _ _ _ _ h => h) ?_; intro K hK; go_big_quiet_op; go_big_quiet_on)
    (refine segH_load _ _ _ _ _ _ _ _ _ (hid_get HOPS 3 _ rfl) wanted_none rfl (fun _ _ _ _ h => h) (fun y hy => by go_simp; try with_reducible rfl) ?_; simp only [Act.put, List.setIfInBounds_toArray, List.set_cons_zero, List.set_cons_succ])
    (refine segH_load _ _ _ _ _ _ _ _ _ (hid_get HOPS 4 _ rfl) wanted_none rfl (fun _ _ _ _ h => h) (fun y hy => by go_simp; try with_reducible rfl) ?_; simp only [Act.put, List.setIfInBounds_toArray, List.set_cons_zero, List.set_cons_succ])
    (refine segH_lookup _ _ _ _ _ _ _ _ _ _ _ _ (hid_get HOPS 5 _ rfl) wanted_none rfl rfl (fun _ _ _ _ h => h) (fun y hy => by first | exact hlk1 y hy | exact hlk2 y hy) ?_; simp only [Act.put, List.setIfInBounds_toArray, List.set_cons_zero, List.set_cons_succ])
    (refine segH_pure _ _ _ _ _ _ (hid_get HOPS 6 _ rfl) rfl wanted_none (fun _ _ _ _ h => h) ?_; intro K hK; go_big_quiet_op; go_big_quiet_on)
    (refine segH_pure _ _ _ _ _ _ (hid_get HOPS 7 _ rfl) rfl wanted_none (fun _ _ _ _ h => h) ?_; intro K hK; go_big_quiet_op; go_big_quiet_on)
    (refine segH_pure _ _ _ _ _ _ (hid_get HOPS 8 _ rfl) rfl wanted_none (fun _ _ _ _ h => h) ?_; intro K hK; go_big_quiet_op; go_big_quiet_on)
    refine segH_makes _ _ _ _ _ _ (hid_get HOPS 9 _ rfl) wanted_none (fun K hK => ?_)
    go_big_op
    have xd : Ext W (W.alloc (.cells #[.int .i64 0, .int .i64 0, .int .i64 0, .bool false, .slice none 0 0] 33)).drew := ext_trans (ext_alloc _ _) (ext_drewN _ 1)
    have b2 := Blk.new W 33 #[.int .i64 0, .int .i64 0, .int .i64 0, .bool false, .slice none 0 0]
    have q0 := b2.cell 0
    have q1 := b2.cell 1
    have q2 := b2.cell 2
    have q3 := b2.cell 3
    have q4 := b2.cell 4
    have fz := b2.frozen
    simp only [List.getElem?_toArray, List.getElem?_cons_zero, List.getElem?_cons_succ] at q0 q1 q2 q3 q4
    refine hK _ _ (fun x' => Ext W x') xd (fun _ h => h) ?_
    clear hK
    refine segH_makes _ _ _ _ _ _ (hid_get HOPS 10 _ rfl) wanted_none (fun K hK => ?_)
    go_big_op
    first
      | refine hK _ _ (fun x' => Ext W x') xd (fun _ h => h) ?_
      | refine hK _ _ (fun _ => True) trivial ?_
    clear hK
    (refine segH_pure _ _ _ _ _ _ (hid_get HOPS 11 _ rfl) rfl wanted_none (fun _ _ _ _ h => h) ?_; intro K hK; go_big_quiet_op; go_big_quiet_on)
    refine seg_done ?_
    clear HOPS
    clear y0 y1 y2 hlk1 hlk2
    have P2 := HI.ext xd
    have G2 := hgo.ext hB xd
    have d0 := b0.ext xd
    have d1 := b1.ext xd
    have d2 : Blk (W.alloc (.cells #[.int .i64 0, .int .i64 0, .int .i64 0, .bool false, .slice none 0 0] 33)).drew W.heap.size 33 #[.int .i64 0, .int .i64 0, .int .i64 0, .bool false, .slice none 0 0] := b2.ext (ext_drewN _ 1)
    generalize (W.alloc (.cells #[.int .i64 0, .int .i64 0, .int .i64 0, .bool false, .slice none 0 0] 33)).drew = W2 at P2 G2 d0 d1 d2 xd ⊢
    clear q0 q1 q2 q3 q4 fz b0 b1 b2
    have r0 := d0.cell 0
    have r1 := d0.cell 1
    have r2 := P2.blk.cell 14
    rw [P2.mapc] at r2
    simp only [List.getElem?_toArray, List.getElem?_cons_zero, List.getElem?_cons_succ] at r0 r1
    have yb : ∀ x', Mods (fun k => k = m.mo) W2 x' → ∀ i, x'.cell? ⟨gx, i, none⟩ = W2.cell? ⟨gx, i, none⟩ := fun x' hx i => by rw [(d0.mods hx (P2.map.not_blk d0)).cell, d0.cell]
    have yg : ∀ x', Mods (fun k => k = m.mo) W2 x' → ∀ i, x'.cell? ⟨m.ga, i, none⟩ = W2.cell? ⟨m.ga, i, none⟩ := fun x' hx i => by rw [(P2.blk.mods hx P2.ga_mo).cell, P2.blk.cell]
    have y0 := fun x' hx => (yb x' hx 0).trans r0
    have y1 := fun x' hx => (yb x' hx 1).trans r1
    have y2 := fun x' hx => (yg x' hx 14).trans r2
    clear r0 r1 r2 yb yg
    go_upto_region 4 with fail
    obtain ⟨o, hdel, hmN⟩ := (P2.map.ext (ext_drewN W2 1)).delete (ty := 0) keyed143 ul137 wayV_inj hl
    have hdel' : (Builtin.delete_ #[137, 143] 0 #[.map (some m.mo), .agg #[.int .i64 a, .int .i64 b]]).run Try.prog W2.drew = .ok (.tuple #[]) (setBlock W2.drew m.mo o) := hdel
    clear hdel
    refine wp_region_planH3 (.reads 0 (.reads 1 (.reads 2 (.reads 3 (.reads 4 (.makes 5 (.done))))))) (by kernel_rfl) (by kernel_rfl) (fun x' => Mods (fun k => k = m.mo) W2 x') (Mods.of_below (ext_drewN W2 1) _) (fun ops HOPS => ?_)
    (refine segH_pure _ _ _ _ _ _ (hid_get HOPS 0 _ rfl) rfl wanted_none (fun _ _ _ _ h => h) ?_; intro K hK; go_big_quiet_op; go_big_quiet_on)
    (refine segH_nil _ _ _ _ _ _ _ (hid_get HOPS 1 _ rfl) wanted_none rfl (fun _ _ _ _ h => h) ?_; simp only [Act.put, List.setIfInBounds_toArray, List.set_cons_zero, List.set_cons_succ])
    (refine segH_pure _ _ _ _ _ _ (hid_get HOPS 2 _ rfl) rfl wanted_none (fun _ _ _ _ h => h) ?_; intro K hK; go_big_quiet_op; go_big_quiet_on)
    (refine segH_load _ _ _ _ _ _ _ _ _ (hid_get HOPS 3 _ rfl) wanted_none rfl (fun _ _ _ _ h => h) (fun y hy => by go_simp; try with_reducible rfl) ?_; simp only [Act.put, List.setIfInBounds_toArray, List.set_cons_zero, List.set_cons_succ])
    (refine segH_load _ _ _ _ _ _ _ _ _ (hid_get HOPS 4 _ rfl) wanted_none rfl (fun _ _ _ _ h => h) (fun y hy => by go_simp; try with_reducible rfl) ?_; simp only [Act.put, List.setIfInBounds_toArray, List.set_cons_zero, List.set_cons_succ])
    refine segH_makes _ _ _ _ _ _ (hid_get HOPS 5 _ rfl) wanted_none (fun K hK => ?_)
    go_big_op
    have MS : Mods (fun k => k = m.mo) W2 (setBlock W2.drew m.mo o) := (Mods.of_below (ext_drewN W2 1) _).trans (mods_setBlock _ _ _) (fun _ _ e => e)
    refine hK _ _ (fun x' => Mods (fun k => k = m.mo) W2 x') MS (fun _ h => h) ?_
    clear hK
    refine seg_done ?_
    clear HOPS
    have hk4 : Keeps B [] W2 (setBlock W2.drew m.mo o) := keeps_held P2 (MS.mono fun _ e => .inl e) []
    rw [e1] at hmN
    simp only [Option.isSome_none, Bool.false_eq_true, if_false] at hmN
    obtain ⟨p1, p2⟩ := P2.turn (MS.mono fun _ e => .inl e) hmN ((P2.chan.mods MS (fun e => P2.apart e.symm))) P2.few { s with held := fun y => if y = (a, b) then none else s.held y } ⟨rfl, rfl, rfl, rfl, rfl⟩ (fun z => by
      by_cases hz : z = (a, b)
      · exact .inl ⟨if_pos hz, if_pos hz⟩
      · have q1 : (if z = (a, b) then none else m.fh z) = m.fh z := if_neg hz
        have q2 : (if z = (a, b) then none else s.held z) = s.held z := if_neg hz
        show HeldOk _ _ (if z = (a, b) then none else m.fh z) (if z = (a, b) then none else s.held z)
        rw [q1, q2]
        exact (P2.helds z).keeps hk4 (by simp))
    have g2 := d2.mods MS (P2.map.not_blk d2)
    have g1 := d1.mods MS (P2.map.not_blk d1)
    have G3 := Lib.hid (G2.trans p2)
    have hng : ¬ IntOwn { m with fh := fun y => if y = (a, b) then none else m.fh y } (gx + 1) := hown
    have P3 := Lib.hid p1
    clear p1 p2 hmN MS hk4 hdel' d0 d1 d2 y0 y1 y2
    generalize setBlock W2.drew m.mo o = W3 at g1 g2 G3 P3 ⊢
    have q0 := g2.cell 0
    have q1 := g2.cell 1
    have q2 := g2.cell 2
    have q3 := g2.cell 3
    have q4 := g2.cell 4
    have t0 := g1.cell 0
    have t1 := g1.cell 1
    have t2 := g1.cell 2
    have t3 := g1.cell 3
    have t4 := g1.cell 4
    have fz := g1.frozen
    simp only [List.getElem?_toArray, List.getElem?_cons_zero, List.getElem?_cons_succ] at q0 q1 q2 q3 q4 t0 t1 t2 t3 t4
    go_wp2
    have km := mods_set5 W3 (gx + 1) (.int .i64 0) (.int .i64 0) (.int .i64 0) (.bool false) (.slice none 0 0)
    have gb := blk_set5 g1 (.int .i64 0) (.int .i64 0) (.int .i64 0) (.bool false) (.slice none 0 0)
    have HF : Hid (∃ m', IntAt (((((W3.setCell ⟨gx + 1, 0, none⟩ (.int .i64 0)).setCell ⟨gx + 1, 1, none⟩ (.int .i64 0)).setCell ⟨gx + 1, 2, none⟩ (.int .i64 0)).setCell ⟨gx + 1, 3, none⟩ (.bool false)).setCell ⟨gx + 1, 4, none⟩ (.slice none 0 0)) B A c rs lev m' (letsSt s (a, b)) ∧ IntGo B w m (((((W3.setCell ⟨gx + 1, 0, none⟩ (.int .i64 0)).setCell ⟨gx + 1, 1, none⟩ (.int .i64 0)).setCell ⟨gx + 1, 2, none⟩ (.int .i64 0)).setCell ⟨gx + 1, 3, none⟩ (.bool false)).setCell ⟨gx + 1, 4, none⟩ (.slice none 0 0)) m') := by
      refine ⟨_, ?_, G3.out.beside hB (by omega) km⟩
      have e : letsSt s (a, b) = { s with held := fun y => if y = (a, b) then none else s.held y } := by
        unfold letsSt
        rw [e2]; rfl
      rw [e]
      exact P3.out.beside g1 (by omega) hng km
    generalize (((((W3.setCell ⟨gx + 1, 0, none⟩ (.int .i64 0)).setCell ⟨gx + 1, 1, none⟩ (.int .i64 0)).setCell ⟨gx + 1, 2, none⟩ (.int .i64 0)).setCell ⟨gx + 1, 3, none⟩ (.bool false)).setCell ⟨gx + 1, 4, none⟩ (.slice none 0 0)) = W4 at gb HF ⊢
    clear q0 q1 q2 q3 q4 t0 t1 t2 t3 t4 fz km
    have q0 := gb.cell 0
    have q1 := gb.cell 1
    have q2 := gb.cell 2
    have q3 := gb.cell 3
    have q4 := gb.cell 4
    simp only [List.getElem?_toArray, List.getElem?_cons_zero, List.getElem?_cons_succ] at q0 q1 q2 q3 q4
    refine bodyPost_ret (v := .tuple #[.agg #[.int .i64 0, .int .i64 0, .int .i64 0, .bool false, .slice none 0 0], .bool false]) ?_ rfl ⟨.inl ⟨e2, rfl⟩, HF.out⟩
    clear HF
    simp [results, Try.results113, go_sem, Addr.add, q0, q1, q2, q3, q4, Result.andThen]
  · simp only [e1, Option.getD_some, Option.isSome_some] at hlk1
    have hy2 := hy
    obtain ⟨Y, Ya, Yc⟩ := y
    have hlk2 : ∀ x', Ext W x' → (Instr.lookup 137 (.map (some m.mo)) (.agg #[.int .i64 a, .int .i64 b]) true).run Try.prog x' = .ok (.tuple #[.agg #[.int .i64 Y.level, .int .i64 Y.n, .int .i64 Y.turn, .bool Y.shut, .slice Ya Y.ws.length Yc], .bool true]) x' := hlk1
    clear hlk1
    have hlk1 := hlk2
    refine wp_region_planH3 (.reads 0 (.reads 1 (.reads 2 (.reads 3 (.reads 4 (.reads 5 (.reads 6 (.reads 7 (.reads 8 (.makes 9 (.makes 10 (.reads 11 (.done))))))))))))) (by kernel_rfl) (by kernel_rfl) (fun x' => Ext W x') (ext_drewN W 1) (fun ops HOPS => ?_)
    (refine segH_pure _ _ _ _ _ _ (hid_get HOPS 0 _ rfl) rfl wanted_none (fun _ _ _ _ h => h) ?_; intro K hK; go_big_quiet_op; go_big_quiet_on)
    (refine segH_nil _ _ _ _ _ _ _ (hid_get HOPS 1 _ rfl) wanted_none rfl (fun _ _ _ _ h => h) ?_; simp only [Act.put, List.setIfInBounds_toArray, List.set_cons_zero, List.set_cons_succ])
    (refine segH_pure _ _ _ _ _ _ (hid_get HOPS 2 _ rfl) rfl wanted_none (fun _ _ _ _ h => h) ?_; intro K hK; go_big_quiet_op; go_big_quiet_on)
    (refine segH_load _ _ _ _ _ _ _ _ _ (hid_get HOPS 3 _ rfl) wanted_none rfl (fun _ _ _ _ h => h) (fun y hy => by go_simp; try with_reducible rfl) ?_; simp only [Act.put, List.setIfInBounds_toArray, List.set_cons_zero, List.set_cons_succ])
    (refine segH_load _ _ _ _ _ _ _ _ _ (hid_get HOPS 4 _ rfl) wanted_none rfl (fun _ _ _ _ h => h) (fun y hy => by go_simp; try with_reducible rfl) ?_; simp only [Act.put, List.setIfInBounds_toArray, List.set_cons_zero, List.set_cons_succ])
    (refine segH_lookup _ _ _ _ _ _ _ _ _ _ _ _ (hid_get HOPS 5 _ rfl) wanted_none rfl rfl (fun _ _ _ _ h => h) (fun y hy => by first | exact hlk1 y hy | exact hlk2 y hy) ?_; simp only [Act.put, List.setIfInBounds_toArray, List.set_cons_zero, List.set_cons_succ])
    (refine segH_pure _ _ _ _ _ _ (hid_get HOPS 6 _ rfl) rfl wanted_none (fun _ _ _ _ h => h) ?_; intro K hK; go_big_quiet_op; go_big_quiet_on)
    (refine segH_pure _ _ _ _ _ _ (hid_get HOPS 7 _ rfl) rfl wanted_none (fun _ _ _ _ h => h) ?_; intro K hK; go_big_quiet_op; go_big_quiet_on)
    (refine segH_pure _ _ _ _ _ _ (hid_get HOPS 8 _ rfl) rfl wanted_none (fun _ _ _ _ h => h) ?_; intro K hK; go_big_quiet_op; go_big_quiet_on)
    refine segH_makes _ _ _ _ _ _ (hid_get HOPS 9 _ rfl) wanted_none (fun K hK => ?_)
    go_big_op
    have xd : Ext W (W.alloc (.cells #[.int .i64 0, .int .i64 0, .int .i64 0, .bool false, .slice none 0 0] 33)).drew := ext_trans (ext_alloc _ _) (ext_drewN _ 1)
    have b2 := Blk.new W 33 #[.int .i64 0, .int .i64 0, .int .i64 0, .bool false, .slice none 0 0]
    have q0 := b2.cell 0
    have q1 := b2.cell 1
    have q2 := b2.cell 2
    have q3 := b2.cell 3
    have q4 := b2.cell 4
    have fz := b2.frozen
    simp only [List.getElem?_toArray, List.getElem?_cons_zero, List.getElem?_cons_succ] at q0 q1 q2 q3 q4
    refine hK _ _ (fun x' => Ext W x') xd (fun _ h => h) ?_
    clear hK
    refine segH_makes _ _ _ _ _ _ (hid_get HOPS 10 _ rfl) wanted_none (fun K hK => ?_)
    go_big_op
    have xe : Ext W (W.alloc (.cells #[.int .i64 Y.level, .int .i64 Y.n, .int .i64 Y.turn, .bool Y.shut, .slice Ya Y.ws.length Yc] 33)).drew := ext_trans (ext_alloc _ _) (ext_drewN _ 1)
    refine hK _ _ (fun x' => Ext W x') xe (fun _ h => h) ?_
    clear hK q0 q1 q2 q3 q4 fz b2 xd
    (refine segH_pure _ _ _ _ _ _ (hid_get HOPS 11 _ rfl) rfl wanted_none (fun _ _ _ _ h => h) ?_; intro K hK; go_big_quiet_op; go_big_quiet_on)
    refine seg_done ?_
    clear HOPS
    clear y0 y1 y2 hlk1 hlk2
    have P2 := HI.ext xe
    have G2 := hgo.ext hB xe
    have d0 := b0.ext xe
    have d1 := b1.ext xe
    have d2 : Blk (W.alloc (.cells #[.int .i64 Y.level, .int .i64 Y.n, .int .i64 Y.turn, .bool Y.shut, .slice Ya Y.ws.length Yc] 33)).drew W.heap.size 33 #[.int .i64 Y.level, .int .i64 Y.n, .int .i64 Y.turn, .bool Y.shut, .slice Ya Y.ws.length Yc] := (Blk.new W 33 #[.int .i64 Y.level, .int .i64 Y.n, .int .i64 Y.turn, .bool Y.shut, .slice Ya Y.ws.length Yc]).ext (ext_drewN _ 1)
    have hY := hy.ext xe
    have hpos : 0 < s.cnt := by
      rcases Nat.eq_zero_or_pos s.cnt with h0 | h0
      · obtain ⟨es, clock, _, hn, hE⟩ := P2.map
        obtain ⟨e, he, _⟩ := hE.held _ _ e1
        rw [h0] at hn
        have := List.length_pos_of_mem he
        rw [Array.length_toList] at this
        omega
      · exact h0
    generalize (W.alloc (.cells #[.int .i64 Y.level, .int .i64 Y.n, .int .i64 Y.turn, .bool Y.shut, .slice Ya Y.ws.length Yc] 33)).drew = W2 at P2 G2 d0 d1 d2 xe hY ⊢
    clear b0 b1 hy hy2
    have c15 := P2.blk.cell 15
    rw [P2.chac] at c15
    go_upto_region 3 with fail
    obtain ⟨buf, s1, r1, hbuf, hsz⟩ := P2.chan
    refine sem_region ?_
    show SemOps _ _ _ [0, 1, 2, 3, 4] _ _
    refine sem_value (w' := W2) (.pointer (some ⟨m.ga, 0, none⟩)) rfl rfl (by kernel_rfl) ?_
    refine sem_value (w' := W2) (.pointer (some ⟨m.ga, 0, none⟩)) rfl rfl (by kernel_rfl) ?_
    refine sem_value (w' := W2) (.pointer (some ⟨m.ga, 15, none⟩)) rfl rfl (by kernel_rfl) ?_
    refine sem_value (w' := W2) (.chan (some m.pc)) rfl rfl ?_ ?_
    · simp only [Act.put, List.getElem_toArray, List.getElem_cons_zero, List.getElem_cons_succ, List.setIfInBounds_toArray, List.set_cons_zero, List.set_cons_succ]
      go_simp
    refine sem_recv (z := .agg #[.int .i64 0, .int .i64 0]) rfl rfl (by kernel_rfl) hbuf (by omega) ?_
    generalize buf.getD 0 undef = bz
    refine semOps_drop 5 ?_
    simp only [List.drop_succ_cons, List.drop_zero, Act.put, List.getElem_toArray, List.getElem_cons_zero, List.getElem_cons_succ, List.setIfInBounds_toArray, List.set_cons_zero, List.set_cons_succ]
    go_wp2_with fail
    obtain ⟨X, hX⟩ : ∃ X, X = W2.setChan m.pc 40 (buf.extract 1 s.cnt) false s1 (r1 + 1) false := ⟨_, rfl⟩
    have kX : Mods (fun k => k = m.pc) W2 X := by rw [hX]; exact mods_setChan _ _ _ _ _ _
    have hch : ChanIs X m.pc 40 (s.cnt - 1) := by
      have := chan_set W2 P2.chan.lt 40 (buf.extract 1 s.cnt) s1 (r1 + 1)
      rw [Array.size_extract, hsz, Nat.min_self] at this
      rw [hX]; exact this
    rw [← hX]
    have e0 := d0.mods kX (P2.chan.not_blk d0)
    have e3 := d1.mods kX (P2.chan.not_blk d1)
    have e4 := d2.mods kX (P2.chan.not_blk d2)
    have eg := P2.blk.mods kX P2.ga_pc
    have hmX := P2.map.mods kX P2.apart
    clear hX hbuf hsz c15
    have r0 := e0.cell 0
    have r1' := e0.cell 1
    have r2 := eg.cell 14
    rw [P2.mapc] at r2
    simp only [List.getElem?_toArray, List.getElem?_cons_zero, List.getElem?_cons_succ] at r0 r1'
    have yb : ∀ x', Mods (fun k => k = m.mo) X x' → ∀ i, x'.cell? ⟨gx, i, none⟩ = X.cell? ⟨gx, i, none⟩ := fun x' hx i => by rw [(e0.mods hx (P2.map.not_blk d0)).cell, e0.cell]
    have yg : ∀ x', Mods (fun k => k = m.mo) X x' → ∀ i, x'.cell? ⟨m.ga, i, none⟩ = X.cell? ⟨m.ga, i, none⟩ := fun x' hx i => by rw [(eg.mods hx P2.ga_mo).cell, eg.cell]
    have y0 := fun x' hx => (yb x' hx 0).trans r0
    have y1 := fun x' hx => (yb x' hx 1).trans r1'
    have y2 := fun x' hx => (yg x' hx 14).trans r2
    clear r0 r1' r2 yb yg
    obtain ⟨o, hdel, hmN⟩ := (hmX.ext (ext_drewN X 1)).delete (ty := 0) keyed143 ul137 wayV_inj hl
    have hdel' : (Builtin.delete_ #[137, 143] 0 #[.map (some m.mo), .agg #[.int .i64 a, .int .i64 b]]).run Try.prog X.drew = .ok (.tuple #[]) (setBlock X.drew m.mo o) := hdel
    clear hdel
    refine wp_region_planH3 (.reads 0 (.reads 1 (.reads 2 (.reads 3 (.reads 4 (.makes 5 (.done))))))) (by kernel_rfl) (by kernel_rfl) (fun x' => Mods (fun k => k = m.mo) X x') (Mods.of_below (ext_drewN X 1) _) (fun ops HOPS => ?_)
    (refine segH_pure _ _ _ _ _ _ (hid_get HOPS 0 _ rfl) rfl wanted_none (fun _ _ _ _ h => h) ?_; intro K hK; go_big_quiet_op; go_big_quiet_on)
    (refine segH_nil _ _ _ _ _ _ _ (hid_get HOPS 1 _ rfl) wanted_none rfl (fun _ _ _ _ h => h) ?_; simp only [Act.put, List.setIfInBounds_toArray, List.set_cons_zero, List.set_cons_succ])
    (refine segH_pure _ _ _ _ _ _ (hid_get HOPS 2 _ rfl) rfl wanted_none (fun _ _ _ _ h => h) ?_; intro K hK; go_big_quiet_op; go_big_quiet_on)
    (refine segH_load _ _ _ _ _ _ _ _ _ (hid_get HOPS 3 _ rfl) wanted_none rfl (fun _ _ _ _ h => h) (fun y hy => by go_simp; try with_reducible rfl) ?_; simp only [Act.put, List.setIfInBounds_toArray, List.set_cons_zero, List.set_cons_succ])
    (refine segH_load _ _ _ _ _ _ _ _ _ (hid_get HOPS 4 _ rfl) wanted_none rfl (fun _ _ _ _ h => h) (fun y hy => by go_simp; try with_reducible rfl) ?_; simp only [Act.put, List.setIfInBounds_toArray, List.set_cons_zero, List.set_cons_succ])
    refine segH_makes _ _ _ _ _ _ (hid_get HOPS 5 _ rfl) wanted_none (fun K hK => ?_)
    go_big_op
    have MS : Mods (fun k => k = m.mo) X (setBlock X.drew m.mo o) := (Mods.of_below (ext_drewN X 1) _).trans (mods_setBlock _ _ _) (fun _ _ e => e)
    refine hK _ _ (fun x' => Mods (fun k => k = m.mo) X x') MS (fun _ h => h) ?_
    clear hK
    refine seg_done ?_
    clear HOPS
    have MM : Mods (fun g => g = m.mo ∨ g = m.pc) W2 (setBlock X.drew m.mo o) := (kX.mono fun _ e => .inr e).trans MS (fun _ _ e => .inl e)
    have hk4 : Keeps B [] W2 (setBlock X.drew m.mo o) := keeps_held P2 MM []
    rw [e1] at hmN
    simp only [Option.isSome_some, if_true] at hmN
    obtain ⟨p1, p2⟩ := P2.turn MM hmN (hch.mods MS (fun e => P2.apart e.symm)) (by have := P2.few; omega) { s with held := fun y => if y = (a, b) then none else s.held y, cnt := s.cnt - 1 } ⟨rfl, rfl, rfl, rfl, rfl⟩ (fun z => by
      by_cases hz : z = (a, b)
      · exact .inl ⟨if_pos hz, if_pos hz⟩
      · have q1 : (if z = (a, b) then none else m.fh z) = m.fh z := if_neg hz
        have q2 : (if z = (a, b) then none else s.held z) = s.held z := if_neg hz
        show HeldOk _ _ (if z = (a, b) then none else m.fh z) (if z = (a, b) then none else s.held z)
        rw [q1, q2]
        exact (P2.helds z).keeps hk4 (by simp))
    have g2 := e4.mods MS (P2.map.not_blk d2)
    have g1 := e3.mods MS (P2.map.not_blk d1)
    have G3 := Lib.hid (G2.trans p2)
    have hng : ¬ IntOwn { m with fh := fun y => if y = (a, b) then none else m.fh y } (gx + 1) := hown
    have P3 := Lib.hid p1
    have hY3 := hY.keeps hk4 (by simp)
    clear p1 p2 hmN MS MM hk4 hdel' d0 d1 d2 y0 y1 y2 e0 e3 e4 eg hmX hch kX
    generalize setBlock X.drew m.mo o = W3 at g1 g2 G3 P3 hY3 ⊢
    have q0 := g2.cell 0
    have q1 := g2.cell 1
    have q2 := g2.cell 2
    have q3 := g2.cell 3
    have q4 := g2.cell 4
    have t0 := g1.cell 0
    have t1 := g1.cell 1
    have t2 := g1.cell 2
    have t3 := g1.cell 3
    have t4 := g1.cell 4
    have fz := g1.frozen
    simp only [List.getElem?_toArray, List.getElem?_cons_zero, List.getElem?_cons_succ] at q0 q1 q2 q3 q4 t0 t1 t2 t3 t4
    go_wp2
    have km := mods_set5 W3 (gx + 1) (.int .i64 Y.level) (.int .i64 Y.n) (.int .i64 Y.turn) (.bool Y.shut) (.slice Ya Y.ws.length Yc)
    have gb := blk_set5 g1 (.int .i64 Y.level) (.int .i64 Y.n) (.int .i64 Y.turn) (.bool Y.shut) (.slice Ya Y.ws.length Yc)
    have HF : Hid (IvOk (((((W3.setCell ⟨gx + 1, 0, none⟩ (.int .i64 Y.level)).setCell ⟨gx + 1, 1, none⟩ (.int .i64 Y.n)).setCell ⟨gx + 1, 2, none⟩ (.int .i64 Y.turn)).setCell ⟨gx + 1, 3, none⟩ (.bool Y.shut)).setCell ⟨gx + 1, 4, none⟩ (.slice Ya Y.ws.length Yc)) B ⟨Y, Ya, Yc⟩ ∧ ∃ m', IntAt (((((W3.setCell ⟨gx + 1, 0, none⟩ (.int .i64 Y.level)).setCell ⟨gx + 1, 1, none⟩ (.int .i64 Y.n)).setCell ⟨gx + 1, 2, none⟩ (.int .i64 Y.turn)).setCell ⟨gx + 1, 3, none⟩ (.bool Y.shut)).setCell ⟨gx + 1, 4, none⟩ (.slice Ya Y.ws.length Yc)) B A c rs lev m' (letsSt s (a, b)) ∧ IntGo B w m (((((W3.setCell ⟨gx + 1, 0, none⟩ (.int .i64 Y.level)).setCell ⟨gx + 1, 1, none⟩ (.int .i64 Y.n)).setCell ⟨gx + 1, 2, none⟩ (.int .i64 Y.turn)).setCell ⟨gx + 1, 3, none⟩ (.bool Y.shut)).setCell ⟨gx + 1, 4, none⟩ (.slice Ya Y.ws.length Yc)) m') := by
      refine ⟨hY3.keeps (Keeps.of_mods (T := [33]) km fun i hi => ?_) (by decide), _, ?_, G3.out.beside hB (by omega) km⟩
      · subst hi
        refine ⟨by omega, fun cs' t fr hk => ?_⟩
        unfold Blk at g1
        rw [g1] at hk
        injection hk with hk
        injection hk with _ hk
        simp [← hk]
      · have e : letsSt s (a, b) = { s with held := fun y => if y = (a, b) then none else s.held y, cnt := s.cnt - 1 } := by
          unfold letsSt
          rw [e2]; rfl
        rw [e]
        exact P3.out.beside g1 (by omega) hng km
    generalize (((((W3.setCell ⟨gx + 1, 0, none⟩ (.int .i64 Y.level)).setCell ⟨gx + 1, 1, none⟩ (.int .i64 Y.n)).setCell ⟨gx + 1, 2, none⟩ (.int .i64 Y.turn)).setCell ⟨gx + 1, 3, none⟩ (.bool Y.shut)).setCell ⟨gx + 1, 4, none⟩ (.slice Ya Y.ws.length Yc)) = W4 at gb HF ⊢
    clear q0 q1 q2 q3 q4 t0 t1 t2 t3 t4 fz km
    have q0 := gb.cell 0
    have q1 := gb.cell 1
    have q2 := gb.cell 2
    have q3 := gb.cell 3
    have q4 := gb.cell 4
    simp only [List.getElem?_toArray, List.getElem?_cons_zero, List.getElem?_cons_succ] at q0 q1 q2 q3 q4
    refine bodyPost_ret (v := .tuple #[.agg #[.int .i64 Y.level, .int .i64 Y.n, .int .i64 Y.turn, .bool Y.shut, .slice Ya Y.ws.length Yc], .bool true]) ?_ rfl ⟨.inr ⟨⟨Y, Ya, Yc⟩, e2, rfl, HF.out.1⟩, HF.out.2⟩
    clear HF
    simp [results, Try.results113, go_sem, Addr.add, q0, q1, q2, q3, q4, Result.andThen]
end
end Go.Proofs.Ytdknkbpgkkakhaa
