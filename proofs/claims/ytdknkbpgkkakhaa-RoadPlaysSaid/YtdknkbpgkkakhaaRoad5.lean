/- Layer 22: Offer. -/
import Derived.Test.YtdknkbpgkkakhaaRoad6
namespace Go.Proofs.Ytdknkbpgkkakhaa
open Go.RowKit
open Go.ChangeMaps (setBlock)

section
variable {P : Program} {ops : Array Oper} {Q : Exit → Act → World → Prop} {S : World → Prop} {i : Nat} {p : Plan} {a : Act} {w : World}
theorem segH_lookup (dst : Option Tmp) (t : TypeId) (x k : Operand) (ok : Bool) (ty : TypeId) (pos : String) (after : Array Edge) (guard : Option (Nat × Bool)) (mv kvv v : Value) (ho : ops[i]? = some ⟨dst, .lookup t x k ok, ty, pos, after, guard⟩) (hw : Region.wanted ⟨dst, .lookup t x k ok, ty, pos, after, guard⟩ (yielded ops a.tmps) = true)
    (hx : a.eval x = mv) (hk : a.eval k = kvv) (hQ : ∀ v c a w, Q (.panic c) (a.put dst v) w → Q (.panic c) a w)
    (hr : ∀ y, S y → (Instr.lookup t mv kvv ok).run P y = .ok v y) (h : wpSeg P ops Q p S (a.put dst v) w) : wpSeg P ops Q (.reads i p) S a w := by
  refine ⟨_, v, ho, .inl ⟨hw, fun y hy => ?_⟩, hQ v, h⟩
  have := hr y hy
  simp only [execOp, hx, hk, Sem.run_bind, this, Result.andThen_ok, Sem.run_pure]
end

theorem flat_drop {α : Type} {f : α → List Value} {s : Nat} (h : ∀ x, (f x).length = s) : ∀ (k : Nat) (xs : List α), flat f (xs.drop k) = (flat f xs).drop (k * s)
  | 0, xs => by simp
  | k + 1, [] => by simp [flat]
  | k + 1, x :: xs => by
    have h2 : (f x ++ flat f xs).drop s = flat f xs := by rw [← h x]; exact List.drop_left
    rw [List.drop_succ_cons, flat_drop h k xs, flat_cons, Nat.add_mul, Nat.one_mul, Nat.add_comm (k * s) s, ← List.drop_drop, h2]

section
variable {α : Type} (E : Elem α) {o : Oper} {a : Act} {K : Act → World → Prop} {Q : Exit → Act → World → Prop} {w : World}
theorem wp_append_off (s x : Operand) (ho : o.op = .call { callee := .builtin .append, args := #[s, x], argTypes := #[E.t, E.t] })
    (base : Nat) (v : Value) (xs : List α) (hs : a.eval s = v) (h0 : Off E w base v xs) (ad : Addr) (c : Nat) (ys : List α) (hx : a.eval x = .slice (some ad) ys.length c) (B : Nat) (hr : RowsAt w B E.e E.size E.f (some ad) ys) (hne : ys ≠ [])
    (hlen : (xs.length + ys.length) * E.bytes ≤ 140737488355328) (hl2 : xs.length + ys.length ≤ maxLen) (hbase : base ≤ w.heap.size)
    (h : ∀ v' w', Off E w' base v' (xs ++ ys) → w.grownBy w' v.ownBlock → (v'.ownBlock = v.ownBlock ∨ v'.ownBlock = some w.heap.size) → K (a.put o.dst v') w') :
    o.wp Try.prog a w K Q := by
  obtain ⟨v', w', hrun, h2, h3, h4⟩ := run_append_off (E := E) o.type h0 ad c ys B hr hne hlen hl2 hbase
  unfold Oper.wp execOp
  simp only [ho, resolve, invoke, builtin, Sem.run_bind, Sem.run_pure, Result.andThen_ok, List.map_toArray, List.map_cons, List.map_nil, hs, hx, hrun]
  exact h v' w' h2 h3 h4
end

section
variable {w w' : World} {B : Nat} {A : Option Addr} {c : Nat} {rs : List Rw} {m : RoadMem} {s : RoadSt}
def last40 (xs : List It) : List It := xs.drop (xs.length - 40)
def offerN (m : Mat) (s : RoadSt) (x : It) (dd : Int) : Nat := if x.is = true then (if labove m dd x.level = true then (if x.n - 1 = s.off (x.level, dd) then 0 else 23) else 20) else 10
def offerSt (m : Mat) (s : RoadSt) (x : It) (dd : Int) : RoadSt :=
  if offerN m s x dd = 0 then ⟨fun y => if y = (x.level, dd) then x.n else s.off y, fun t => if t = dd then last40 (s.und dd ++ [x]) else s.und t, s.log ++ [(dd, x)]⟩ else s

set_option maxRecDepth 100000 in
set_option maxHeartbeats 8000000 in
theorem roadOffer_any (h : RoadAt w B A c rs m s) (x : Iv) (hx : IvOk w B x) {dd : Int} (ht : wf64 dd) (hl : rs.length ≤ 9223372036854775807) (hlog : s.log.length < 1000000) :
    Calls Try.prog 62 #[.pointer (some ⟨m.ra, 0, none⟩), .agg #[.int .i64 x.it.level, .int .i64 x.it.n, .int .i64 x.it.turn, .bool x.it.shut, .slice x.A x.it.ws.length x.c], .int .i64 dd] w
      fun e w' => e = .returned (.int .i64 (offerN (mat rs) s x.it dd : Int)) ∧ ∃ m', m'.ra = m.ra ∧ RoadAt w' B A c rs m' (offerSt (mat rs) s x.it dd) ∧ RoadGo B w m w' m' := by
  have b0 : Blk (w.alloc (.cells #[.int .i64 x.it.level, .int .i64 x.it.n, .int .i64 x.it.turn, .bool x.it.shut, .slice x.A x.it.ws.length x.c] 33)) w.heap.size 33 #[.int .i64 x.it.level, .int .i64 x.it.n, .int .i64 x.it.turn, .bool x.it.shut, .slice x.A x.it.ws.length x.c] := Blk.new _ _ _
  have x0 := ext_alloc w (.cells #[.int .i64 x.it.level, .int .i64 x.it.n, .int .i64 x.it.turn, .bool x.it.shut, .slice x.A x.it.ws.length x.c] 33)
  have b1 := Blk.new (w.alloc (.cells #[.int .i64 x.it.level, .int .i64 x.it.n, .int .i64 x.it.turn, .bool x.it.shut, .slice x.A x.it.ws.length x.c] 33)) 135 #[.int .i64 x.it.level, .int .i64 dd]
  have x1 := ext_alloc (w.alloc (.cells #[.int .i64 x.it.level, .int .i64 x.it.n, .int .i64 x.it.turn, .bool x.it.shut, .slice x.A x.it.ws.length x.c] 33)) (.cells #[.int .i64 x.it.level, .int .i64 dd] 135)
  have b2 := b0.ext x1
  have x2 := ext_trans x0 x1
  clear b0 x0 x1
  obtain ⟨W0, hW0⟩ : ∃ W0 : World, W0 = (w.alloc (.cells #[.int .i64 x.it.level, .int .i64 x.it.n, .int .i64 x.it.turn, .bool x.it.shut, .slice x.A x.it.ws.length x.c] 33)).alloc (.cells #[.int .i64 x.it.level, .int .i64 dd] 135) := ⟨_, rfl⟩
  rw [← hW0] at b1 b2 x2
  have hs1 : (w.alloc (.cells #[.int .i64 x.it.level, .int .i64 x.it.n, .int .i64 x.it.turn, .bool x.it.shut, .slice x.A x.it.ws.length x.c] 33)).heap.size = w.heap.size + 1 := by simp
  rw [hs1] at b1
  clear hs1
  have h2 := h.ext x2
  have hx2 := hx.ext x2
  have hbel : RoadGo B w m W0 m := .of_ext x2 (Nat.le_trans h.base.1 (Nat.le_of_lt h.blk.lt)) m
  have hBw : B ≤ w.heap.size := Nat.le_trans h.base.1 (Nat.le_of_lt h.blk.lt)
  have HB0 := Lib.hid hBw
  have hgb : ∀ t b, ((m.fu t).getD (.slice none 0 0)).ownBlock = some b → b < w.heap.size := fun t b hb => by
    obtain ⟨ys, g1, _⟩ := h.unds t
    exact (g1.typed hb).2.1
  have HW0 := Lib.hid hW0
  go_enter Try.func62, Try.ntmps62
  go_upto_region 2 with fail
  rw [← HW0.out]
  clear HW0 hW0 x2 h hx
  obtain ⟨gx, hgx⟩ : ∃ gx, gx = w.heap.size := ⟨_, rfl⟩
  rw [← hgx] at b1 b2 hBw hgb ⊢
  have HGB := Lib.hid hgb
  clear hgx hgb
  have c0 := b2.cell 0
  have c1 := b2.cell 1
  have c2 := b2.cell 2
  have c3 := b2.cell 3
  have c4 := b2.cell 4
  simp only [List.getElem?_toArray, List.getElem?_cons_zero, List.getElem?_cons_succ] at c0 c1 c2 c3 c4
  go_wp2_with fail
  refine (itemIs_any x.it x.A x.c W0 B hx2.at_ hx2.wr hx2.le).mono ?_
  rintro e w1 ⟨rfl, y⟩
  clear c0 c1 c2 c3 c4
  replace h2 := h2.ext y
  replace hx2 := hx2.ext y
  replace hbel := hbel.ext HB0.out y
  replace b1 := b1.ext y
  replace b2 := b2.ext y
  clear y
  cases hi : x.it.is
  · have HR : Hid (offerN (mat rs) s x.it dd = 10 ∧ offerSt (mat rs) s x.it dd = s) := by
      have h1 : offerN (mat rs) s x.it dd = 10 := by simp [offerN, hi]
      exact ⟨h1, by simp [offerSt, h1]⟩
    have HH := Lib.hid h2
    have HBE := Lib.hid hbel
    clear hi h2 hx2 hbel b1 b2
    go_wp2
    go_ret
    exact ⟨by rw [HR.out.1]; rfl, m, rfl, by rw [HR.out.2]; exact HH.out, HBE.out⟩
  · have hwl : wf64 x.it.level ∧ 1 ≤ x.it.n ∧ x.it.n ≤ 1000000 := by
      have := hi
      simp only [It.is, betw, Bool.and_eq_true, decide_eq_true_eq] at this
      obtain ⟨⟨⟨h1, h3⟩, _⟩, _⟩ := this
      refine ⟨?_, h3.1, h3.2⟩
      show (Lit.int .i64 x.it.level).wf = true
      simp [Lit.wf, IntKind.min, IntKind.max, IntKind.signed, IntKind.bits]
      omega
    have HI := Lib.hid hi
    clear hi
    obtain ⟨hwl, hn1, hn2⟩ := hwl
    have hwn : IntKind.i64.wrap (x.it.n - 1) = x.it.n - 1 := IntWalk.i64_in _ (by omega)
    have r0 := h2.blk.cell 0
    have r1 := b2.cell 0
    simp only [List.getElem?_toArray, List.getElem?_cons_zero] at r0 r1
    have y0 := fun x' (hx : Ext w1 x') => ext_cell hx r0
    have y1 := fun x' (hx : Ext w1 x') => ext_cell hx r1
    clear r0 r1
    go_upto_region 4 with fail
    refine wp_region_planH (.reads 0 (.reads 1 (.reads 2 (.reads 3 (.reads 4 (.reads 5 (.reads 6 (.makes 7 (.reads 8 (.reads 9 (.done))))))))))) (by kernel_rfl) (by kernel_rfl) (fun x' => Ext w1 x') (ext_drewN w1 1) (fun ops HOPS => ?_)
    (refine segH_pure _ _ _ _ _ _ (hid_get HOPS 0 _ rfl) rfl wanted_none (fun _ _ _ _ h => h) ?_; intro K hK; go_big_quiet_op; go_big_quiet_on)
    (refine segH_nil _ _ _ _ _ _ _ (hid_get HOPS 1 _ rfl) wanted_none rfl (fun _ _ _ _ h => h) ?_; simp only [Act.put, List.setIfInBounds_toArray, List.set_cons_zero, List.set_cons_succ])
    (refine segH_pure _ _ _ _ _ _ (hid_get HOPS 2 _ rfl) rfl wanted_none (fun _ _ _ _ h => h) ?_; intro K hK; go_big_quiet_op; go_big_quiet_on)
    (refine segH_load _ _ _ _ _ _ _ _ _ (hid_get HOPS 3 _ rfl) wanted_none rfl (fun _ _ _ _ h => h) (fun y hy => by go_simp; try with_reducible rfl) ?_; simp only [Act.put, List.setIfInBounds_toArray, List.set_cons_zero, List.set_cons_succ])
    (refine segH_pure _ _ _ _ _ _ (hid_get HOPS 4 _ rfl) rfl wanted_none (fun _ _ _ _ h => h) ?_; intro K hK; go_big_quiet_op; go_big_quiet_on)
    (refine segH_pure _ _ _ _ _ _ (hid_get HOPS 5 _ rfl) rfl wanted_none (fun _ _ _ _ h => h) ?_; intro K hK; go_big_quiet_op; go_big_quiet_on)
    (refine segH_load _ _ _ _ _ _ _ _ _ (hid_get HOPS 6 _ rfl) wanted_none rfl (fun _ _ _ _ h => h) (fun y hy => by go_simp; try with_reducible rfl) ?_; simp only [Act.put, List.setIfInBounds_toArray, List.set_cons_zero, List.set_cons_succ])
    refine segH_makes _ _ _ _ _ _ (hid_get HOPS 7 _ rfl) wanted_none (fun K hK => ?_)
    go_big_op
    refine (latAbove_any A c rs dd x.it.level _ B (h2.ext (ext_drewN w1 1)).mat hl).mono ?_
    rintro e w2 ⟨rfl, y⟩
    have P := ext_trans (ext_drewN w1 1) y
    refine hK _ _ (fun x' => Ext w1 x') P (fun _ h => h) ?_
    clear hK y
    (refine segH_pure _ _ _ _ _ _ (hid_get HOPS 8 _ rfl) rfl wanted_none (fun _ _ _ _ h => h) ?_; intro K hK; go_big_quiet_op; go_big_quiet_on)
    (refine segH_pure _ _ _ _ _ _ (hid_get HOPS 9 _ rfl) rfl wanted_none (fun _ _ _ _ h => h) ?_; intro K hK; go_big_quiet_op; go_big_quiet_on)
    refine seg_done ?_
    clear HOPS
    clear y0 y1
    replace h2 := h2.ext P
    replace hx2 := hx2.ext P
    replace hbel := hbel.ext HB0.out P
    replace b1 := b1.ext P
    replace b2 := b2.ext P
    clear P
    cases hab : labove (mat rs) dd x.it.level
    · have HR : Hid (offerN (mat rs) s x.it dd = 20 ∧ offerSt (mat rs) s x.it dd = s) := by
        have h1 : offerN (mat rs) s x.it dd = 20 := by simp [offerN, HI.out, hab]
        exact ⟨h1, by simp [offerSt, h1]⟩
      have HH := Lib.hid h2
      have HBE := Lib.hid hbel
      clear hab h2 hx2 hbel b1 b2
      go_wp2
      go_ret
      exact ⟨by rw [HR.out.1]; rfl, m, rfl, by rw [HR.out.2]; exact HH.out, HBE.out⟩
    · have HAB := Lib.hid hab
      clear hab
      have hlk1 := fun x' (hx : Ext w2 x') => (h2.ext hx).lookOff hwl ht
      have hlk2 := hlk1
      have r0 := h2.blk.cell 1
      have r1 := b2.cell 1
      have r2 := b1.cell 0
      have r3 := b1.cell 1
      simp only [List.getElem?_toArray, List.getElem?_cons_zero, List.getElem?_cons_succ] at r0 r1 r2 r3
      have y0 := fun x' (hx : Ext w2 x') => ext_cell hx r0
      have y1 := fun x' (hx : Ext w2 x') => ext_cell hx r1
      have y2 := fun x' (hx : Ext w2 x') => ext_cell hx r2
      have y3 := fun x' (hx : Ext w2 x') => ext_cell hx r3
      clear r0 r1 r2 r3
      go_upto_region 6 with fail
      refine wp_region_planH (.reads 0 (.reads 1 (.reads 2 (.reads 3 (.reads 4 (.reads 5 (.reads 6 (.reads 7 (.reads 8 (.reads 9 (.reads 10 (.done)))))))))))) (by kernel_rfl) (by kernel_rfl) (fun x' => Ext w2 x') (ext_drewN w2 1) (fun ops HOPS => ?_)
      (refine segH_pure _ _ _ _ _ _ (hid_get HOPS 0 _ rfl) rfl wanted_none (fun _ _ _ _ h => h) ?_; intro K hK; go_big_quiet_op; go_big_quiet_on)
      (refine segH_load _ _ _ _ _ _ _ _ _ (hid_get HOPS 1 _ rfl) wanted_none rfl (fun _ _ _ _ h => h) (fun y hy => by go_simp; try with_reducible rfl) ?_; simp only [Act.put, List.setIfInBounds_toArray, List.set_cons_zero, List.set_cons_succ])
      (refine segH_pure _ _ _ _ _ _ (hid_get HOPS 2 _ rfl) rfl wanted_none (fun _ _ _ _ h => h) ?_; intro K hK; go_big_quiet_op; go_big_quiet_on)
      (refine segH_pure _ _ _ _ _ _ (hid_get HOPS 3 _ rfl) rfl wanted_none (fun _ _ _ _ h => h) ?_; intro K hK; go_big_quiet_op; go_big_quiet_on)
      (refine segH_nil _ _ _ _ _ _ _ (hid_get HOPS 4 _ rfl) wanted_none rfl (fun _ _ _ _ h => h) ?_; simp only [Act.put, List.setIfInBounds_toArray, List.set_cons_zero, List.set_cons_succ])
      (refine segH_pure _ _ _ _ _ _ (hid_get HOPS 5 _ rfl) rfl wanted_none (fun _ _ _ _ h => h) ?_; intro K hK; go_big_quiet_op; go_big_quiet_on)
      (refine segH_load _ _ _ _ _ _ _ _ _ (hid_get HOPS 6 _ rfl) wanted_none rfl (fun _ _ _ _ h => h) (fun y hy => by go_simp; try with_reducible rfl) ?_; simp only [Act.put, List.setIfInBounds_toArray, List.set_cons_zero, List.set_cons_succ])
      (refine segH_load _ _ _ _ _ _ _ _ _ (hid_get HOPS 7 _ rfl) wanted_none rfl (fun _ _ _ _ h => h) (fun y hy => by go_simp; try with_reducible rfl) ?_; simp only [Act.put, List.setIfInBounds_toArray, List.set_cons_zero, List.set_cons_succ])
      (refine segH_lookup _ _ _ _ _ _ _ _ _ _ _ _ (hid_get HOPS 8 _ rfl) wanted_none rfl rfl (fun _ _ _ _ h => h) (fun y hy => by first | exact hlk1 y hy | exact hlk2 y hy) ?_; simp only [Act.put, List.setIfInBounds_toArray, List.set_cons_zero, List.set_cons_succ])
      (refine segH_pure _ _ _ _ _ _ (hid_get HOPS 9 _ rfl) rfl wanted_none (fun _ _ _ _ h => h) ?_; intro K hK; go_big_quiet_op; go_big_quiet_on)
      (refine segH_pure _ _ _ _ _ _ (hid_get HOPS 10 _ rfl) rfl wanted_none (fun _ _ _ _ h => h) ?_; intro K hK; go_big_quiet_op; go_big_quiet_on)
      refine seg_done ?_
      clear HOPS
      clear y0 y1 y2 y3 hlk1 hlk2
      have P : Ext w2 w2.drew := ext_drewN w2 1
      replace h2 := h2.ext P
      replace hx2 := hx2.ext P
      replace hbel := hbel.ext HB0.out P
      replace b1 := b1.ext P
      replace b2 := b2.ext P
      clear P
      generalize w2.drew = w3 at h2 hx2 hbel b1 b2 ⊢
      cases hg : (x.it.n - 1 != s.off (x.it.level, dd))
      · have HE : Hid (x.it.n - 1 = s.off (x.it.level, dd)) := by show _ = _; simpa using hg
        have HN : Hid (offerN (mat rs) s x.it dd = 0) := by show _ = _; simp [offerN, HI.out, HAB.out, HE.out]
        clear hwn
        obtain ⟨o, m', hrun, h3, e1, e2, e3, hb3⟩ := RoadAt.storeOff (w := w3.drew) (h2.ext (ext_drewN w3 1)) hwl ht x.it.n
        have r0 := h2.blk.cell 1
        have r1 := b2.cell 1
        have r2 := b1.cell 0
        have r3 := b1.cell 1
        simp only [List.getElem?_toArray, List.getElem?_cons_zero, List.getElem?_cons_succ] at r0 r1 r2 r3
        have y0 := fun x' (hx : Ext w3 x') => ext_cell hx r0
        have y1 := fun x' (hx : Ext w3 x') => ext_cell hx r1
        have y2 := fun x' (hx : Ext w3 x') => ext_cell hx r2
        have y3 := fun x' (hx : Ext w3 x') => ext_cell hx r3
        clear r0 r1 r2 r3
        have H3 := Lib.hid h3
        have E1 := Lib.hid e1
        have E2 := Lib.hid e2
        clear hg h3 e1 e2 e3
        go_upto_region 8 with fail
        refine wp_region_planH (.reads 0 (.reads 1 (.reads 2 (.reads 3 (.reads 4 (.reads 5 (.reads 6 (.turns 7 (.done))))))))) (by kernel_rfl) (by kernel_rfl) (fun x' => Ext w3 x') (ext_drewN w3 1) (fun ops HOPS => ?_)
        (refine segH_pure _ _ _ _ _ _ (hid_get HOPS 0 _ rfl) rfl wanted_none (fun _ _ _ _ h => h) ?_; intro K hK; go_big_quiet_op; go_big_quiet_on)
        (refine segH_nil _ _ _ _ _ _ _ (hid_get HOPS 1 _ rfl) wanted_none rfl (fun _ _ _ _ h => h) ?_; simp only [Act.put, List.setIfInBounds_toArray, List.set_cons_zero, List.set_cons_succ])
        (refine segH_pure _ _ _ _ _ _ (hid_get HOPS 2 _ rfl) rfl wanted_none (fun _ _ _ _ h => h) ?_; intro K hK; go_big_quiet_op; go_big_quiet_on)
        (refine segH_load _ _ _ _ _ _ _ _ _ (hid_get HOPS 3 _ rfl) wanted_none rfl (fun _ _ _ _ h => h) (fun y hy => by go_simp; try with_reducible rfl) ?_; simp only [Act.put, List.setIfInBounds_toArray, List.set_cons_zero, List.set_cons_succ])
        (refine segH_load _ _ _ _ _ _ _ _ _ (hid_get HOPS 4 _ rfl) wanted_none rfl (fun _ _ _ _ h => h) (fun y hy => by go_simp; try with_reducible rfl) ?_; simp only [Act.put, List.setIfInBounds_toArray, List.set_cons_zero, List.set_cons_succ])
        (refine segH_pure _ _ _ _ _ _ (hid_get HOPS 5 _ rfl) rfl wanted_none (fun _ _ _ _ h => h) ?_; intro K hK; go_big_quiet_op; go_big_quiet_on)
        (refine segH_load _ _ _ _ _ _ _ _ _ (hid_get HOPS 6 _ rfl) wanted_none rfl (fun _ _ _ _ h => h) (fun y hy => by go_simp; try with_reducible rfl) ?_; simp only [Act.put, List.setIfInBounds_toArray, List.set_cons_zero, List.set_cons_succ])
        refine segH_turns _ _ _ _ _ _ (hid_get HOPS 7 _ rfl) wanted_none (fun K hK => ?_)
        go_big_op
        refine hK _ _ (fun _ => True) trivial ?_
        clear hK
        refine seg_done ?_
        clear HOPS
        clear y0 y1 y2 y3 hrun
        have n1 := h2.offm.not_blk b2
        have n2 := h2.offm.not_blk b1
        have km := keeps_map (w := w3.drew) (h2.offm.ext (ext_drewN w3 1)) h2.base.2.1 o [] 
        replace hx2 := (hx2.ext (ext_drewN w3 1)).keeps km (by simp)
        replace b1 := (b1.ext (ext_drewN w3 1)).mods (mods_setBlock w3.drew m.mo o) n2
        replace b2 := (b2.ext (ext_drewN w3 1)).mods (mods_setBlock w3.drew m.mo o) n1
        replace hbel := (hbel.ext HB0.out (ext_drewN w3 1)).trans hb3
        clear h2 n1 n2 km hb3
        generalize setBlock w3.drew m.mo o = w4 at H3 hx2 b1 b2 hbel ⊢
        have h4 := H3.out
        clear H3
        have hra : m'.ra = m.ra := E1.out
        rw [← hra]
        clear hra
        obtain ⟨ys, hO, hys, hyok⟩ := h4.unds dd
        obtain ⟨v, hv⟩ : ∃ v, v = (m'.fu dd).getD (.slice none 0 0) := ⟨_, rfl⟩
        rw [← hv] at hO
        have HV := Lib.hid hv
        have hMu : ∀ x', Mods (fun k => v.ownBlock = some k) w4 x' → MapIs Try.prog 3 levV x' m'.mu m'.fu := fun x' hx => h4.undm.mods hx (fun hc => by
          obtain ⟨_, _, cur, hB⟩ := hO.typed hc
          exact h4.undm.not_blk hB rfl)
        have hlk1 : ∀ x', Mods (fun k => v.ownBlock = some k) w4 x' → (Instr.lookup 131 (.map (some m'.mu)) (.int .i64 dd) false).run Try.prog x' = .ok v x' := fun x' hx => by
          have := (hMu x' hx).look keyed3 ul131 (zero22 x') levV_inj (key3 ht)
          rw [← HV.out] at this
          exact this
        have hlk2 := hlk1
        have hraB : ∀ x', Mods (fun k => v.ownBlock = some k) w4 x' → Blk x' m'.ra 133 #[.slice A rs.length c, .map (some m'.mo), .map (some m'.mu), m'.vl] := fun x' hx => h4.blk.mods hx (fun hc => by
          obtain ⟨_, _, cur, hB⟩ := hO.typed hc
          have h5 := h4.blk
          unfold Blk at h5 hB
          rw [h5] at hB
          cases hB)
        have y0 := fun x' (hx : Mods (fun k => v.ownBlock = some k) w4 x') => (hraB x' hx).cell 2
        simp only [List.getElem?_toArray, List.getElem?_cons_zero, List.getElem?_cons_succ] at y0
        have hvg : v.ownBlock ≠ some gx := fun hc => by
          rw [hv, E2.out] at hc
          exact absurd (HGB.out dd gx hc) (Nat.lt_irrefl _)
        have hB2 : ∀ x', Mods (fun k => v.ownBlock = some k) w4 x' → Blk x' gx 33 #[.int .i64 x.it.level, .int .i64 x.it.n, .int .i64 x.it.turn, .bool x.it.shut, .slice x.A x.it.ws.length x.c] := fun x' hx => b2.mods hx hvg
        have y1 := fun x' (hx : Mods (fun k => v.ownBlock = some k) w4 x') => (hB2 x' hx).cell 0
        have y2 := fun x' (hx : Mods (fun k => v.ownBlock = some k) w4 x') => (hB2 x' hx).cell 1
        have y3 := fun x' (hx : Mods (fun k => v.ownBlock = some k) w4 x') => (hB2 x' hx).cell 2
        have y4 := fun x' (hx : Mods (fun k => v.ownBlock = some k) w4 x') => (hB2 x' hx).cell 3
        have y5 := fun x' (hx : Mods (fun k => v.ownBlock = some k) w4 x') => (hB2 x' hx).cell 4
        simp only [List.getElem?_toArray, List.getElem?_cons_zero, List.getElem?_cons_succ] at y1 y2 y3 y4 y5
        have h40 : ys.length ≤ 40 := by
          have h5 := h4.few dd
          rw [← hys, List.length_map] at h5
          exact h5
        have HYS := Lib.hid hys
        have HYO := Lib.hid hyok
        have HO := Lib.hid hO
        have H4 := Lib.hid h4
        have HMU := Lib.hid hMu
        have HRAB := Lib.hid hraB
        have HB2 := Lib.hid hB2
        clear hv hys hyok hO h4 hMu hraB hB2
        go_upto_region 9 with fail
        refine wp_region_planH (.reads 0 (.reads 1 (.reads 2 (.reads 3 (.reads 4 (.reads 5 (.reads 6 (.makes 7 (.makes 8 (.makes 9 (.reads 10 (.done)))))))))))) (by kernel_rfl) (by kernel_rfl) (fun x' => Mods (fun k => v.ownBlock = some k) w4 x') (Mods.of_below (ext_drewN w4 1) _) (fun ops HOPS => ?_)
        (refine segH_pure _ _ _ _ _ _ (hid_get HOPS 0 _ rfl) rfl wanted_none (fun _ _ _ _ h => h) ?_; intro K hK; go_big_quiet_op; go_big_quiet_on)
        (refine segH_nil _ _ _ _ _ _ _ (hid_get HOPS 1 _ rfl) wanted_none rfl (fun _ _ _ _ h => h) ?_; simp only [Act.put, List.setIfInBounds_toArray, List.set_cons_zero, List.set_cons_succ])
        (refine segH_pure _ _ _ _ _ _ (hid_get HOPS 2 _ rfl) rfl wanted_none (fun _ _ _ _ h => h) ?_; intro K hK; go_big_quiet_op; go_big_quiet_on)
        (refine segH_load _ _ _ _ _ _ _ _ _ (hid_get HOPS 3 _ rfl) wanted_none rfl (fun _ _ _ _ h => h) (fun y hy => by go_simp; try with_reducible rfl) ?_; simp only [Act.put, List.setIfInBounds_toArray, List.set_cons_zero, List.set_cons_succ])
        (refine segH_pure _ _ _ _ _ _ (hid_get HOPS 4 _ rfl) rfl wanted_none (fun _ _ _ _ h => h) ?_; intro K hK; go_big_quiet_op; go_big_quiet_on)
        (refine segH_lookup _ _ _ _ _ _ _ _ _ _ _ _ (hid_get HOPS 5 _ rfl) wanted_none rfl rfl (fun _ _ _ _ h => h) (fun y hy => by first | exact hlk1 y hy | exact hlk2 y hy) ?_; simp only [Act.put, List.setIfInBounds_toArray, List.set_cons_zero, List.set_cons_succ])
        (refine segH_load _ _ _ _ _ _ _ _ _ (hid_get HOPS 6 _ rfl) wanted_none rfl (fun _ _ _ _ h => h) (fun y hy => by go_simp; try with_reducible rfl) ?_; simp only [Act.put, List.setIfInBounds_toArray, List.set_cons_zero, List.set_cons_succ])
        refine segH_makes _ _ _ _ _ _ (hid_get HOPS 7 _ rfl) wanted_none (fun K hK => ?_)
        go_big_op
        refine (itemCopy_any x.it x.A x.c _ B (hx2.at_.ext (ext_drewN w4 1)) (by have := hx2.len; omega)).mono ?_
        rintro e w5 ⟨A', c', rfl, hW, y⟩
        have P := ext_trans (ext_drewN w4 1) y
        refine hK _ _ (fun x' => Mods (fun k => v.ownBlock = some k) w4 x') (Mods.of_below P _) (fun _ h => h) ?_
        clear hK y
        refine segH_makes _ _ _ _ _ _ (hid_get HOPS 8 _ rfl) wanted_none (fun K hK => ?_)
        go_big_op
        have e8 := ext_alloc w5 (.cells (Iv.cells ⟨x.it, A', c'⟩).toArray 33)
        have HB := Lib.hid (rows_block (E := elIv) (B := B) (⟨x.it, A', c'⟩ : Iv) (Blk.new w5 33 (Iv.cells ⟨x.it, A', c'⟩).toArray))
        have HW := Lib.hid (RowsAt.ext hW e8)
        clear hW
        refine hK _ _ (fun x' => Mods (fun k => v.ownBlock = some k) w4 x') (Mods.of_below (ext_trans P e8) _) (fun _ h => h) ?_
        clear hK
        refine segH_makes _ _ _ _ _ _ (hid_get HOPS 9 _ rfl) wanted_none (fun K hK => ?_)
        have hsz : B ≤ (w5.alloc (.cells (Iv.cells ⟨x.it, A', c'⟩).toArray 33)).heap.size := Nat.le_trans HB0.out (Nat.le_trans hbel.below.size (ext_trans P e8).size)
        refine wp_append_off elIv _ _ rfl B v ys rfl (HO.out.ext (ext_trans P e8)) ⟨w5.heap.size, 0, none⟩ 1 [(⟨x.it, A', c'⟩ : Iv)] rfl B HB.out (by simp) (by show _ * 56 ≤ _; simp; omega) (by simp [maxLen]; omega) hsz ?_
        intro v6 w6 hown6 hg6 hat6
        have MS : Mods (fun k => v.ownBlock = some k) w4 w6 := (Mods.of_below (ext_trans P e8) _).trans (Mods.grown hg6) (fun k hk h => h)
        have hsz4 : w4.heap.size ≤ (w5.alloc (.cells (Iv.cells ⟨x.it, A', c'⟩).toArray 33)).heap.size := (ext_trans P e8).size
        refine hK _ _ (fun x' => Mods (fun k => v.ownBlock = some k) w4 x') MS (fun _ h => h) ?_
        clear hK
        simp only [Act.put, List.setIfInBounds_toArray, List.set_cons_zero, List.set_cons_succ]
        (refine segH_pure _ _ _ _ _ _ (hid_get HOPS 10 _ rfl) rfl wanted_none (fun _ _ _ _ h => h) ?_; intro K hK; go_big_quiet_op; go_big_quiet_on)
        refine seg_done ?_
        clear HOPS
        clear y0 y1 y2 y3 y4 y5 hlk1 hlk2
        have hIv6 : ∀ z ∈ ys ++ [(⟨x.it, A', c'⟩ : Iv)], IvOk w6 B z := by
          have hk6 : Keeps B [33] (w5.alloc (.cells (Iv.cells ⟨x.it, A', c'⟩).toArray 33)) w6 := Keeps.of_mods (Mods.grown hg6) fun k hk => by
            obtain ⟨t1, _, cur, t2⟩ := (HO.out.ext (ext_trans P e8)).typed hk
            refine ⟨t1, fun cs t fr hh => ?_⟩
            unfold Blk at t2
            rw [t2] at hh
            injection hh with hh
            injection hh with _ hh
            simp [← hh, elIv]
          intro z hz
          rcases List.mem_append.1 hz with hz | hz
          · exact ((HYO.out z hz).ext (ext_trans P e8)).keeps hk6 (by decide)
          · have e1 : z = ⟨x.it, A', c'⟩ := by simpa using hz
            subst e1
            exact ⟨RowsAt.keeps HW.out hk6 (by decide), hx2.wr, hx2.len⟩
        have hat : ∀ b, v6.ownBlock = some b → v.ownBlock = some b ∨ w4.heap.size ≤ b := fun b hb => by
          rcases hat6 with h5 | h5
          · left; rw [← h5]; exact hb
          · right
            rw [h5] at hb
            have := Option.some.inj hb
            rw [← this]
            exact hsz4
        rcases hown6 with ⟨_, hn⟩ | ⟨g6, off6, cap6, cur6, rfl, hbg, hB6, hnc, hcm, hcs, hcells⟩
        · exact absurd hn (by simp)
        · have hra6 := HRAB.out w6 MS
          have r0 := hra6.cell 2
          simp only [List.getElem?_toArray, List.getElem?_cons_zero, List.getElem?_cons_succ] at r0
          have y0 := fun x' (hx : Ext w6 x') => ext_cell hx r0
          clear r0
          have hlen1 : (ys ++ [(⟨x.it, A', c'⟩ : Iv)]).length = ys.length + 1 := by simp
          rw [hlen1] at hnc ⊢
          have HL1 := Lib.hid hlen1
          clear hlen1
          have HI6 := Lib.hid hIv6
          have HAT := Lib.hid hat
          have HC6 := Lib.hid hcells
          clear hIv6 hat hcells hra6 hat6
          have MS2 : Mods (fun k => v.ownBlock = some k) w4 w6.drew := MS.trans (Mods.of_below (ext_drewN w6 1) (fun k => v.ownBlock = some k)) (fun k _ h => h)
          have hO7 : Off elIv w6.drew B (.slice (some ⟨g6, off6 + (ys.length + 1 - 40) * 5, none⟩) (ys.length + 1 - (ys.length + 1 - 40)) (cap6 - (ys.length + 1 - 40))) ((ys ++ [(⟨x.it, A', c'⟩ : Iv)]).drop (ys.length + 1 - 40)) :=
            .inr ⟨g6, off6 + (ys.length + 1 - 40) * 5, cap6 - (ys.length + 1 - 40), cur6, by rw [List.length_drop, HL1.out], hbg, hB6.ext (ext_drewN w6 1), by rw [List.length_drop, HL1.out]; omega, by omega, by
              have h5 : off6 + cap6 * 5 ≤ cur6.size := hcs
              show off6 + (ys.length + 1 - 40) * 5 + (cap6 - (ys.length + 1 - 40)) * 5 ≤ cur6.size
              omega, fun j u hj => by
              rw [flat_drop (f := elIv.f) (s := 5) Iv.cells_len, List.getElem?_drop] at hj
              have := HC6.out _ u hj
              rw [← this, Nat.add_assoc]⟩
          obtain ⟨o, m2, hrun, h7, e7, hb7⟩ := H4.out.storeUnd ht HV.out MS2 hO7 (fun z hz => (HI6.out z (List.mem_of_mem_drop hz)).ext (ext_drewN w6 1)) HAT.out (by rw [List.length_drop, HL1.out]; omega)
          have H7 := Lib.hid h7
          have E7 := Lib.hid e7
          have hk6d : Keeps B [33] w4 w6.drew := Keeps.of_mods MS2 fun k hk => by
            obtain ⟨t1, _, cur, t2⟩ := HO.out.typed hk
            refine ⟨t1, fun cs t fr hh => ?_⟩
            unfold Blk at t2
            rw [t2] at hh
            injection hh with hh
            injection hh with _ hh
            simp [← hh, elIv]
          have hkm := keeps_map (HMU.out w6.drew MS2) H4.out.base.2.2 o []
          have hx8 := Lib.hid ((hx2.keeps hk6d (by decide)).keeps hkm (by simp))
          have b8 := Lib.hid ((HB2.out w6.drew MS2).mods (mods_setBlock w6.drew m'.mu o) ((HMU.out w6.drew MS2).not_blk (HB2.out w6.drew MS2)))
          have HBX := Lib.hid (hbel.trans hb7)
          clear h7 e7 hO7 MS2 hk6d hkm hb7
          have hwr : IntKind.i64.wrap (((ys.length : Int) + 1) - 40) = ((ys.length : Int) + 1) - 40 := IntWalk.i64_in _ (by omega)
          go_upto_region 10 with fail
          refine wp_region_planH (.reads 0 (.reads 1 (.reads 2 (.reads 3 (.reads 4 (.reads 5 (.reads 6 (.reads 7 (.reads 8 (.reads 9 (.reads 10 (.turns 11 (.done))))))))))))) (by kernel_rfl) (by kernel_rfl) (fun x' => Ext w6 x') (ext_drewN w6 1) (fun ops HOPS => ?_)
          (refine segH_pure _ _ _ _ _ _ (hid_get HOPS 0 _ rfl) rfl wanted_none (fun _ _ _ _ h => h) ?_; intro K hK; go_big_quiet_op; go_big_quiet_on)
          (refine segH_nil _ _ _ _ _ _ _ (hid_get HOPS 1 _ rfl) wanted_none rfl (fun _ _ _ _ h => h) ?_; simp only [Act.put, List.setIfInBounds_toArray, List.set_cons_zero, List.set_cons_succ])
          (refine segH_pure _ _ _ _ _ _ (hid_get HOPS 2 _ rfl) rfl wanted_none (fun _ _ _ _ h => h) ?_; intro K hK; go_big_quiet_op; go_big_quiet_on)
          (refine segH_load _ _ _ _ _ _ _ _ _ (hid_get HOPS 3 _ rfl) wanted_none rfl (fun _ _ _ _ h => h) (fun y hy => by go_simp; try with_reducible rfl) ?_; simp only [Act.put, List.setIfInBounds_toArray, List.set_cons_zero, List.set_cons_succ])
          (refine segH_pure _ _ _ _ _ _ (hid_get HOPS 4 _ rfl) rfl wanted_none (fun _ _ _ _ h => h) ?_; intro K hK; go_big_quiet_op; go_big_quiet_on)
          (refine segH_pure _ _ _ _ _ _ (hid_get HOPS 5 _ rfl) rfl wanted_none (fun _ _ _ _ h => h) ?_; intro K hK; go_big_quiet_op; go_big_quiet_on)
          (refine segH_pure _ _ _ _ _ _ (hid_get HOPS 6 _ rfl) rfl wanted_none (fun _ _ _ _ h => h) ?_; intro K hK; go_big_quiet_op; go_big_quiet_on)
          (refine segH_pure _ _ _ _ _ _ (hid_get HOPS 7 _ rfl) rfl wanted_none (fun _ _ _ _ h => h) ?_; intro K hK; go_big_quiet_op; go_big_quiet_on)
          (refine segH_pure _ _ _ _ _ _ (hid_get HOPS 8 _ rfl) rfl wanted_none (fun _ _ _ _ h => h) ?_; intro K hK; go_big_quiet_op; go_big_quiet_on)
          (refine segH_pure _ _ _ _ _ _ (hid_get HOPS 9 _ rfl) rfl wanted_none (fun _ _ _ _ h => h) ?_; intro K hK; go_big_quiet_op; go_big_quiet_on)
          (refine segH_pure _ _ _ _ _ _ (hid_get HOPS 10 _ rfl) rfl wanted_none (fun _ _ _ _ h => h) ?_; intro K hK; go_big_quiet_op; go_big_quiet_on)
          refine segH_turns _ _ _ _ _ _ (hid_get HOPS 11 _ rfl) wanted_none (fun K hK => ?_)
          go_big_op
          rw [show (if (ys.length : Int) + 1 - 40 < 0 then (0 : Int) else (ys.length : Int) + 1 - 40).toNat = ys.length + 1 - 40 by split <;> omega, hrun]
          go_simp
          refine hK _ _ (fun _ => True) trivial ?_
          clear hK
          refine seg_done ?_
          clear HOPS
          clear y0 hrun hwr
          generalize setBlock w6.drew m'.mu o = w8 at H7 hx8 b8 HBX ⊢
          have hra7 : m2.ra = m'.ra := E7.out
          rw [← hra7]
          clear hra7
          obtain ⟨ps, p1, p2, p3⟩ := H7.out.log
          obtain ⟨vl, hvl⟩ : ∃ vl, vl = m2.vl := ⟨_, rfl⟩
          rw [← hvl] at p1
          have HVL := Lib.hid hvl
          have hpl : ps.length < 1000000 := by
            have h5 := congrArg List.length p2
            rw [List.length_map] at h5
            rw [h5]
            exact hlog
          have hraB : ∀ x', Mods (fun k => vl.ownBlock = some k) w8 x' → Blk x' m2.ra 133 #[.slice A rs.length c, .map (some m2.mo), .map (some m2.mu), vl] := fun x' hx => by
            have h5 := H7.out.blk
            rw [← HVL.out] at h5
            exact h5.mods hx (fun hc => by
              obtain ⟨_, cur, t2⟩ := p1.blk hc
              exact blk_ne h5 t2 (by decide) rfl)
          have hB2 : ∀ x', Mods (fun k => vl.ownBlock = some k) w8 x' → Blk x' gx 33 #[.int .i64 x.it.level, .int .i64 x.it.n, .int .i64 x.it.turn, .bool x.it.shut, .slice x.A x.it.ws.length x.c] := fun x' hx => b8.out.mods hx (fun hc => by
            obtain ⟨_, cur, t2⟩ := p1.blk hc
            exact blk_ne b8.out t2 (by decide) rfl)
          have y0 := fun x' (hx : Mods (fun k => vl.ownBlock = some k) w8 x') => (hraB x' hx).cell 3
          have y1 := fun x' (hx : Mods (fun k => vl.ownBlock = some k) w8 x') => (hB2 x' hx).cell 0
          have y2 := fun x' (hx : Mods (fun k => vl.ownBlock = some k) w8 x') => (hB2 x' hx).cell 1
          have y3 := fun x' (hx : Mods (fun k => vl.ownBlock = some k) w8 x') => (hB2 x' hx).cell 2
          have y4 := fun x' (hx : Mods (fun k => vl.ownBlock = some k) w8 x') => (hB2 x' hx).cell 3
          have y5 := fun x' (hx : Mods (fun k => vl.ownBlock = some k) w8 x') => (hB2 x' hx).cell 4
          simp only [List.getElem?_toArray, List.getElem?_cons_zero, List.getElem?_cons_succ] at y0 y1 y2 y3 y4 y5
          have HP1 := Lib.hid p1
          have HP2 := Lib.hid p2
          have HP3 := Lib.hid p3
          have HRA := Lib.hid hraB
          clear p1 p2 p3 hraB hB2 hvl
          go_upto_region 11 with fail
          refine wp_region_planH (.reads 0 (.reads 1 (.reads 2 (.reads 3 (.reads 4 (.reads 5 (.reads 6 (.makes 7 (.reads 8 (.makes 9 (.makes 10 (.reads 11 (.reads 12 (.turns 13 (.done))))))))))))))) (by kernel_rfl) (by kernel_rfl) (fun x' => Mods (fun k => vl.ownBlock = some k) w8 x') (Mods.of_below (ext_drewN w8 1) _) (fun ops HOPS => ?_)
          (refine segH_pure _ _ _ _ _ _ (hid_get HOPS 0 _ rfl) rfl wanted_none (fun _ _ _ _ h => h) ?_; intro K hK; go_big_quiet_op; go_big_quiet_on)
          (refine segH_pure _ _ _ _ _ _ (hid_get HOPS 1 _ rfl) rfl wanted_none (fun _ _ _ _ h => h) ?_; intro K hK; go_big_quiet_op; go_big_quiet_on)
          (refine segH_nil _ _ _ _ _ _ _ (hid_get HOPS 2 _ rfl) wanted_none rfl (fun _ _ _ _ h => h) ?_; simp only [Act.put, List.setIfInBounds_toArray, List.set_cons_zero, List.set_cons_succ])
          (refine segH_pure _ _ _ _ _ _ (hid_get HOPS 3 _ rfl) rfl wanted_none (fun _ _ _ _ h => h) ?_; intro K hK; go_big_quiet_op; go_big_quiet_on)
          (refine segH_load _ _ _ _ _ _ _ _ _ (hid_get HOPS 4 _ rfl) wanted_none rfl (fun _ _ _ _ h => h) (fun y hy => by go_simp; try with_reducible rfl) ?_; simp only [Act.put, List.setIfInBounds_toArray, List.set_cons_zero, List.set_cons_succ])
          (refine segH_pure _ _ _ _ _ _ (hid_get HOPS 5 _ rfl) rfl wanted_none (fun _ _ _ _ h => h) ?_; intro K hK; go_big_quiet_op; go_big_quiet_on)
          (refine segH_load _ _ _ _ _ _ _ _ _ (hid_get HOPS 6 _ rfl) wanted_none rfl (fun _ _ _ _ h => h) (fun y hy => by go_simp; try with_reducible rfl) ?_; simp only [Act.put, List.setIfInBounds_toArray, List.set_cons_zero, List.set_cons_succ])
          refine segH_makes _ _ _ _ _ _ (hid_get HOPS 7 _ rfl) wanted_none (fun K hK => ?_)
          go_big_op
          refine (itemCopy_any x.it x.A x.c _ B (hx8.out.at_.ext (ext_drewN w8 1)) (by have := hx8.out.len; omega)).mono ?_
          rintro e w9 ⟨A9, c9, rfl, hW9, y⟩
          have P9 := ext_trans (ext_drewN w8 1) y
          refine hK _ _ (fun x' => Mods (fun k => vl.ownBlock = some k) w8 x') (Mods.of_below P9 _) (fun _ h => h) ?_
          clear hK y
          (refine segH_pure _ _ _ _ _ _ (hid_get HOPS 8 _ rfl) rfl wanted_none (fun _ _ _ _ h => h) ?_; intro K hK; go_big_quiet_op; go_big_quiet_on)
          refine segH_makes _ _ _ _ _ _ (hid_get HOPS 9 _ rfl) wanted_none (fun K hK => ?_)
          go_big_op
          have e9 := ext_alloc w9 (.cells (Pv.cells ⟨dd, ⟨x.it, A9, c9⟩⟩).toArray 94)
          have HBP := Lib.hid (rows_block (E := elPv) (B := B) (⟨dd, ⟨x.it, A9, c9⟩⟩ : Pv) (Blk.new w9 94 (Pv.cells ⟨dd, ⟨x.it, A9, c9⟩⟩).toArray))
          have HW9 := Lib.hid (RowsAt.ext hW9 e9)
          clear hW9
          refine hK _ _ (fun x' => Mods (fun k => vl.ownBlock = some k) w8 x') (Mods.of_below (ext_trans P9 e9) _) (fun _ h => h) ?_
          clear hK
          refine segH_makes _ _ _ _ _ _ (hid_get HOPS 10 _ rfl) wanted_none (fun K hK => ?_)
          have HPE := Lib.hid (HP1.out.ext (ext_trans P9 e9))
          obtain ⟨Al, cl, hvf⟩ := HP1.out.form
          have hsz9 : B ≤ (w9.alloc (.cells (Pv.cells ⟨dd, ⟨x.it, A9, c9⟩⟩).toArray 94)).heap.size := Nat.le_trans HB0.out (Nat.le_trans HBX.out.below.size (ext_trans P9 e9).size)
          refine wp_append elPv _ _ rfl B vl ps rfl HPE.out _ 1 [(⟨dd, ⟨x.it, A9, c9⟩⟩ : Pv)] rfl B HBP.out (by show _ * 64 ≤ _; simp; omega) (by simp; omega) hsz9 ?_
          intro A10 c10 w10 hown10 hg10 hat10
          clear hvf
          have MS10 : Mods (fun k => vl.ownBlock = some k) w8 w10 := (Mods.of_below (ext_trans P9 e9) _).trans (Mods.grown hg10) (fun k hk h => h)
          have hIvP : ∀ p ∈ ps ++ [(⟨dd, ⟨x.it, A9, c9⟩⟩ : Pv)], IvOk w10 B p.x := by
            have hk10 : Keeps B [94] (w9.alloc (.cells (Pv.cells ⟨dd, ⟨x.it, A9, c9⟩⟩).toArray 94)) w10 := HPE.out.keeps hg10 (Nat.le_refl _)
            intro z hz
            rcases List.mem_append.1 hz with hz | hz
            · exact ((HP3.out z hz).ext (ext_trans P9 e9)).keeps hk10 (by decide)
            · have e1 : z = ⟨dd, ⟨x.it, A9, c9⟩⟩ := by simpa using hz
              subst e1
              exact ⟨RowsAt.keeps HW9.out hk10 (by decide), hx8.out.wr, hx8.out.len⟩
          obtain ⟨f1, f2, f3⟩ := H7.out.storeLog (w6 := w10) (by rw [← HVL.out]; exact MS10) hown10 hIvP (by rw [List.length_append, List.length_singleton]; omega) (fun b hb => by
            rw [← HVL.out]
            rcases hat10 with h5 | h5
            · exact .inl (by rw [← h5]; exact hb)
            · right
              rw [h5] at hb
              exact Nat.le_trans (ext_trans P9 e9).size (Nat.le_of_eq (Option.some.inj hb)))
          have hu : ((ys ++ [(⟨x.it, A', c'⟩ : Iv)]).drop (ys.length + 1 - 40)).map Iv.it = last40 (s.und dd ++ [x.it]) := by
            have h5 : s.und dd = ys.map Iv.it := HYS.out.symm
            rw [last40, h5, List.map_drop]
            simp
          have hlg : prs (ps ++ [(⟨dd, ⟨x.it, A9, c9⟩⟩ : Pv)]) = s.log ++ [(dd, x.it)] := by
            have h5 : prs ps = s.log := HP2.out
            rw [← h5]
            simp [prs]
          have hst : offerSt (mat rs) s x.it dd = ⟨fun y => if y = (x.it.level, dd) then x.it.n else s.off y, fun t => if t = dd then ((ys ++ [(⟨x.it, A', c'⟩ : Iv)]).drop (ys.length + 1 - 40)).map Iv.it else s.und t, prs (ps ++ [(⟨dd, ⟨x.it, A9, c9⟩⟩ : Pv)])⟩ := by
            rw [offerSt, if_pos HN.out, hu, hlg]
          have HF : Hid (∃ m'', m''.ra = m.ra ∧ RoadAt (w10.setCell ⟨m2.ra, 3, none⟩ (.slice A10 (ps ++ [(⟨dd, ⟨x.it, A9, c9⟩⟩ : Pv)]).length c10)) B A c rs m'' (offerSt (mat rs) s x.it dd) ∧ RoadGo B w m (w10.setCell ⟨m2.ra, 3, none⟩ (.slice A10 (ps ++ [(⟨dd, ⟨x.it, A9, c9⟩⟩ : Pv)]).length c10)) m'') :=
            ⟨⟨m2.ra, m2.mo, m2.mu, m2.fo, m2.fu, .slice A10 (ps ++ [(⟨dd, ⟨x.it, A9, c9⟩⟩ : Pv)]).length c10⟩, E7.out.trans E1.out, by rw [hst]; exact f1, HBX.out.trans f2⟩
          have q0 := f3.cell 3
          have fz := f3.frozen 3
          simp only [List.getElem?_toArray, List.getElem?_cons_zero, List.getElem?_cons_succ] at q0
          clear f1 f2 f3 hu hlg hst hIvP hown10 hg10 hat10
          refine hK _ _ (fun x' => Mods (fun k => vl.ownBlock = some k) w8 x') MS10 (fun _ h => h) ?_
          clear hK
          simp only [Act.put, List.setIfInBounds_toArray, List.set_cons_zero, List.set_cons_succ]
          (refine segH_nil _ _ _ _ _ _ _ (hid_get HOPS 11 _ rfl) wanted_none rfl (fun _ _ _ _ h => h) ?_; simp only [Act.put, List.setIfInBounds_toArray, List.set_cons_zero, List.set_cons_succ])
          (refine segH_pure _ _ _ _ _ _ (hid_get HOPS 12 _ rfl) rfl wanted_none (fun _ _ _ _ h => h) ?_; intro K hK; go_big_quiet_op; go_big_quiet_on)
          refine segH_turns _ _ _ _ _ _ (hid_get HOPS 13 _ rfl) wanted_none (fun K hK => ?_)
          go_big_op
          refine hK _ _ (fun _ => True) trivial ?_
          clear hK
          refine seg_done ?_
          clear HOPS
          clear y0 y1 y2 y3 y4 y5 q0 fz
          go_wp2
          all_goals
            go_ret
            refine ⟨by rw [HN.out]; rfl, ?_⟩
            have hF := HF.out
            rw [show (ps ++ [(⟨dd, ⟨x.it, A9, c9⟩⟩ : Pv)]).length = ps.length + 1 by simp] at hF
            exact hF
      · have HR : Hid (offerN (mat rs) s x.it dd = 23 ∧ offerSt (mat rs) s x.it dd = s) := by
          have h1 : offerN (mat rs) s x.it dd = 23 := by
            simp only [offerN, HI.out, HAB.out, if_true]
            rw [if_neg]
            intro hc
            rw [hc] at hg
            simp at hg
          exact ⟨h1, by simp [offerSt, h1]⟩
        have HH := Lib.hid h2
        have HBE := Lib.hid hbel
        clear h2 hx2 hbel b1 b2 hwn
        go_wp2
        go_ret
        exact ⟨by rw [HR.out.1]; rfl, m, rfl, by rw [HR.out.2]; exact HH.out, HBE.out⟩
end
end Go.Proofs.Ytdknkbpgkkakhaa
