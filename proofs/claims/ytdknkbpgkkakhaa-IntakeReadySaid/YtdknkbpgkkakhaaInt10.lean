/- Layer 20: Drop. -/
import Derived.Test.YtdknkbpgkkakhaaInt9
namespace Go.Proofs.Ytdknkbpgkkakhaa
open Go.RowKit Go.Maps
open Go.ChangeMaps (setBlock)

section
variable {P : Program} {ops : Array Oper} {Q : Exit → Act → World → Prop} {S : World → Prop} {i : Nat} {p : Plan} {a : Act} {w : World}
/-- A closure that captures one variable is made. -/
theorem segH_func (dst : Option Tmp) (fn : FuncId) (x : Operand) (ty : TypeId) (pos : String) (after : Array Edge) (guard : Option (Nat × Bool)) (v : Value) (ho : ops[i]? = some ⟨dst, .makeFunc (.func fn) #[] #[x], ty, pos, after, guard⟩) (hw : Region.wanted ⟨dst, .makeFunc (.func fn) #[] #[x], ty, pos, after, guard⟩ (yielded ops a.tmps) = true)
    (hx : a.eval x = v) (hQ : ∀ v c a w, Q (.panic c) (a.put dst v) w → Q (.panic c) a w)
    (h : wpSeg P ops Q p S (a.put dst (.func (.func fn) #[] #[v])) w) : wpSeg P ops Q (.reads i p) S a w := by
  refine ⟨_, _, ho, .inl ⟨hw, fun y hy => ?_⟩, hQ _, h⟩
  subst hx
  have hmf : ∀ (f : Fn) (first cap : Array Value) (w : World), (Instr.makeFunc f first cap).run P w = .ok (.func f first cap) w := fun _ _ _ _ => rfl
  simp [execOp, hmf, Result.andThen]
end
section
variable {w w' : World} {B : Nat}
variable {A : Option Addr} {c : Nat} {rs : List Rw} {lev : Int} {m : IntMem} {s : IntSt}
def dropFirst (s : IntSt) (t : Int) : Int := if s.first < (if 1000000 < t then 1000000 else t) + 1 then (if 1000000 < t then 1000000 else t) + 1 else s.first
def dropSt (s : IntSt) (t : Int) : IntSt := { s with first := dropFirst s t, came := s.came.filter fun x => !late (dropFirst s t) x }
theorem its_filter (f : It → Bool) (ys : List Iv) : its (ys.filter fun y => f y.it) = (its ys).filter f := by
  unfold its
  induction ys with
  | nil => rfl
  | cons y ys ih =>
    simp only [List.filter_cons, List.map_cons]
    split <;> simp [ih]
set_option maxRecDepth 100000 in
set_option maxHeartbeats 4000000 in
theorem intDrop_any (h : IntAt w B A c rs lev m s) (t : Int) (ht : -9223372036854775808 ≤ t ∧ t ≤ 9223372036854775807) (hf : 0 ≤ s.first ∧ s.first ≤ 1000001) :
    Calls Try.prog 76 #[.pointer (some ⟨m.ga, 0, none⟩), .int .i64 t] w
      fun e w' => e = .returned (.tuple #[]) ∧ ∃ m', IntAt w' B A c rs lev m' (dropSt s t) ∧ IntGo B w m w' m' := by
  have hB := h.base_le
  obtain ⟨W, hW⟩ : ∃ W, W = w.alloc (.cells #[.pointer (some ⟨m.ga, 0, none⟩)] 97) := ⟨_, rfl⟩
  have x0 : Ext w W := by rw [hW]; exact ext_alloc _ _
  have b0 : Blk W w.heap.size 97 #[.pointer (some ⟨m.ga, 0, none⟩)] := by rw [hW]; exact Blk.new _ _ _
  have HI := h.ext x0
  have hgo : IntGo B w m W m := .of_ext x0 hB m
  have hne : w.heap.size ≠ m.ga := fun e => by have := h.blk.lt; omega
  have HW := Lib.hid hW
  clear hW h x0
  go_enter Try.func76, Try.ntmps76
  go_upto_region 1 with fail
  rw [← HW.out]
  clear HW
  obtain ⟨gx, hgx⟩ : ∃ gx, gx = w.heap.size := ⟨_, rfl⟩
  rw [← hgx] at b0 hne ⊢
  have HGX : Hid (w.heap.size ≤ gx) := Nat.le_of_eq hgx.symm
  clear hgx
  have r0 := b0.cell 0
  have r1 := HI.blk.cell 17
  rw [HI.firc] at r1
  simp only [List.getElem?_toArray, List.getElem?_cons_zero, List.getElem?_cons_succ] at r0
  have y0 := fun x' (hx : Ext W x') => ext_cell hx r0
  have y1 := fun x' (hx : Ext W x') => ext_cell hx r1
  have fz := HI.blk.frozen
  have fzd := (HI.blk.ext (ext_drewN W 1)).frozen
  have q1 := y1 W.drew (ext_drewN W 1)
  have hwr : IntKind.i64.wrap (min t 1000000 + 1) = min t 1000000 + 1 := IntWalk.i64_in _ (by omega)
  clear r0 r1
  refine wp_region_planH3 (.reads 0 (.reads 1 (.reads 2 (.reads 3 (.reads 4 (.reads 5 (.reads 6 (.reads 7 (.reads 8 (.reads 9 (.reads 10 (.turns 11 (.done))))))))))))) (by kernel_rfl) (by kernel_rfl) (fun x' => Ext W x') (ext_drewN W 1) (fun ops HOPS => ?_)
  (refine segH_load _ _ _ _ _ _ _ _ _ (hid_get HOPS 0 _ rfl) wanted_none rfl (fun _ _ _ _ h => h) (fun y hy => by go_simp; try with_reducible rfl) ?_; simp only [Act.put, List.setIfInBounds_toArray, List.set_cons_zero, List.set_cons_succ])
  (refine segH_load _ _ _ _ _ _ _ _ _ (hid_get HOPS 1 _ rfl) wanted_none rfl (fun _ _ _ _ h => h) (fun y hy => by go_simp; try with_reducible rfl) ?_; simp only [Act.put, List.setIfInBounds_toArray, List.set_cons_zero, List.set_cons_succ])
  (refine segH_nil _ _ _ _ _ _ _ (hid_get HOPS 2 _ rfl) wanted_none rfl (fun _ _ _ _ h => h) ?_; simp only [Act.put, List.setIfInBounds_toArray, List.set_cons_zero, List.set_cons_succ])
  (refine segH_pure _ _ _ _ _ _ (hid_get HOPS 3 _ rfl) rfl wanted_none (fun _ _ _ _ h => h) ?_; intro K hK; go_big_quiet_op; go_big_quiet_on)
  (refine segH_load _ _ _ _ _ _ _ _ _ (hid_get HOPS 4 _ rfl) wanted_none rfl (fun _ _ _ _ h => h) (fun y hy => by go_simp; try with_reducible rfl) ?_; simp only [Act.put, List.setIfInBounds_toArray, List.set_cons_zero, List.set_cons_succ])
  (refine segH_pure _ _ _ _ _ _ (hid_get HOPS 5 _ rfl) rfl wanted_none (fun _ _ _ _ h => h) ?_; intro K hK; go_big_quiet_op; go_big_quiet_on)
  (refine segH_pure _ _ _ _ _ _ (hid_get HOPS 6 _ rfl) rfl wanted_none (fun _ _ _ _ h => h) ?_; intro K hK; go_big_quiet_op; go_big_quiet_on)
  (refine segH_pure _ _ _ _ _ _ (hid_get HOPS 7 _ rfl) rfl wanted_none (fun _ _ _ _ h => h) ?_; intro K hK; go_big_quiet_op; go_big_quiet_on)
  (refine segH_pure _ _ _ _ _ _ (hid_get HOPS 8 _ rfl) rfl wanted_none (fun _ _ _ _ h => h) ?_; intro K hK; go_big_quiet_op; go_big_quiet_on)
  (refine segH_nil _ _ _ _ _ _ _ (hid_get HOPS 9 _ rfl) wanted_none rfl (fun _ _ _ _ h => h) ?_; simp only [Act.put, List.setIfInBounds_toArray, List.set_cons_zero, List.set_cons_succ])
  (refine segH_pure _ _ _ _ _ _ (hid_get HOPS 10 _ rfl) rfl wanted_none (fun _ _ _ _ h => h) ?_; intro K hK; go_big_quiet_op; go_big_quiet_on)
  refine segH_turns _ _ _ _ _ _ (hid_get HOPS 11 _ rfl) wanted_none (fun K hK => ?_)
  go_big_op
  refine hK _ _ (fun _ => True) trivial ?_
  clear hK
  refine seg_done ?_
  clear HOPS
  clear y0 y1 fz fzd q1 hwr
  obtain ⟨nf, hnf⟩ : ∃ nf, nf = if s.first < (if 1000000 < t then 1000000 else t) + 1 then (if 1000000 < t then 1000000 else t) + 1 else s.first := ⟨_, rfl⟩
  rw [← hnf]
  have hnd : dropFirst s t = nf := hnf.symm
  have xd : Ext (W.setCell ⟨m.ga, 17, none⟩ (.int .i64 nf)) (W.setCell ⟨m.ga, 17, none⟩ (.int .i64 nf)).drew := ext_drewN _ 1
  obtain ⟨p1, p2⟩ := HI.put 17 (.int .i64 nf) { s with first := nf } (by omega) (fun a ha => by rw [get_set_ne (by omega)]; exact HI.hav a ha) (fun a ha => by rw [get_set_ne (by omega)]; exact HI.ovr a ha) (by rw [get_set_eq (by rw [HI.size]; omega)]) ⟨rfl, rfl, rfl⟩
  replace p1 := p1.ext xd
  have b1 := (b0.mods (mods_setCell W ⟨m.ga, 17, none⟩ (.int .i64 nf)) hne).ext xd
  have hgo2 := (hgo.trans p2).ext hB xd
  obtain ⟨W2, hW2⟩ : ∃ W2, W2 = (W.setCell ⟨m.ga, 17, none⟩ (.int .i64 nf)).drew := ⟨_, rfl⟩
  rw [← hW2] at p1 b1 hgo2 ⊢
  clear hW2 xd p2 hgo HI b0 hnf
  generalize (if (1000000 : Int) < t then 1000000 else t) = mt
  obtain ⟨ys, hO, hys, hok⟩ := p1.came
  obtain ⟨A0, c0, hv⟩ := hO.form
  have r0 := b1.cell 0
  have r1 := p1.blk.cell 16
  have r2 := p1.blk.cell 17
  rw [p1.camc] at r1
  rw [p1.firc] at r2
  dsimp only at hv hO r1 r2
  rw [hv] at r1 hO
  simp only [List.getElem?_toArray, List.getElem?_cons_zero] at r0
  have y0 := fun x' (hx : Ext W2 x') => ext_cell hx r0
  have y1 := fun x' (hx : Ext W2 x') => ext_cell hx r1
  have y2 := fun x' (hx : Ext W2 x') => ext_cell hx r2
  have hcl : ys.length ≤ 1000000 := by
    rw [← its_length, hys]; exact p1.camelen
  have HP := Lib.hid p1
  have HGO := Lib.hid hgo2
  have HYS : Hid (its ys = s.came) := hys
  have HOK := Lib.hid hok
  have HR : Hid (RowsIv W2 B A0 ys) := hO.rows (B := B)
  have HLT : Hid (gx < W2.heap.size ∧ m.ga < W2.heap.size) := ⟨b1.lt, p1.blk.lt⟩
  clear p1 hgo2 hys hok hO r0 r1 r2 hv b1
  go_upto_region 2 with fail
  refine wp_region_planH3 (.reads 0 (.reads 1 (.reads 2 (.reads 3 (.reads 4 (.reads 6 (.makes 5 (.makes 7 (.reads 8 (.reads 9 (.turns 10 (.done)))))))))))) (by kernel_rfl) (by kernel_rfl) (fun x' => Ext W2 x') (ext_drewN W2 1) (fun ops HOPS => ?_)
  (refine segH_load _ _ _ _ _ _ _ _ _ (hid_get HOPS 0 _ rfl) wanted_none rfl (fun _ _ _ _ h => h) (fun y hy => by go_simp; try with_reducible rfl) ?_; simp only [Act.put, List.setIfInBounds_toArray, List.set_cons_zero, List.set_cons_succ])
  (refine segH_load _ _ _ _ _ _ _ _ _ (hid_get HOPS 1 _ rfl) wanted_none rfl (fun _ _ _ _ h => h) (fun y hy => by go_simp; try with_reducible rfl) ?_; simp only [Act.put, List.setIfInBounds_toArray, List.set_cons_zero, List.set_cons_succ])
  (refine segH_nil _ _ _ _ _ _ _ (hid_get HOPS 2 _ rfl) wanted_none rfl (fun _ _ _ _ h => h) ?_; simp only [Act.put, List.setIfInBounds_toArray, List.set_cons_zero, List.set_cons_succ])
  (refine segH_pure _ _ _ _ _ _ (hid_get HOPS 3 _ rfl) rfl wanted_none (fun _ _ _ _ h => h) ?_; intro K hK; go_big_quiet_op; go_big_quiet_on)
  (refine segH_load _ _ _ _ _ _ _ _ _ (hid_get HOPS 4 _ rfl) wanted_none rfl (fun _ _ _ _ h => h) (fun y hy => by go_simp; try with_reducible rfl) ?_; simp only [Act.put, List.setIfInBounds_toArray, List.set_cons_zero, List.set_cons_succ])
  (refine segH_func _ _ _ _ _ _ _ _ (hid_get HOPS 6 _ rfl) wanted_none rfl (fun _ _ _ _ h => h) ?_; simp only [Act.put, List.setIfInBounds_toArray, List.set_cons_zero, List.set_cons_succ])
  refine segH_makes _ _ _ _ _ _ (hid_get HOPS 5 _ rfl) wanted_none (fun K hK => ?_)
  go_big_op
  refine (cloneIts_any A0 c0 ys _ B (RowsAt.ext HR.out (ext_drewN W2 1)) (by omega)).mono ?_
  rintro e w3 ⟨v3, rfl, hown, x3⟩
  have P3 : Ext W2 w3 := ext_trans (ext_drewN W2 1) x3
  replace hown : Own elIv w3 W2.heap.size v3 ys := hown
  obtain ⟨A3, c3, rfl⟩ := hown.form
  refine hK _ _ (fun x' => Ext W2 x') P3 (fun _ h => h) ?_
  clear hK
  refine segH_makes _ _ _ _ _ _ (hid_get HOPS 7 _ rfl) wanted_none (fun K hK => ?_)
  go_big_op
  refine (deleteFunc_any (y0 w3 P3) (y2 w3 P3) HLT.out.1 HLT.out.2 P3.size hown hcl).mono ?_
  rintro e w4 ⟨v4, rfl, hoff, hm4, hvb⟩
  have P4 : Ext W2 w4 := P3.trans (hm4.below P3.size (fun k e => (hown.typed e).1))
  have hnew : ∀ b, v4.ownBlock = some b → m.vc.ownBlock = some b ∨ W2.heap.size ≤ b := fun b hb => by
    rw [hvb] at hb
    exact .inr (hown.typed hb).1
  obtain ⟨A4, c4, hv4⟩ := hoff.form
  subst hv4
  have hits : its (ys.filter fun y => !late nf y.it) = s.came.filter fun x => !late nf x := by rw [its_filter (fun x => !late nf x), HYS.out]
  obtain ⟨p1, p2⟩ := HP.out.storeCame (w3 := w4) (Mods.of_below P4 _) (hoff.le (Nat.le_trans hB HGO.out.below.size)) (fun y hy => (HOK.out y (List.mem_filter.1 hy).1).ext P4) (Nat.le_trans (List.length_filter_le _ _) hcl) hnew (dropSt s t) ⟨rfl, rfl, rfl, rfl, hnd⟩ (by rw [hits]; unfold dropSt; rw [hnd])
  have hgo := HGO.out.trans p2
  have hyq : Ext W2 w4 := P4
  have fz := (HP.out.blk.ext P4).frozen
  have q1 := y1 w4 P4
  obtain ⟨L, hL⟩ : ∃ L, L = ys.filter fun y => !late nf y.it := ⟨_, rfl⟩
  rw [← hL] at p1 hgo ⊢
  clear p2 hnew hoff hL hits
  refine hK _ _ (fun x' => Ext W2 x') P4 (fun _ h => h) ?_
  clear hK
  (refine segH_nil _ _ _ _ _ _ _ (hid_get HOPS 8 _ rfl) wanted_none rfl (fun _ _ _ _ h => h) ?_; simp only [Act.put, List.setIfInBounds_toArray, List.set_cons_zero, List.set_cons_succ])
  (refine segH_pure _ _ _ _ _ _ (hid_get HOPS 9 _ rfl) rfl wanted_none (fun _ _ _ _ h => h) ?_; intro K hK; go_big_quiet_op; go_big_quiet_on)
  refine segH_turns _ _ _ _ _ _ (hid_get HOPS 10 _ rfl) wanted_none (fun K hK => ?_)
  go_big_op
  refine hK _ _ (fun _ => True) trivial ?_
  clear hK
  refine seg_done ?_
  clear HOPS
  have HF := Lib.hid (And.intro p1 hgo)
  clear p1 hgo y0 y1 y2 fz q1
  go_wp2
  (try simp only [Exit.inBlock, Exit.then])
  refine bodyPost_end (results_none rfl _ _ _) rfl ?_
  exact ⟨rfl, _, HF.out⟩
end
end Go.Proofs.Ytdknkbpgkkakhaa
