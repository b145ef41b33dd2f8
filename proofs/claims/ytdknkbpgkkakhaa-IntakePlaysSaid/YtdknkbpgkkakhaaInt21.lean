/- Layer 20: the document's Ready and Of. -/
import Derived.Test.YtdknkbpgkkakhaaInt20
namespace Go.Proofs.Ytdknkbpgkkakhaa
open Go.RowKit Go.Maps

section
variable {w w' w1 : World} {B : Nat} {A : Option Addr} {c : Nat} {rs : List Rw} {lev : Int} {r : RfMem} {s : RfSt}
def rdR (ms : Mat) (s : RfSt) (lev t : Int) : Bool := (lbelow ms lev).all fun b => decide (t < rfOver s (b : Int))
set_option maxRecDepth 100000 in
set_option maxHeartbeats 4000000 in
theorem rfReady_any (h : RfAt w B A c rs lev r s) (t : Int) (hl : rs.length ≤ 9223372036854775807) :
    Calls Try.prog 84 #[.pointer (some ⟨r.g, 0, none⟩), .int .i64 t] w fun e w' => e = .returned (.bool (rdR (mat rs) s lev t)) ∧ Ext w w' := by
  have c0 := h.blk.cell 0
  have c1 := h.blk.cell 1
  rw [h.lat] at c0
  rw [h.lev_] at c1
  have HH := Lib.hid h
  clear h
  have d0 := fun x (hx : Ext w x) => ext_cell hx c0
  have d1 := fun x (hx : Ext w x) => ext_cell hx c1
  go_enter Try.func84, Try.ntmps84
  go_wp2_with fail
  refine wp_region_planH3 (.reads 0 (.reads 1 (.reads 2 (.reads 3 (.reads 4 (.reads 5 (.reads 6 (.reads 7 (.makes 8 (.reads 9 (.done))))))))))) (by kernel_rfl) (by kernel_rfl) (fun x' => Ext w x') (ext_drewN w 1) (fun ops HOPS => ?_)
  (refine segH_pure _ _ _ _ _ _ (hid_get HOPS 0 _ rfl) rfl wanted_none (fun _ _ _ _ h => h) ?_; intro K hK; go_big_quiet_op; go_big_quiet_on)
  (refine segH_nil _ _ _ _ _ _ _ (hid_get HOPS 1 _ rfl) wanted_none rfl (fun _ _ _ _ h => h) ?_; simp only [Act.put, List.setIfInBounds_toArray, List.set_cons_zero, List.set_cons_succ])
  (refine segH_pure _ _ _ _ _ _ (hid_get HOPS 2 _ rfl) rfl wanted_none (fun _ _ _ _ h => h) ?_; intro K hK; go_big_quiet_op; go_big_quiet_on)
  (refine segH_load _ _ _ _ _ _ _ _ _ (hid_get HOPS 3 _ rfl) wanted_none rfl (fun _ _ _ _ h => h) (fun y hy => by go_simp; try with_reducible rfl) ?_; simp only [Act.put, List.setIfInBounds_toArray, List.set_cons_zero, List.set_cons_succ])
  (refine segH_pure _ _ _ _ _ _ (hid_get HOPS 4 _ rfl) rfl wanted_none (fun _ _ _ _ h => h) ?_; intro K hK; go_big_quiet_op; go_big_quiet_on)
  (refine segH_nil _ _ _ _ _ _ _ (hid_get HOPS 5 _ rfl) wanted_none rfl (fun _ _ _ _ h => h) ?_; simp only [Act.put, List.setIfInBounds_toArray, List.set_cons_zero, List.set_cons_succ])
  (refine segH_pure _ _ _ _ _ _ (hid_get HOPS 6 _ rfl) rfl wanted_none (fun _ _ _ _ h => h) ?_; intro K hK; go_big_quiet_op; go_big_quiet_on)
  (refine segH_load _ _ _ _ _ _ _ _ _ (hid_get HOPS 7 _ rfl) wanted_none rfl (fun _ _ _ _ h => h) (fun y hy => by go_simp; try with_reducible rfl) ?_; simp only [Act.put, List.setIfInBounds_toArray, List.set_cons_zero, List.set_cons_succ])
  refine segH_makes _ _ _ _ _ _ (hid_get HOPS 8 _ rfl) wanted_none (fun K hK => ?_)
  go_big_op
  refine (refBelow_any A c rs lev _ _ (HH.out.mat.ext (ext_drewN w 1)) hl).mono ?_
  rintro e w1 ⟨v, rfl, hown, x1⟩
  obtain ⟨ls, hls⟩ : ∃ ls, ls = lbelow (mat rs) lev := ⟨_, rfl⟩
  have hr : rdR (mat rs) s lev t = ls.all fun b => decide (t < rfOver s (b : Int)) := by rw [hls]; rfl
  have hln : ls.length ≤ 6 := by rw [hls]; exact below_le _ _
  rw [← hls] at hown
  have HR := Lib.hid hr
  clear hr hls
  obtain ⟨Ab, cb, rfl⟩ := hown.form
  have hR : NatsAt w1 w1.drew.heap.size Ab ls := hown.rows
  have hW : Ext w w1 := ext_trans (ext_drewN w 1) x1
  refine hK _ _ (fun x' => Ext w x') hW (fun _ h => h) ?_
  clear hK hown x1
  (refine segH_pure _ _ _ _ _ _ (hid_get HOPS 9 _ rfl) rfl wanted_none (fun _ _ _ _ h => h) ?_; intro K hK; go_big_quiet_op; go_big_quiet_on)
  refine seg_done ?_
  clear HOPS
  clear c0 c1 d0 d1
  go_wp2
  go_loopw [6] (fun i wr => ∃ k : Nat, i = .int .i64 k ∧ k ≤ ls.length ∧ Ext w1 wr ∧ Hid ((ls.take k).all (fun b => decide (t < rfOver s (b : Int))) = true)) (fun i _ => ls.length - (intOf i).toNat)
  case atStart => exact ⟨0, rfl, Nat.zero_le _, Below.refl _ _, rfl⟩
  case round =>
    obtain ⟨k, rfl, hk, hxi, HT⟩ := hrel
    by_cases hlt : k < ls.length
    · obtain ⟨ad, rfl, p0⟩ := NatsAt.get (hR.ext hxi) hlt
      have HS := Lib.hid (show (ls.take (k + 1)).all (fun b => decide (t < rfOver s (b : Int))) = ((ls.take k).all (fun b => decide (t < rfOver s (b : Int))) && decide (t < rfOver s (ls[k] : Int))) by rw [List.take_succ_eq_append_getElem hlt, List.all_append]; simp)
      go_wp2_with fail
      refine (rfOver_any (HH.out.ext (ext_trans hW hxi)) _).mono ?_
      rintro e wq ⟨rfl, rfl⟩
      obtain ⟨ov, hov⟩ : ∃ ov, ov = rfOver s (ls[k] : Int) := ⟨_, rfl⟩
      rw [← hov] at HS ⊢
      clear p0
      by_cases ht : ov ≤ t
      · have HF : Hid (rdR (mat rs) s lev t = false) := by
          show _ = _
          rw [HR.out, ← Bool.not_eq_true, List.all_eq_true]
          intro hall
          have := hall _ (List.getElem_mem hlt)
          simp only [decide_eq_true_eq] at this
          omega
        clear hov
        go_wp2_with fail
        go_ret
        exact ⟨by rw [HF.out]; rfl, ext_trans hW hxi⟩
      · clear hov
        go_wp2_with fail
        go_roundw
        case rel => exact ⟨k + 1, by go_num, hlt, hxi, by show _ = _; rw [HS.out, HT.out]; simp; omega⟩
        case measure => simp [intOf]; omega
    · obtain rfl : k = ls.length := by omega
      go_wp2
      go_ret
      exact ⟨by rw [HR.out, ← HT.out, List.take_length]; rfl, ext_trans hW hxi⟩

def ofRp (t : Int) (x : It) : Bool := decide (x.turn = t) && !x.shut
def ofR (ms : Mat) (s : RfSt) (t : Int) : List It := if s.first ≤ t then (lorder ms).flatMap fun a => (s.came a).filter (ofRp t) else []
def RfOfPost (w : World) (B : Nat) (ms : Mat) (s : RfSt) (t : Int) (e : Ending) (w' : World) : Prop :=
  ∃ v zs, e = .returned v ∧ Own elIv w' w.heap.size v zs ∧ its zs = ofR ms s t ∧ (∀ z ∈ zs, IvOk w' B z) ∧ Ext w w'
set_option maxRecDepth 100000 in
set_option maxHeartbeats 8000000 in
theorem rfOf_any (h : RfAt w B A c rs lev r s) (t : Int) (hl : rs.length ≤ 9223372036854775807) :
    Calls Try.prog 86 #[.pointer (some ⟨r.g, 0, none⟩), .int .i64 t] w (RfOfPost w B (mat rs) s t) := by
  have hB := h.base_le
  have c0 := h.blk.cell 0
  have c9 := h.blk.cell 9
  rw [h.lat] at c0
  rw [h.firc] at c9
  have HH := Lib.hid h
  clear h
  go_enter Try.func86, Try.ntmps86
  go_wp2_with fail
  refine (refOrder_any A c rs _ _ HH.out.mat hl).mono ?_
  rintro e w1 ⟨v, rfl, hown, x1⟩
  obtain ⟨ls, hls⟩ : ∃ ls, ls = lorder (mat rs) := ⟨_, rfl⟩
  have hln : ls.length ≤ 6 := by rw [hls, (order_taken _).2]; exact levels_le _
  have h6 : ∀ k (hk : k < ls.length), ls[k] < 6 := by
    subst hls
    intro k hk
    have := (order_taken (mat rs)).1.2 _ (List.getElem_mem hk)
    have := levels_le (mat rs)
    omega
  have H6 := Lib.hid h6
  rw [← hls] at hown
  have HL := Lib.hid hls
  clear hls h6
  obtain ⟨Ab, cb, rfl⟩ := hown.form
  have hRN : NatsAt w1 w1.heap.size Ab ls := hown.rows
  clear c0 hown
  replace c9 := ext_cell x1 c9
  by_cases hf : s.first ≤ t
  · go_wp2_with fail
    go_loopw [5, 7] (fun o i wr => ∃ (k : Nat) (zs : List Iv), i = .int .i64 k ∧ k ≤ ls.length ∧ Ext w1 wr ∧ Own elIv wr w1.heap.size o zs ∧ zs.length ≤ k * 1000000 ∧ (∀ z ∈ zs, IvOk wr B z) ∧ Hid (its zs = (ls.take k).flatMap fun a => (s.came a).filter (ofRp t))) (fun _ i _ => ls.length - (intOf i).toNat)
    case atStart => exact ⟨0, [], rfl, Nat.zero_le _, Below.refl _ _, Own.nil _ _, Nat.zero_le _, by simp, rfl⟩
    case round =>
      obtain ⟨k, zs, rfl, hk, hxi, hown, hzl, hzs, HT⟩ := hrel
      obtain ⟨wo, rfl⟩ : ∃ wo : World, wo = wr := ⟨_, rfl⟩
      obtain ⟨Ao, co, rfl⟩ := hown.form
      have q9 := ext_cell hxi c9
      by_cases hlt : k < ls.length
      · have HTK := Lib.hid (show ((ls.take (k + 1)).flatMap fun a => (s.came a).filter (ofRp t)) = ((ls.take k).flatMap fun a => (s.came a).filter (ofRp t)) ++ (s.came ls[k]).filter (ofRp t) by rw [List.take_succ_eq_append_getElem hlt, List.flatMap_append]; simp)
        have hl6 := H6.out k hlt
        obtain ⟨ad, rfl, p0⟩ := NatsAt.get hRN hlt
        obtain ⟨lk, hlk⟩ : ∃ lk, lk = ls[k] := ⟨_, rfl⟩
        rw [← hlk] at HTK hl6 p0
        have hh := HH.out.ext x1
        obtain ⟨ys, y1, y2, y3⟩ := hh.cames lk hl6
        obtain ⟨Ay, cy, hv⟩ := y1.form
        have g0 := hh.blk.cell (2 + lk)
        rw [hh.toc lk hl6, hv] at g0
        rw [hv] at y1
        have hR : RowsIv w1 B Ay ys := y1.rows (B := B)
        have hys : Hid (its ys = s.came lk) := y2
        have hyl : ys.length ≤ 1000000 := by rw [← its_length, y2]; exact hh.fewc lk hl6
        have HYOK := Lib.hid y3
        clear y1 y2 y3 hv hh hlk
        have p0' := ext_cell hxi p0
        have g0' := ext_cell hxi g0
        go_wp2_with fail
        clear p0' g0' q9
        go_loopw [5, 8] (fun o i wi => ∃ (j : Nat) (zs' : List Iv), i = .int .i64 j ∧ j ≤ ys.length ∧ Ext w1 wi ∧ Own elIv wi w1.heap.size o zs' ∧ zs'.length ≤ k * 1000000 + j ∧ (∀ z ∈ zs', IvOk wi B z) ∧ Hid (its zs' = its zs ++ ((its ys).take j).filter (ofRp t))) (fun _ i _ => ys.length - (intOf i).toNat)
        case atStart => exact ⟨0, zs, rfl, Nat.zero_le _, hxi, hown, Nat.le_trans hzl (Nat.le_add_right _ _), hzs, by show _ = _; simp⟩
        case round =>
          clear hown hzs hzl
          obtain ⟨j, zs', rfl, hj, hxj, hown', hzl', hzs', HT'⟩ := hrel
          obtain ⟨Ai, ci, rfl⟩ := hown'.form
          have f0 := ext_cell hxj p0
          have f1 := ext_cell hxj g0
          have z0 := fun x' (hx : Ext wr x') => ext_cell hx f0
          have z1 := fun x' (hx : Ext wr x') => ext_cell hx f1
          clear f0 f1
          by_cases hlt' : j < ys.length
          · go_upto_region 7 with fail
            refine wp_region_planH3 (.reads 0 (.reads 1 (.reads 2 (.reads 3 (.reads 4 (.reads 5 (.reads 6 (.reads 7 (.reads 8 (.reads 9 (.reads 10 (.reads 11 (.done))))))))))))) (by kernel_rfl) (by kernel_rfl) (fun x' => Ext wr x') (ext_drewN wr 1) (fun ops HOPS => ?_)
            (refine segH_pure _ _ _ _ _ _ (hid_get HOPS 0 _ rfl) rfl wanted_none (fun _ _ _ _ h => h) ?_; intro K hK; go_big_quiet_op; go_big_quiet_on)
            (refine segH_pure _ _ _ _ _ _ (hid_get HOPS 1 _ rfl) rfl wanted_none (fun _ _ _ _ h => h) ?_; intro K hK; go_big_quiet_op; go_big_quiet_on)
            (refine segH_pure _ _ _ _ _ _ (hid_get HOPS 2 _ rfl) rfl wanted_none (fun _ _ _ _ h => h) ?_; intro K hK; go_big_quiet_op; go_big_quiet_on)
            (refine segH_pure _ _ _ _ _ _ (hid_get HOPS 3 _ rfl) rfl wanted_none (fun _ _ _ _ h => h) ?_; intro K hK; go_big_quiet_op; go_big_quiet_on)
            (refine segH_pure _ _ _ _ _ _ (hid_get HOPS 4 _ rfl) rfl wanted_none (fun _ _ _ _ h => h) ?_; intro K hK; go_big_quiet_op; go_big_quiet_on)
            (refine segH_load _ _ _ _ _ _ _ _ _ (hid_get HOPS 5 _ rfl) wanted_none rfl (fun _ _ _ _ h => h) (fun y hy => by go_simp; try with_reducible rfl) ?_; simp only [Act.put, List.setIfInBounds_toArray, List.set_cons_zero, List.set_cons_succ])
            (refine segH_nil _ _ _ _ _ _ _ (hid_get HOPS 6 _ rfl) wanted_none rfl (fun _ _ _ _ h => h) ?_; simp only [Act.put, List.setIfInBounds_toArray, List.set_cons_zero, List.set_cons_succ])
            (refine segH_pure _ _ _ _ _ _ (hid_get HOPS 7 _ rfl) rfl wanted_none (fun _ _ _ _ h => h) ?_; intro K hK; go_big_quiet_op; go_big_quiet_on)
            (refine segH_pure _ _ _ _ _ _ (hid_get HOPS 8 _ rfl) rfl wanted_none (fun _ _ _ _ h => h) ?_; intro K hK; go_big_quiet_op; go_big_quiet_on)
            (refine segH_load _ _ _ _ _ _ _ _ _ (hid_get HOPS 9 _ rfl) wanted_none rfl (fun _ _ _ _ h => h) (fun y hy => by go_simp; try with_reducible rfl) ?_; simp only [Act.put, List.setIfInBounds_toArray, List.set_cons_zero, List.set_cons_succ])
            (refine segH_pure _ _ _ _ _ _ (hid_get HOPS 10 _ rfl) rfl wanted_none (fun _ _ _ _ h => h) ?_; intro K hK; go_big_quiet_op; go_big_quiet_on)
            (refine segH_pure _ _ _ _ _ _ (hid_get HOPS 11 _ rfl) rfl wanted_none (fun _ _ _ _ h => h) ?_; intro K hK; go_big_quiet_op; go_big_quiet_on)
            refine seg_done ?_
            clear HOPS
            obtain ⟨W1, hW1⟩ : ∃ W1, W1 = wr.drew := ⟨_, rfl⟩
            have xx : Ext wr W1 := by rw [hW1]; exact ext_drewN wr 1
            rw [← hW1]
            clear hW1
            have hxW : Ext w1 W1 := ext_trans hxj xx
            obtain ⟨ad', hA0, p0', p1', p2', p3', p4'⟩ := RowsIv.get (RowsAt.ext hR hxW) hlt'
            have e0 : Ay = some ad' := hA0
            subst e0
            have hix := (HYOK.out _ (List.getElem_mem hlt')).ext hxW
            have HTJ : Hid (((its ys).take (j + 1)).filter (ofRp t) = ((its ys).take j).filter (ofRp t) ++ [ys[j].it].filter (ofRp t)) := by
              show _ = _
              have e : (its ys)[j]? = some ys[j].it := by simp [its, List.getElem?_eq_getElem hlt']
              rw [List.take_add_one, e, List.filter_append]; rfl
            have hownW := hown'.ext xx
            have hzsW : ∀ z ∈ zs', IvOk W1 B z := fun z hz => (hzs' z hz).ext xx
            obtain ⟨y, hy⟩ : ∃ y, y = ys[j] := ⟨_, rfl⟩
            rw [← hy] at p0' p1' p2' p3' p4' hix HTJ
            clear hy hown' hzs'
            obtain ⟨⟨yl, yn, yt, ysh, yws⟩, Aw, cw⟩ := y
            dsimp only at p0' p1' p2' p3' p4'
            replace z0 := fun x' (hx : Ext W1 x') => z0 x' (ext_trans xx hx)
            replace z1 := fun x' (hx : Ext W1 x') => z1 x' (ext_trans xx hx)
            have z2 := fun x' (hx : Ext W1 x') => ext_cell hx p0'
            have z3 := fun x' (hx : Ext W1 x') => ext_cell hx p1'
            have z4 := fun x' (hx : Ext W1 x') => ext_cell hx p2'
            have z5 := fun x' (hx : Ext W1 x') => ext_cell hx p3'
            have z6 := fun x' (hx : Ext W1 x') => ext_cell hx p4'
            clear p0' p1' p2' p3' p4'
            go_upto_region 9 with fail
            refine wp_region_planH3 (.reads 0 (.reads 1 (.reads 2 (.reads 3 (.reads 4 (.reads 5 (.reads 6 (.reads 7 (.reads 8 (.reads 9 (.reads 10 (.reads 11 (.makes 12 (.turns 13 (.done))))))))))))))) (by kernel_rfl) (by kernel_rfl) (fun x' => Ext W1 x') (ext_drewN W1 1) (fun ops HOPS => ?_)
            (refine segH_pure _ _ _ _ _ _ (hid_get HOPS 0 _ rfl) rfl wanted_none (fun _ _ _ _ h => h) ?_; intro K hK; go_big_quiet_op; go_big_quiet_on)
            (refine segH_pure _ _ _ _ _ _ (hid_get HOPS 1 _ rfl) rfl wanted_none (fun _ _ _ _ h => h) ?_; intro K hK; go_big_quiet_op; go_big_quiet_on)
            (refine segH_pure _ _ _ _ _ _ (hid_get HOPS 2 _ rfl) rfl wanted_none (fun _ _ _ _ h => h) ?_; intro K hK; go_big_quiet_op; go_big_quiet_on)
            (refine segH_pure _ _ _ _ _ _ (hid_get HOPS 3 _ rfl) rfl wanted_none (fun _ _ _ _ h => h) ?_; intro K hK; go_big_quiet_op; go_big_quiet_on)
            (refine segH_load _ _ _ _ _ _ _ _ _ (hid_get HOPS 4 _ rfl) wanted_none rfl (fun _ _ _ _ h => h) (fun y hy => by go_simp; try with_reducible rfl) ?_; simp only [Act.put, List.setIfInBounds_toArray, List.set_cons_zero, List.set_cons_succ])
            (refine segH_nil _ _ _ _ _ _ _ (hid_get HOPS 5 _ rfl) wanted_none rfl (fun _ _ _ _ h => h) ?_; simp only [Act.put, List.setIfInBounds_toArray, List.set_cons_zero, List.set_cons_succ])
            (refine segH_pure _ _ _ _ _ _ (hid_get HOPS 6 _ rfl) rfl wanted_none (fun _ _ _ _ h => h) ?_; intro K hK; go_big_quiet_op; go_big_quiet_on)
            (refine segH_pure _ _ _ _ _ _ (hid_get HOPS 7 _ rfl) rfl wanted_none (fun _ _ _ _ h => h) ?_; intro K hK; go_big_quiet_op; go_big_quiet_on)
            (refine segH_load _ _ _ _ _ _ _ _ _ (hid_get HOPS 8 _ rfl) wanted_none rfl (fun _ _ _ _ h => h) (fun y hy => by go_simp; try with_reducible rfl) ?_; simp only [Act.put, List.setIfInBounds_toArray, List.set_cons_zero, List.set_cons_succ])
            (refine segH_pure _ _ _ _ _ _ (hid_get HOPS 9 _ rfl) rfl wanted_none (fun _ _ _ _ h => h) ?_; intro K hK; go_big_quiet_op; go_big_quiet_on)
            (refine segH_pure _ _ _ _ _ _ (hid_get HOPS 10 _ rfl) rfl wanted_none (fun _ _ _ _ h => h) ?_; intro K hK; go_big_quiet_op; go_big_quiet_on)
            (refine segH_load _ _ _ _ _ _ _ _ _ (hid_get HOPS 11 _ rfl) wanted_none rfl (fun _ _ _ _ h => h) (fun y hy => by go_simp; try with_reducible rfl) ?_; simp only [Act.put, List.setIfInBounds_toArray, List.set_cons_zero, List.set_cons_succ])
            refine segH_makes _ _ _ _ _ _ (hid_get HOPS 12 _ rfl) wanted_none (fun K hK => ?_)
            go_big_op
            have xd : Ext W1 (W1.alloc (.cells #[.int .i64 0, .int .i64 0, .int .i64 0, .bool false, .slice none 0 0] 33)).drew := ext_trans (ext_alloc _ _) (ext_drewN _ 1)
            have b2 := Blk.new W1 33 #[.int .i64 0, .int .i64 0, .int .i64 0, .bool false, .slice none 0 0]
            have q0 := b2.cell 0
            have q1 := b2.cell 1
            have q2 := b2.cell 2
            have q3 := b2.cell 3
            have q4 := b2.cell 4
            have fz := b2.frozen
            simp only [List.getElem?_toArray, List.getElem?_cons_zero, List.getElem?_cons_succ] at q0 q1 q2 q3 q4
            have xe : Ext W1 (W1.alloc (.cells #[.int .i64 yl, .int .i64 yn, .int .i64 yt, .bool ysh, .slice Aw yws.length cw] 33)).drew := ext_trans (ext_alloc _ _) (ext_drewN _ 1)
            refine hK _ _ (fun x' => Ext W1 x') (by first | exact xd | exact xe) (fun _ h => h) ?_
            clear hK
            refine segH_turns _ _ _ _ _ _ (hid_get HOPS 13 _ rfl) wanted_none (fun K hK => ?_)
            go_big_op
            first
              | refine hK _ _ (fun x' => Ext W1 x') xe (fun _ h => h) ?_
              | refine hK _ _ (fun _ => True) trivial ?_
            clear hK q0 q1 q2 q3 q4 fz b2 xd
            refine seg_done ?_
            clear HOPS
            clear z0 z1 z2 z3 z4 z5 z6
            obtain ⟨V, hV⟩ : ∃ V, V = (W1.alloc (.cells #[.int .i64 yl, .int .i64 yn, .int .i64 yt, .bool ysh, .slice Aw yws.length cw] 33)).drew := ⟨_, rfl⟩
            have bV : Blk V W1.heap.size 33 #[.int .i64 yl, .int .i64 yn, .int .i64 yt, .bool ysh, .slice Aw yws.length cw] := by rw [hV]; exact (Blk.new W1 33 _).ext (ext_drewN _ 1)
            rw [← hV] at xe ⊢
            clear hV
            obtain ⟨gv, hgv⟩ : ∃ gv, gv = W1.heap.size := ⟨_, rfl⟩
            rw [← hgv] at bV ⊢
            clear hgv
            have hxV : Ext w1 V := ext_trans hxW xe
            have hownV := hownW.ext xe
            have hzsV : ∀ z ∈ zs', IvOk V B z := fun z hz => (hzsW z hz).ext xe
            have hixV := hix.ext xe
            have v0 := bV.cell 0
            have v1 := bV.cell 1
            have v2 := bV.cell 2
            have v3 := bV.cell 3
            have v4 := bV.cell 4
            simp only [List.getElem?_toArray, List.getElem?_cons_zero, List.getElem?_cons_succ] at v0 v1 v2 v3 v4
            have hszB : B ≤ w1.heap.size := Nat.le_trans hB x1.size
            have hszV : w1.heap.size ≤ V.heap.size := hxV.size
            clear hownW hzsW hix xx xe hxW bV
            by_cases h1 : yt = t
            · cases ysh
              · have HYP : Hid (((its ys).take (j + 1)).filter (ofRp t) = ((its ys).take j).filter (ofRp t) ++ [⟨yl, yn, yt, false, yws⟩]) := by
                  show _ = _
                  rw [HTJ.out]; simp [ofRp, h1]
                have HBk := Lib.hid (rows_block (E := elIv) (B := B) (⟨⟨yl, yn, yt, false, yws⟩, Aw, cw⟩ : Iv) (Blk.new V 33 (Iv.cells ⟨⟨yl, yn, yt, false, yws⟩, Aw, cw⟩).toArray))
                have HO := Lib.hid (hownV.ext (ext_alloc V (.cells (Iv.cells ⟨⟨yl, yn, yt, false, yws⟩, Aw, cw⟩).toArray 33)))
                have H1 := Lib.hid h1
                have hd1 : (yt == t) = true := by simp [h1]
                clear h1 hownV
                have hx2 : Ext V (V.alloc (.cells (Iv.cells ⟨⟨yl, yn, yt, false, yws⟩, Aw, cw⟩).toArray 33)) := ext_alloc _ _
                have hsz2 := hx2.size
                go_wp2_with (at_builtin; refine wpList_append elIv rfl _ _ rfl w1.heap.size (.slice Ai zs'.length ci) zs' rfl HO.out _ 1 [(⟨⟨yl, yn, yt, false, yws⟩, Aw, cw⟩ : Iv)] rfl B HBk.out (by show _ * 56 ≤ _; simp; omega) (by simp; omega) (Nat.le_trans hszV hsz2) ?_; intro A2 c2 w3 hown3 hg3 hat3)
                have hk2 : Keeps B [33] (V.alloc (.cells (Iv.cells ⟨⟨yl, yn, yt, false, yws⟩, Aw, cw⟩).toArray 33)) w3 := HO.out.keeps hg3 hszB
                go_roundw
                case rel =>
                  refine ⟨j + 1, zs' ++ [⟨⟨yl, yn, yt, false, yws⟩, Aw, cw⟩], by go_num, hlt', ?_, by simpa using hown3, by simp; omega, ?_, ?_⟩
                  · exact (below_ext hxV (Nat.le_refl _) hx2).grown hg3 (by simp; omega) (fun k hk => (HO.out.typed hk).1)
                  · intro z hz
                    rcases List.mem_append.1 hz with hz | hz
                    · exact ((hzsV z hz).ext hx2).keeps hk2 (by decide)
                    · have e1 : z = ⟨⟨yl, yn, yt, false, yws⟩, Aw, cw⟩ := by simpa using hz
                      subst e1
                      exact (hixV.ext hx2).keeps hk2 (by decide)
                  · show _ = _
                    rw [its_append, HYP.out, HT'.out]; simp [its]
                case measure => simp [intOf]; omega
              · clear hixV
                have HNP : Hid (((its ys).take (j + 1)).filter (ofRp t) = ((its ys).take j).filter (ofRp t)) := by
                  show _ = _
                  rw [HTJ.out]; simp [ofRp, h1]
                go_wp2_with fail
                go_roundw
                case rel => exact ⟨j + 1, zs', by go_num, hlt', hxV, hownV, by omega, hzsV, by show _ = _; rw [HNP.out, HT'.out]⟩
                case measure => simp [intOf]; omega
            · have hd1 : (yt == t) = false := by simp [h1]
              clear hixV
              have HNP : Hid (((its ys).take (j + 1)).filter (ofRp t) = ((its ys).take j).filter (ofRp t)) := by
                show _ = _
                rw [HTJ.out]; simp [ofRp, h1]
              go_wp2_with fail
              go_roundw
              case rel => exact ⟨j + 1, zs', by go_num, hlt', hxV, hownV, by omega, hzsV, by show _ = _; rw [HNP.out, HT'.out]⟩
              case measure => simp [intOf]; omega
          · obtain rfl : j = ys.length := by omega
            have HF : Hid (its zs' = (ls.take (k + 1)).flatMap fun a => (s.came a).filter (ofRp t)) := by
              show _ = _
              rw [HT'.out, HTK.out, ← HT.out, ← hys.out, List.take_of_length_le (by rw [its_length]; exact Nat.le_refl _)]
            clear hR HYOK
            go_upto_region 7 with fail
            refine wp_region_planH3 (.reads 0 (.reads 1 (.reads 2 (.reads 3 (.reads 4 (.reads 5 (.reads 6 (.reads 7 (.reads 8 (.reads 9 (.reads 10 (.reads 11 (.done))))))))))))) (by kernel_rfl) (by kernel_rfl) (fun x' => Ext wr x') (ext_drewN wr 1) (fun ops HOPS => ?_)
            (refine segH_pure _ _ _ _ _ _ (hid_get HOPS 0 _ rfl) rfl wanted_none (fun _ _ _ _ h => h) ?_; intro K hK; go_big_quiet_op; go_big_quiet_on)
            (refine segH_pure _ _ _ _ _ _ (hid_get HOPS 1 _ rfl) rfl wanted_none (fun _ _ _ _ h => h) ?_; intro K hK; go_big_quiet_op; go_big_quiet_on)
            (refine segH_pure _ _ _ _ _ _ (hid_get HOPS 2 _ rfl) rfl wanted_none (fun _ _ _ _ h => h) ?_; intro K hK; go_big_quiet_op; go_big_quiet_on)
            (refine segH_pure _ _ _ _ _ _ (hid_get HOPS 3 _ rfl) rfl wanted_none (fun _ _ _ _ h => h) ?_; intro K hK; go_big_quiet_op; go_big_quiet_on)
            (refine segH_pure _ _ _ _ _ _ (hid_get HOPS 4 _ rfl) rfl wanted_none (fun _ _ _ _ h => h) ?_; intro K hK; go_big_quiet_op; go_big_quiet_on)
            (refine segH_load _ _ _ _ _ _ _ _ _ (hid_get HOPS 5 _ rfl) wanted_none rfl (fun _ _ _ _ h => h) (fun y hy => by go_simp; try with_reducible rfl) ?_; simp only [Act.put, List.setIfInBounds_toArray, List.set_cons_zero, List.set_cons_succ])
            (refine segH_nil _ _ _ _ _ _ _ (hid_get HOPS 6 _ rfl) wanted_none rfl (fun _ _ _ _ h => h) ?_; simp only [Act.put, List.setIfInBounds_toArray, List.set_cons_zero, List.set_cons_succ])
            (refine segH_pure _ _ _ _ _ _ (hid_get HOPS 7 _ rfl) rfl wanted_none (fun _ _ _ _ h => h) ?_; intro K hK; go_big_quiet_op; go_big_quiet_on)
            (refine segH_pure _ _ _ _ _ _ (hid_get HOPS 8 _ rfl) rfl wanted_none (fun _ _ _ _ h => h) ?_; intro K hK; go_big_quiet_op; go_big_quiet_on)
            (refine segH_load _ _ _ _ _ _ _ _ _ (hid_get HOPS 9 _ rfl) wanted_none rfl (fun _ _ _ _ h => h) (fun y hy => by go_simp; try with_reducible rfl) ?_; simp only [Act.put, List.setIfInBounds_toArray, List.set_cons_zero, List.set_cons_succ])
            (refine segH_pure _ _ _ _ _ _ (hid_get HOPS 10 _ rfl) rfl wanted_none (fun _ _ _ _ h => h) ?_; intro K hK; go_big_quiet_op; go_big_quiet_on)
            (refine segH_pure _ _ _ _ _ _ (hid_get HOPS 11 _ rfl) rfl wanted_none (fun _ _ _ _ h => h) ?_; intro K hK; go_big_quiet_op; go_big_quiet_on)
            refine seg_done ?_
            clear HOPS
            clear z0 z1
            have hxX : Ext w1 wr.drew := ext_trans hxj (ext_drewN wr 1)
            have hownX := hown'.ext (ext_drewN wr 1)
            have hzsX : ∀ z ∈ zs', IvOk wr.drew B z := fun z hz => (hzs' z hz).ext (ext_drewN wr 1)
            clear hown' hzs'
            go_wp2_with fail
            go_roundw
            case rel => exact ⟨k + 1, zs', by go_num, hlt, hxX, hownX, by omega, hzsX, HF⟩
            case measure => simp [intOf]; omega
      · obtain rfl : k = ls.length := by omega
        have HF : Hid (its zs = ofR (mat rs) s t) := by
          show _ = _
          unfold ofR
          rw [if_pos hf, HT.out, List.take_length, HL.out]
        go_wp2
        go_ret
        exact ⟨_, zs, rfl, hown.le x1.size, HF.out, hzs, ext_trans x1 hxi⟩
  · have HF : Hid (ofR (mat rs) s t = []) := by
      show _ = _
      unfold ofR
      rw [if_neg hf]
    by_cases h0 : 0 < ls.length
    · go_wp2_with fail
      go_loopw [5, 7] (fun o i wr => o = .slice none 0 0 ∧ i = .int .i64 0 ∧ w1 = wr) (fun _ _ _ => 0)
      case atStart => exact ⟨rfl, rfl, rfl⟩
      case round =>
        obtain ⟨rfl, rfl, rfl⟩ := hrel
        go_wp2_with fail
        go_ret
        exact ⟨_, [], rfl, Own.nil _ _, by rw [HF.out]; rfl, by simp, x1⟩
    · go_wp2_with fail
      go_loopw [5, 7] (fun o i wr => o = .slice none 0 0 ∧ i = .int .i64 0 ∧ w1 = wr) (fun _ _ _ => 0)
      case atStart => exact ⟨rfl, rfl, rfl⟩
      case round =>
        obtain ⟨rfl, rfl, rfl⟩ := hrel
        go_wp2_with fail
        go_ret
        exact ⟨_, [], rfl, Own.nil _ _, by rw [HF.out]; rfl, by simp, x1⟩
end
end Go.Proofs.Ytdknkbpgkkakhaa
