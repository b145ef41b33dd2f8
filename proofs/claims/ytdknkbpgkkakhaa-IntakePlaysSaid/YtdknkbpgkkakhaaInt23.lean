/- Layer 20: the document's Put. -/
import Derived.Test.YtdknkbpgkkakhaaInt22
namespace Go.Proofs.Ytdknkbpgkkakhaa
open Go.RowKit Go.Maps

section
variable {w w' w1 : World} {B : Nat} {A : Option Addr} {c : Nat} {rs : List Rw} {lev : Int} {r : RfMem} {s : RfSt}
set_option maxRecDepth 100000 in
set_option maxHeartbeats 8000000 in
theorem rfPut_any (h : RfAt w B A c rs lev r s) (x : Iv) (hx : IvOk w B x) (hi : RfInv s) (hl : rs.length ≤ 9223372036854775807) :
    Calls Try.prog 81 #[.pointer (some ⟨r.g, 0, none⟩), .agg #[.int .i64 x.it.level, .int .i64 x.it.n, .int .i64 x.it.turn, .bool x.it.shut, .slice x.A x.it.ws.length x.c]] w (RfPutPost w B A c rs lev r s x.it) := by
  obtain ⟨⟨level, n, turn, shut, ws⟩, Ax, cx⟩ := x
  dsimp only
  have hB := h.base_le
  obtain ⟨W, hW⟩ : ∃ W, W = w.alloc (.cells #[.int .i64 level, .int .i64 n, .int .i64 turn, .bool shut, .slice Ax ws.length cx] 33) := ⟨_, rfl⟩
  have x0 : Ext w W := by rw [hW]; exact ext_alloc _ _
  have b0 : Blk W w.heap.size 33 #[.int .i64 level, .int .i64 n, .int .i64 turn, .bool shut, .slice Ax ws.length cx] := by rw [hW]; exact Blk.new _ _ _
  have HI := h.ext x0
  have hgo := RfGo.of_ext x0 hB r
  have hx1 := hx.ext x0
  have HW : Hid (w.alloc (.cells #[.int .i64 level, .int .i64 n, .int .i64 turn, .bool shut, .slice Ax ws.length cx] 33) = W) := hW.symm
  have hown : Hid (¬ RfOwn r w.heap.size) := fun e => by have := (h.own_lt e).2; omega
  have HINV := Lib.hid hi
  clear hW h hx x0 hi
  go_enter Try.func81, Try.ntmps81
  go_upto_region 1 with fail
  rw [HW.out]
  clear HW
  obtain ⟨gx, hgx⟩ : ∃ gx, gx = w.heap.size := ⟨_, rfl⟩
  rw [← hgx] at b0 hown ⊢
  have HGX : w.heap.size ≤ gx ∧ gx ≤ w.heap.size := ⟨Nat.le_of_eq hgx.symm, Nat.le_of_eq hgx⟩
  clear hgx
  have r0 := b0.cell 0
  have r1 := b0.cell 1
  have r2 := b0.cell 2
  have r3 := b0.cell 3
  have r4 := b0.cell 4
  simp only [List.getElem?_toArray, List.getElem?_cons_zero, List.getElem?_cons_succ] at r0 r1 r2 r3 r4
  go_wp2_with fail
  refine (refItemIs_any (⟨level, n, turn, shut, ws⟩ : It) _ _ _ B hx1.at_ hx1.wr hx1.le).mono ?_
  rintro e w1 ⟨rfl, x1⟩
  clear r0 r1 r2 r3 r4
  replace b0 := b0.ext x1
  replace HI := HI.ext x1
  replace hgo := hgo.ext hB x1
  replace hx1 := hx1.ext x1
  clear x1 W
  rename World => W
  cases hxi : It.is ⟨level, n, turn, shut, ws⟩
  · have HF : Hid (RfPutPost w B A c rs lev r s ⟨level, n, turn, shut, ws⟩ (.returned (.tuple #[.slice none 0 0, .int .i64 (10 : Int)])) W) := rfPutPost_nil (n := 10) HI hgo (by unfold putRN; rw [if_neg (by rw [hxi]; exact Bool.false_ne_true)]) (by unfold putRSt; rw [if_neg (by rw [hxi]; exact Bool.false_ne_true)])
    clear HI hgo b0 hx1 hown HINV
    go_wp2
    go_ret2
    exact HF.out
  obtain ⟨a, ha, rfl⟩ : ∃ a : Nat, a < 6 ∧ level = (a : Int) := by
    have := (It.is_nums hxi).1.1
    dsimp only at this
    exact ⟨level.toNat, by omega, by omega⟩
  have HXI := Lib.hid hxi
  have HNN := Lib.hid (It.is_nums hxi)
  have HN : Hid (putRN (mat rs) lev s ⟨a, n, turn, shut, ws⟩ = if labove (mat rs) lev a = true then if n ≤ rfHave s a ∨ 0 ≤ hIx s.held a n then 0 else if rfHave s a + 1 < n then (if s.held.length < 40 then 0 else 25) else if turn = rfOver s a then 0 else 22 else 20) := by
    show _ = _
    unfold putRN
    rw [if_pos hxi]
  have HS : Hid (putRSt (mat rs) lev s ⟨a, n, turn, shut, ws⟩ = if labove (mat rs) lev a = true then if n ≤ rfHave s a ∨ 0 ≤ hIx s.held a n then (s, []) else if rfHave s a + 1 < n then (if s.held.length < 40 then (rfHold s (s.held ++ [⟨a, n, turn, shut, ws⟩]), []) else (s, [])) else if turn = rfOver s a then ((rowR s.held.length (rfCame s a ⟨a, n, turn, shut, ws⟩) a).1, (⟨a, n, turn, shut, ws⟩ : It) :: (rowR s.held.length (rfCame s a ⟨a, n, turn, shut, ws⟩) a).2) else (s, []) else (s, [])) := by
    show _ = _
    unfold putRSt
    rw [if_pos hxi]; rfl
  clear hxi
  go_upto_region 3 with fail
  have f0 := b0.cell 0
  have f1 := HI.blk.cell 0
  have f2 := HI.blk.cell 1
  rw [HI.lat] at f1
  rw [HI.lev_] at f2
  simp only [List.getElem?_toArray, List.getElem?_cons_zero, List.getElem?_cons_succ] at f0
  have y0 := fun x' (hx : Ext W x') => ext_cell hx f0
  have y1 := fun x' (hx : Ext W x') => ext_cell hx f1
  have y2 := fun x' (hx : Ext W x') => ext_cell hx f2
  clear f0 f1 f2
  refine wp_region_planH3 (.reads 0 (.reads 1 (.reads 2 (.reads 3 (.reads 4 (.reads 5 (.reads 6 (.reads 7 (.reads 8 (.reads 9 (.makes 10 (.reads 11 (.reads 12 (.done)))))))))))))) (by kernel_rfl) (by kernel_rfl) (fun x' => Ext W x') (ext_drewN W 1) (fun ops HOPS => ?_)
  (refine segH_pure _ _ _ _ _ _ (hid_get HOPS 0 _ rfl) rfl wanted_none (fun _ _ _ _ h => h) ?_; intro K hK; go_big_quiet_op; go_big_quiet_on)
  (refine segH_nil _ _ _ _ _ _ _ (hid_get HOPS 1 _ rfl) wanted_none rfl (fun _ _ _ _ h => h) ?_; simp only [Act.put, List.setIfInBounds_toArray, List.set_cons_zero, List.set_cons_succ])
  (refine segH_pure _ _ _ _ _ _ (hid_get HOPS 2 _ rfl) rfl wanted_none (fun _ _ _ _ h => h) ?_; intro K hK; go_big_quiet_op; go_big_quiet_on)
  (refine segH_load _ _ _ _ _ _ _ _ _ (hid_get HOPS 3 _ rfl) wanted_none rfl (fun _ _ _ _ h => h) (fun y hy => by go_simp; try with_reducible rfl) ?_; simp only [Act.put, List.setIfInBounds_toArray, List.set_cons_zero, List.set_cons_succ])
  (refine segH_pure _ _ _ _ _ _ (hid_get HOPS 4 _ rfl) rfl wanted_none (fun _ _ _ _ h => h) ?_; intro K hK; go_big_quiet_op; go_big_quiet_on)
  (refine segH_nil _ _ _ _ _ _ _ (hid_get HOPS 5 _ rfl) wanted_none rfl (fun _ _ _ _ h => h) ?_; simp only [Act.put, List.setIfInBounds_toArray, List.set_cons_zero, List.set_cons_succ])
  (refine segH_pure _ _ _ _ _ _ (hid_get HOPS 6 _ rfl) rfl wanted_none (fun _ _ _ _ h => h) ?_; intro K hK; go_big_quiet_op; go_big_quiet_on)
  (refine segH_load _ _ _ _ _ _ _ _ _ (hid_get HOPS 7 _ rfl) wanted_none rfl (fun _ _ _ _ h => h) (fun y hy => by go_simp; try with_reducible rfl) ?_; simp only [Act.put, List.setIfInBounds_toArray, List.set_cons_zero, List.set_cons_succ])
  (refine segH_pure _ _ _ _ _ _ (hid_get HOPS 8 _ rfl) rfl wanted_none (fun _ _ _ _ h => h) ?_; intro K hK; go_big_quiet_op; go_big_quiet_on)
  (refine segH_load _ _ _ _ _ _ _ _ _ (hid_get HOPS 9 _ rfl) wanted_none rfl (fun _ _ _ _ h => h) (fun y hy => by go_simp; try with_reducible rfl) ?_; simp only [Act.put, List.setIfInBounds_toArray, List.set_cons_zero, List.set_cons_succ])
  refine segH_makes _ _ _ _ _ _ (hid_get HOPS 10 _ rfl) wanted_none (fun K hK => ?_)
  go_big_op
  refine (refAbove_any A c rs lev (a : Int) _ B (HI.mat.ext (ext_drewN W 1)) hl).mono ?_
  rintro e w1 ⟨rfl, x1⟩
  have xx : Ext W w1 := ext_trans (ext_drewN W 1) x1
  refine hK _ _ (fun x' => Ext W x') xx (fun _ h => h) ?_
  clear hK
  (refine segH_pure _ _ _ _ _ _ (hid_get HOPS 11 _ rfl) rfl wanted_none (fun _ _ _ _ h => h) ?_; intro K hK; go_big_quiet_op; go_big_quiet_on)
  (refine segH_pure _ _ _ _ _ _ (hid_get HOPS 12 _ rfl) rfl wanted_none (fun _ _ _ _ h => h) ?_; intro K hK; go_big_quiet_op; go_big_quiet_on)
  refine seg_done ?_
  clear HOPS
  clear y0 y1 y2 x1
  replace b0 := b0.ext xx
  replace HI := HI.ext xx
  replace hgo := hgo.ext hB xx
  replace hx1 := hx1.ext xx
  clear xx W
  rename World => W
  cases hab : labove (mat rs) lev (a : Int)
  · have HF : Hid (RfPutPost w B A c rs lev r s ⟨a, n, turn, shut, ws⟩ (.returned (.tuple #[.slice none 0 0, .int .i64 (20 : Int)])) W) := rfPutPost_nil (n := 20) HI hgo (by rw [HN.out, hab]; rfl) (by rw [HS.out, hab]; rfl)
    clear HI hgo b0 hx1 hown HINV
    go_wp2
    go_ret2
    exact HF.out
  rw [hab, if_pos rfl] at HN
  rw [hab, if_pos rfl] at HS
  clear hab
  go_upto_region 5 with fail
  obtain ⟨hv, hhv⟩ : ∃ hv, hv = rfHave s a := ⟨_, rfl⟩
  have HHV : Hid (rfHave s a = hv) := hhv.symm
  have HHL : Hid (hv = ((s.came a).length : Int)) := by
    show _ = _
    rw [hhv, rfHave, if_pos (by omega)]; rfl
  rw [← hhv] at HN HS
  have hnum : 0 ≤ hv ∧ hv ≤ 1000000 := by rw [HHL.out]; have := HI.fewc a ha; omega
  have hfw : s.held.length ≤ 1000000 := HI.fewh
  clear hhv
  have f0 := b0.cell 0
  have f1 := b0.cell 1
  simp only [List.getElem?_toArray, List.getElem?_cons_zero, List.getElem?_cons_succ] at f0 f1
  have y0 := fun x' (hx : Ext W x') => ext_cell hx f0
  have y1 := fun x' (hx : Ext W x') => ext_cell hx f1
  clear f0 f1
  by_cases hn1 : n ≤ hv
  · have HF : Hid (RfPutPost w B A c rs lev r s ⟨a, n, turn, shut, ws⟩ (.returned (.tuple #[.slice none 0 0, .int .i64 (0 : Int)])) W.drew) := rfPutPost_nil (n := 0) (HI.ext (ext_drewN W 1)) (hgo.ext hB (ext_drewN W 1)) (by rw [HN.out, if_pos (.inl (by omega))]) (by rw [HS.out, if_pos (.inl (by omega))])
    have HII := Lib.hid HI
    clear HI hgo b0 hx1 hown HINV
    refine wp_region_planH3 (.reads 0 (.reads 1 (.reads 2 (.reads 3 (.reads 4 (.makes 5 (.reads 6 (.reads 7 (.reads 8 (.reads 9 (.reads 10 (.reads 11 (.reads 12 (.makes 13 (.reads 14 (.reads 15 (.reads 16 (.done)))))))))))))))))) (by kernel_rfl) (by kernel_rfl) (fun x' => Ext W x') (ext_drewN W 1) (fun ops HOPS => ?_)
    (refine segH_pure _ _ _ _ _ _ (hid_get HOPS 0 _ rfl) rfl wanted_none (fun _ _ _ _ h => h) ?_; intro K hK; go_big_quiet_op; go_big_quiet_on)
    (refine segH_load _ _ _ _ _ _ _ _ _ (hid_get HOPS 1 _ rfl) wanted_none rfl (fun _ _ _ _ h => h) (fun y hy => by go_simp; try with_reducible rfl) ?_; simp only [Act.put, List.setIfInBounds_toArray, List.set_cons_zero, List.set_cons_succ])
    (refine segH_pure _ _ _ _ _ _ (hid_get HOPS 2 _ rfl) rfl wanted_none (fun _ _ _ _ h => h) ?_; intro K hK; go_big_quiet_op; go_big_quiet_on)
    (refine segH_pure _ _ _ _ _ _ (hid_get HOPS 3 _ rfl) rfl wanted_none (fun _ _ _ _ h => h) ?_; intro K hK; go_big_quiet_op; go_big_quiet_on)
    (refine segH_load _ _ _ _ _ _ _ _ _ (hid_get HOPS 4 _ rfl) wanted_none rfl (fun _ _ _ _ h => h) (fun y hy => by go_simp; try with_reducible rfl) ?_; simp only [Act.put, List.setIfInBounds_toArray, List.set_cons_zero, List.set_cons_succ])
    refine segH_makes _ _ _ _ _ _ (hid_get HOPS 5 _ rfl) wanted_none (fun K hK => ?_)
    go_big_op
    refine (rfHave_any (HII.out.ext (ext_drewN W 1)) (a : Int)).mono ?_
    rintro e w1 ⟨rfl, rfl⟩
    rw [HHV.out]
    refine hK _ _ (fun x' => Ext W x') (ext_drewN W 1) (fun _ h => h) ?_
    clear hK
    (refine segH_pure _ _ _ _ _ _ (hid_get HOPS 6 _ rfl) rfl wanted_none (fun _ _ _ _ h => h) ?_; intro K hK; go_big_quiet_op; go_big_quiet_on)
    (refine segH_pure _ _ _ _ _ _ (hid_get HOPS 7 _ rfl) rfl wanted_none (fun _ _ _ _ h => h) ?_; intro K hK; go_big_quiet_op; go_big_quiet_on)
    first | (refine segH_pass _ _ _ _ _ _ (hid_get HOPS 8 _ rfl) (wanted_some (hid_get HOPS 7 _ rfl) rfl rfl rfl) (fun _ _ _ _ h => h) ?_; simp only [Act.put, List.setIfInBounds_toArray, List.set_cons_zero, List.set_cons_succ]) | (refine segH_pure _ _ _ _ _ _ (hid_get HOPS 8 _ rfl) rfl (wanted_some (hid_get HOPS 7 _ rfl) rfl rfl rfl) (fun _ _ _ _ h => h) ?_; intro K hK; go_big_quiet_op; go_big_quiet_on) | (refine segH_pass _ _ _ _ _ _ (hid_get HOPS 8 _ rfl) (wanted_gone (hid_get HOPS 7 _ rfl) rfl rfl) (fun _ _ _ _ h => h) ?_; simp only [Act.put, List.setIfInBounds_toArray, List.set_cons_zero, List.set_cons_succ])
    first | (refine segH_pass _ _ _ _ _ _ (hid_get HOPS 9 _ rfl) (wanted_some (hid_get HOPS 7 _ rfl) rfl rfl rfl) (fun _ _ _ _ h => h) ?_; simp only [Act.put, List.setIfInBounds_toArray, List.set_cons_zero, List.set_cons_succ]) | (refine segH_pure _ _ _ _ _ _ (hid_get HOPS 9 _ rfl) rfl (wanted_some (hid_get HOPS 7 _ rfl) rfl rfl rfl) (fun _ _ _ _ h => h) ?_; intro K hK; go_big_quiet_op; go_big_quiet_on) | (refine segH_pass _ _ _ _ _ _ (hid_get HOPS 9 _ rfl) (wanted_gone (hid_get HOPS 7 _ rfl) rfl rfl) (fun _ _ _ _ h => h) ?_; simp only [Act.put, List.setIfInBounds_toArray, List.set_cons_zero, List.set_cons_succ])
    first | (refine segH_pass _ _ _ _ _ _ (hid_get HOPS 10 _ rfl) (wanted_some (hid_get HOPS 7 _ rfl) rfl rfl rfl) (fun _ _ _ _ h => h) ?_; simp only [Act.put, List.setIfInBounds_toArray, List.set_cons_zero, List.set_cons_succ]) | (refine segH_load _ _ _ _ _ _ _ _ _ (hid_get HOPS 10 _ rfl) (wanted_some (hid_get HOPS 7 _ rfl) rfl rfl rfl) rfl (fun _ _ _ _ h => h) (fun y hy => by go_simp; try with_reducible rfl) ?_; simp only [Act.put, List.setIfInBounds_toArray, List.set_cons_zero, List.set_cons_succ]) | (refine segH_pass _ _ _ _ _ _ (hid_get HOPS 10 _ rfl) (wanted_gone (hid_get HOPS 7 _ rfl) rfl rfl) (fun _ _ _ _ h => h) ?_; simp only [Act.put, List.setIfInBounds_toArray, List.set_cons_zero, List.set_cons_succ])
    first | (refine segH_pass _ _ _ _ _ _ (hid_get HOPS 11 _ rfl) (wanted_some (hid_get HOPS 7 _ rfl) rfl rfl rfl) (fun _ _ _ _ h => h) ?_; simp only [Act.put, List.setIfInBounds_toArray, List.set_cons_zero, List.set_cons_succ]) | (refine segH_pure _ _ _ _ _ _ (hid_get HOPS 11 _ rfl) rfl (wanted_some (hid_get HOPS 7 _ rfl) rfl rfl rfl) (fun _ _ _ _ h => h) ?_; intro K hK; go_big_quiet_op; go_big_quiet_on) | (refine segH_pass _ _ _ _ _ _ (hid_get HOPS 11 _ rfl) (wanted_gone (hid_get HOPS 7 _ rfl) rfl rfl) (fun _ _ _ _ h => h) ?_; simp only [Act.put, List.setIfInBounds_toArray, List.set_cons_zero, List.set_cons_succ])
    first | (refine segH_pass _ _ _ _ _ _ (hid_get HOPS 12 _ rfl) (wanted_some (hid_get HOPS 7 _ rfl) rfl rfl rfl) (fun _ _ _ _ h => h) ?_; simp only [Act.put, List.setIfInBounds_toArray, List.set_cons_zero, List.set_cons_succ]) | (refine segH_load _ _ _ _ _ _ _ _ _ (hid_get HOPS 12 _ rfl) (wanted_some (hid_get HOPS 7 _ rfl) rfl rfl rfl) rfl (fun _ _ _ _ h => h) (fun y hy => by go_simp; try with_reducible rfl) ?_; simp only [Act.put, List.setIfInBounds_toArray, List.set_cons_zero, List.set_cons_succ]) | (refine segH_pass _ _ _ _ _ _ (hid_get HOPS 12 _ rfl) (wanted_gone (hid_get HOPS 7 _ rfl) rfl rfl) (fun _ _ _ _ h => h) ?_; simp only [Act.put, List.setIfInBounds_toArray, List.set_cons_zero, List.set_cons_succ])
    refine segH_makes_pass _ _ _ _ _ _ (hid_get HOPS 13 _ rfl) (by first | exact (wanted_some (hid_get HOPS 7 _ rfl) rfl rfl rfl) | exact (wanted_gone (hid_get HOPS 7 _ rfl) rfl rfl)) (ext_drewN W 1) ?_; simp only [Act.put, List.setIfInBounds_toArray, List.set_cons_zero, List.set_cons_succ]
    first | (refine segH_pass _ _ _ _ _ _ (hid_get HOPS 14 _ rfl) (wanted_some (hid_get HOPS 7 _ rfl) rfl rfl rfl) (fun _ _ _ _ h => h) ?_; simp only [Act.put, List.setIfInBounds_toArray, List.set_cons_zero, List.set_cons_succ]) | (refine segH_pure _ _ _ _ _ _ (hid_get HOPS 14 _ rfl) rfl (wanted_some (hid_get HOPS 7 _ rfl) rfl rfl rfl) (fun _ _ _ _ h => h) ?_; intro K hK; go_big_quiet_op; go_big_quiet_on) | (refine segH_pass _ _ _ _ _ _ (hid_get HOPS 14 _ rfl) (wanted_gone (hid_get HOPS 7 _ rfl) rfl rfl) (fun _ _ _ _ h => h) ?_; simp only [Act.put, List.setIfInBounds_toArray, List.set_cons_zero, List.set_cons_succ])
    (refine segH_pure _ _ _ _ _ _ (hid_get HOPS 15 _ rfl) rfl wanted_none (fun _ _ _ _ h => h) ?_; intro K hK; go_big_quiet_op; go_big_quiet_on)
    (refine segH_pure _ _ _ _ _ _ (hid_get HOPS 16 _ rfl) rfl wanted_none (fun _ _ _ _ h => h) ?_; intro K hK; go_big_quiet_op; go_big_quiet_on)
    refine seg_done ?_
    clear HOPS
    clear y0 y1
    go_wp2
    go_ret2
    exact HF.out
  obtain ⟨ix, hix⟩ : ∃ ix, ix = hIx s.held a n := ⟨_, rfl⟩
  have HIX : Hid (hIx s.held a n = ix) := hix.symm
  have hixl : -1 ≤ ix := by rw [hix]; exact hIx_lo _ _ _
  rw [← hix] at HN HS
  clear hix
  by_cases hn3 : 0 ≤ ix
  · have HF : Hid (RfPutPost w B A c rs lev r s ⟨a, n, turn, shut, ws⟩ (.returned (.tuple #[.slice none 0 0, .int .i64 (0 : Int)])) W.drew) := rfPutPost_nil (n := 0) (HI.ext (ext_drewN W 1)) (hgo.ext hB (ext_drewN W 1)) (by rw [HN.out, if_pos (.inr (by omega))]) (by rw [HS.out, if_pos (.inr (by omega))])
    have HII := Lib.hid HI
    clear HI hgo b0 hx1 hown HINV
    refine wp_region_planH3 (.reads 0 (.reads 1 (.reads 2 (.reads 3 (.reads 4 (.makes 5 (.reads 6 (.reads 7 (.reads 8 (.reads 9 (.reads 10 (.reads 11 (.reads 12 (.makes 13 (.reads 14 (.reads 15 (.reads 16 (.done)))))))))))))))))) (by kernel_rfl) (by kernel_rfl) (fun x' => Ext W x') (ext_drewN W 1) (fun ops HOPS => ?_)
    (refine segH_pure _ _ _ _ _ _ (hid_get HOPS 0 _ rfl) rfl wanted_none (fun _ _ _ _ h => h) ?_; intro K hK; go_big_quiet_op; go_big_quiet_on)
    (refine segH_load _ _ _ _ _ _ _ _ _ (hid_get HOPS 1 _ rfl) wanted_none rfl (fun _ _ _ _ h => h) (fun y hy => by go_simp; try with_reducible rfl) ?_; simp only [Act.put, List.setIfInBounds_toArray, List.set_cons_zero, List.set_cons_succ])
    (refine segH_pure _ _ _ _ _ _ (hid_get HOPS 2 _ rfl) rfl wanted_none (fun _ _ _ _ h => h) ?_; intro K hK; go_big_quiet_op; go_big_quiet_on)
    (refine segH_pure _ _ _ _ _ _ (hid_get HOPS 3 _ rfl) rfl wanted_none (fun _ _ _ _ h => h) ?_; intro K hK; go_big_quiet_op; go_big_quiet_on)
    (refine segH_load _ _ _ _ _ _ _ _ _ (hid_get HOPS 4 _ rfl) wanted_none rfl (fun _ _ _ _ h => h) (fun y hy => by go_simp; try with_reducible rfl) ?_; simp only [Act.put, List.setIfInBounds_toArray, List.set_cons_zero, List.set_cons_succ])
    refine segH_makes _ _ _ _ _ _ (hid_get HOPS 5 _ rfl) wanted_none (fun K hK => ?_)
    go_big_op
    refine (rfHave_any (HII.out.ext (ext_drewN W 1)) (a : Int)).mono ?_
    rintro e w1 ⟨rfl, rfl⟩
    rw [HHV.out]
    refine hK _ _ (fun x' => Ext W x') (ext_drewN W 1) (fun _ h => h) ?_
    clear hK
    (refine segH_pure _ _ _ _ _ _ (hid_get HOPS 6 _ rfl) rfl wanted_none (fun _ _ _ _ h => h) ?_; intro K hK; go_big_quiet_op; go_big_quiet_on)
    (refine segH_pure _ _ _ _ _ _ (hid_get HOPS 7 _ rfl) rfl wanted_none (fun _ _ _ _ h => h) ?_; intro K hK; go_big_quiet_op; go_big_quiet_on)
    first | (refine segH_pass _ _ _ _ _ _ (hid_get HOPS 8 _ rfl) (wanted_some (hid_get HOPS 7 _ rfl) rfl rfl rfl) (fun _ _ _ _ h => h) ?_; simp only [Act.put, List.setIfInBounds_toArray, List.set_cons_zero, List.set_cons_succ]) | (refine segH_pure _ _ _ _ _ _ (hid_get HOPS 8 _ rfl) rfl (wanted_some (hid_get HOPS 7 _ rfl) rfl rfl rfl) (fun _ _ _ _ h => h) ?_; intro K hK; go_big_quiet_op; go_big_quiet_on) | (refine segH_pass _ _ _ _ _ _ (hid_get HOPS 8 _ rfl) (wanted_gone (hid_get HOPS 7 _ rfl) rfl rfl) (fun _ _ _ _ h => h) ?_; simp only [Act.put, List.setIfInBounds_toArray, List.set_cons_zero, List.set_cons_succ])
    first | (refine segH_pass _ _ _ _ _ _ (hid_get HOPS 9 _ rfl) (wanted_some (hid_get HOPS 7 _ rfl) rfl rfl rfl) (fun _ _ _ _ h => h) ?_; simp only [Act.put, List.setIfInBounds_toArray, List.set_cons_zero, List.set_cons_succ]) | (refine segH_pure _ _ _ _ _ _ (hid_get HOPS 9 _ rfl) rfl (wanted_some (hid_get HOPS 7 _ rfl) rfl rfl rfl) (fun _ _ _ _ h => h) ?_; intro K hK; go_big_quiet_op; go_big_quiet_on) | (refine segH_pass _ _ _ _ _ _ (hid_get HOPS 9 _ rfl) (wanted_gone (hid_get HOPS 7 _ rfl) rfl rfl) (fun _ _ _ _ h => h) ?_; simp only [Act.put, List.setIfInBounds_toArray, List.set_cons_zero, List.set_cons_succ])
    first | (refine segH_pass _ _ _ _ _ _ (hid_get HOPS 10 _ rfl) (wanted_some (hid_get HOPS 7 _ rfl) rfl rfl rfl) (fun _ _ _ _ h => h) ?_; simp only [Act.put, List.setIfInBounds_toArray, List.set_cons_zero, List.set_cons_succ]) | (refine segH_load _ _ _ _ _ _ _ _ _ (hid_get HOPS 10 _ rfl) (wanted_some (hid_get HOPS 7 _ rfl) rfl rfl rfl) rfl (fun _ _ _ _ h => h) (fun y hy => by go_simp; try with_reducible rfl) ?_; simp only [Act.put, List.setIfInBounds_toArray, List.set_cons_zero, List.set_cons_succ]) | (refine segH_pass _ _ _ _ _ _ (hid_get HOPS 10 _ rfl) (wanted_gone (hid_get HOPS 7 _ rfl) rfl rfl) (fun _ _ _ _ h => h) ?_; simp only [Act.put, List.setIfInBounds_toArray, List.set_cons_zero, List.set_cons_succ])
    first | (refine segH_pass _ _ _ _ _ _ (hid_get HOPS 11 _ rfl) (wanted_some (hid_get HOPS 7 _ rfl) rfl rfl rfl) (fun _ _ _ _ h => h) ?_; simp only [Act.put, List.setIfInBounds_toArray, List.set_cons_zero, List.set_cons_succ]) | (refine segH_pure _ _ _ _ _ _ (hid_get HOPS 11 _ rfl) rfl (wanted_some (hid_get HOPS 7 _ rfl) rfl rfl rfl) (fun _ _ _ _ h => h) ?_; intro K hK; go_big_quiet_op; go_big_quiet_on) | (refine segH_pass _ _ _ _ _ _ (hid_get HOPS 11 _ rfl) (wanted_gone (hid_get HOPS 7 _ rfl) rfl rfl) (fun _ _ _ _ h => h) ?_; simp only [Act.put, List.setIfInBounds_toArray, List.set_cons_zero, List.set_cons_succ])
    first | (refine segH_pass _ _ _ _ _ _ (hid_get HOPS 12 _ rfl) (wanted_some (hid_get HOPS 7 _ rfl) rfl rfl rfl) (fun _ _ _ _ h => h) ?_; simp only [Act.put, List.setIfInBounds_toArray, List.set_cons_zero, List.set_cons_succ]) | (refine segH_load _ _ _ _ _ _ _ _ _ (hid_get HOPS 12 _ rfl) (wanted_some (hid_get HOPS 7 _ rfl) rfl rfl rfl) rfl (fun _ _ _ _ h => h) (fun y hy => by go_simp; try with_reducible rfl) ?_; simp only [Act.put, List.setIfInBounds_toArray, List.set_cons_zero, List.set_cons_succ]) | (refine segH_pass _ _ _ _ _ _ (hid_get HOPS 12 _ rfl) (wanted_gone (hid_get HOPS 7 _ rfl) rfl rfl) (fun _ _ _ _ h => h) ?_; simp only [Act.put, List.setIfInBounds_toArray, List.set_cons_zero, List.set_cons_succ])
    refine segH_makes _ _ _ _ _ _ (hid_get HOPS 13 _ rfl) (wanted_some (hid_get HOPS 7 _ rfl) rfl rfl rfl) (fun K hK => ?_)
    go_big_op
    refine (rfHeld_any (HII.out.ext (ext_drewN W 1)) (a : Int) n).mono ?_
    rintro e w1 ⟨rfl, rfl⟩
    rw [HIX.out]
    refine hK _ _ (fun x' => Ext W x') (ext_drewN W 1) (fun _ h => h) ?_
    clear hK
    first | (refine segH_pass _ _ _ _ _ _ (hid_get HOPS 14 _ rfl) (wanted_some (hid_get HOPS 7 _ rfl) rfl rfl rfl) (fun _ _ _ _ h => h) ?_; simp only [Act.put, List.setIfInBounds_toArray, List.set_cons_zero, List.set_cons_succ]) | (refine segH_pure _ _ _ _ _ _ (hid_get HOPS 14 _ rfl) rfl (wanted_some (hid_get HOPS 7 _ rfl) rfl rfl rfl) (fun _ _ _ _ h => h) ?_; intro K hK; go_big_quiet_op; go_big_quiet_on) | (refine segH_pass _ _ _ _ _ _ (hid_get HOPS 14 _ rfl) (wanted_gone (hid_get HOPS 7 _ rfl) rfl rfl) (fun _ _ _ _ h => h) ?_; simp only [Act.put, List.setIfInBounds_toArray, List.set_cons_zero, List.set_cons_succ])
    (refine segH_pure _ _ _ _ _ _ (hid_get HOPS 15 _ rfl) rfl wanted_none (fun _ _ _ _ h => h) ?_; intro K hK; go_big_quiet_op; go_big_quiet_on)
    (refine segH_pure _ _ _ _ _ _ (hid_get HOPS 16 _ rfl) rfl wanted_none (fun _ _ _ _ h => h) ?_; intro K hK; go_big_quiet_op; go_big_quiet_on)
    refine seg_done ?_
    clear HOPS
    clear y0 y1
    go_wp2
    go_ret2
    exact HF.out
  have hno : ¬ (n ≤ hv ∨ 0 ≤ ix) := by omega
  rw [if_neg hno] at HN HS
  clear hno
  refine wp_region_planH3 (.reads 0 (.reads 1 (.reads 2 (.reads 3 (.reads 4 (.makes 5 (.reads 6 (.reads 7 (.reads 8 (.reads 9 (.reads 10 (.reads 11 (.reads 12 (.makes 13 (.reads 14 (.reads 15 (.reads 16 (.done)))))))))))))))))) (by kernel_rfl) (by kernel_rfl) (fun x' => Ext W x') (ext_drewN W 1) (fun ops HOPS => ?_)
  (refine segH_pure _ _ _ _ _ _ (hid_get HOPS 0 _ rfl) rfl wanted_none (fun _ _ _ _ h => h) ?_; intro K hK; go_big_quiet_op; go_big_quiet_on)
  (refine segH_load _ _ _ _ _ _ _ _ _ (hid_get HOPS 1 _ rfl) wanted_none rfl (fun _ _ _ _ h => h) (fun y hy => by go_simp; try with_reducible rfl) ?_; simp only [Act.put, List.setIfInBounds_toArray, List.set_cons_zero, List.set_cons_succ])
  (refine segH_pure _ _ _ _ _ _ (hid_get HOPS 2 _ rfl) rfl wanted_none (fun _ _ _ _ h => h) ?_; intro K hK; go_big_quiet_op; go_big_quiet_on)
  (refine segH_pure _ _ _ _ _ _ (hid_get HOPS 3 _ rfl) rfl wanted_none (fun _ _ _ _ h => h) ?_; intro K hK; go_big_quiet_op; go_big_quiet_on)
  (refine segH_load _ _ _ _ _ _ _ _ _ (hid_get HOPS 4 _ rfl) wanted_none rfl (fun _ _ _ _ h => h) (fun y hy => by go_simp; try with_reducible rfl) ?_; simp only [Act.put, List.setIfInBounds_toArray, List.set_cons_zero, List.set_cons_succ])
  refine segH_makes _ _ _ _ _ _ (hid_get HOPS 5 _ rfl) wanted_none (fun K hK => ?_)
  go_big_op
  refine (rfHave_any (HI.ext (ext_drewN W 1)) (a : Int)).mono ?_
  rintro e w1 ⟨rfl, rfl⟩
  rw [HHV.out]
  refine hK _ _ (fun x' => Ext W x') (ext_drewN W 1) (fun _ h => h) ?_
  clear hK
  (refine segH_pure _ _ _ _ _ _ (hid_get HOPS 6 _ rfl) rfl wanted_none (fun _ _ _ _ h => h) ?_; intro K hK; go_big_quiet_op; go_big_quiet_on)
  (refine segH_pure _ _ _ _ _ _ (hid_get HOPS 7 _ rfl) rfl wanted_none (fun _ _ _ _ h => h) ?_; intro K hK; go_big_quiet_op; go_big_quiet_on)
  first | (refine segH_pass _ _ _ _ _ _ (hid_get HOPS 8 _ rfl) (wanted_some (hid_get HOPS 7 _ rfl) rfl rfl rfl) (fun _ _ _ _ h => h) ?_; simp only [Act.put, List.setIfInBounds_toArray, List.set_cons_zero, List.set_cons_succ]) | (refine segH_pure _ _ _ _ _ _ (hid_get HOPS 8 _ rfl) rfl (wanted_some (hid_get HOPS 7 _ rfl) rfl rfl rfl) (fun _ _ _ _ h => h) ?_; intro K hK; go_big_quiet_op; go_big_quiet_on) | (refine segH_pass _ _ _ _ _ _ (hid_get HOPS 8 _ rfl) (wanted_gone (hid_get HOPS 7 _ rfl) rfl rfl) (fun _ _ _ _ h => h) ?_; simp only [Act.put, List.setIfInBounds_toArray, List.set_cons_zero, List.set_cons_succ])
  first | (refine segH_pass _ _ _ _ _ _ (hid_get HOPS 9 _ rfl) (wanted_some (hid_get HOPS 7 _ rfl) rfl rfl rfl) (fun _ _ _ _ h => h) ?_; simp only [Act.put, List.setIfInBounds_toArray, List.set_cons_zero, List.set_cons_succ]) | (refine segH_pure _ _ _ _ _ _ (hid_get HOPS 9 _ rfl) rfl (wanted_some (hid_get HOPS 7 _ rfl) rfl rfl rfl) (fun _ _ _ _ h => h) ?_; intro K hK; go_big_quiet_op; go_big_quiet_on) | (refine segH_pass _ _ _ _ _ _ (hid_get HOPS 9 _ rfl) (wanted_gone (hid_get HOPS 7 _ rfl) rfl rfl) (fun _ _ _ _ h => h) ?_; simp only [Act.put, List.setIfInBounds_toArray, List.set_cons_zero, List.set_cons_succ])
  first | (refine segH_pass _ _ _ _ _ _ (hid_get HOPS 10 _ rfl) (wanted_some (hid_get HOPS 7 _ rfl) rfl rfl rfl) (fun _ _ _ _ h => h) ?_; simp only [Act.put, List.setIfInBounds_toArray, List.set_cons_zero, List.set_cons_succ]) | (refine segH_load _ _ _ _ _ _ _ _ _ (hid_get HOPS 10 _ rfl) (wanted_some (hid_get HOPS 7 _ rfl) rfl rfl rfl) rfl (fun _ _ _ _ h => h) (fun y hy => by go_simp; try with_reducible rfl) ?_; simp only [Act.put, List.setIfInBounds_toArray, List.set_cons_zero, List.set_cons_succ]) | (refine segH_pass _ _ _ _ _ _ (hid_get HOPS 10 _ rfl) (wanted_gone (hid_get HOPS 7 _ rfl) rfl rfl) (fun _ _ _ _ h => h) ?_; simp only [Act.put, List.setIfInBounds_toArray, List.set_cons_zero, List.set_cons_succ])
  first | (refine segH_pass _ _ _ _ _ _ (hid_get HOPS 11 _ rfl) (wanted_some (hid_get HOPS 7 _ rfl) rfl rfl rfl) (fun _ _ _ _ h => h) ?_; simp only [Act.put, List.setIfInBounds_toArray, List.set_cons_zero, List.set_cons_succ]) | (refine segH_pure _ _ _ _ _ _ (hid_get HOPS 11 _ rfl) rfl (wanted_some (hid_get HOPS 7 _ rfl) rfl rfl rfl) (fun _ _ _ _ h => h) ?_; intro K hK; go_big_quiet_op; go_big_quiet_on) | (refine segH_pass _ _ _ _ _ _ (hid_get HOPS 11 _ rfl) (wanted_gone (hid_get HOPS 7 _ rfl) rfl rfl) (fun _ _ _ _ h => h) ?_; simp only [Act.put, List.setIfInBounds_toArray, List.set_cons_zero, List.set_cons_succ])
  first | (refine segH_pass _ _ _ _ _ _ (hid_get HOPS 12 _ rfl) (wanted_some (hid_get HOPS 7 _ rfl) rfl rfl rfl) (fun _ _ _ _ h => h) ?_; simp only [Act.put, List.setIfInBounds_toArray, List.set_cons_zero, List.set_cons_succ]) | (refine segH_load _ _ _ _ _ _ _ _ _ (hid_get HOPS 12 _ rfl) (wanted_some (hid_get HOPS 7 _ rfl) rfl rfl rfl) rfl (fun _ _ _ _ h => h) (fun y hy => by go_simp; try with_reducible rfl) ?_; simp only [Act.put, List.setIfInBounds_toArray, List.set_cons_zero, List.set_cons_succ]) | (refine segH_pass _ _ _ _ _ _ (hid_get HOPS 12 _ rfl) (wanted_gone (hid_get HOPS 7 _ rfl) rfl rfl) (fun _ _ _ _ h => h) ?_; simp only [Act.put, List.setIfInBounds_toArray, List.set_cons_zero, List.set_cons_succ])
  refine segH_makes _ _ _ _ _ _ (hid_get HOPS 13 _ rfl) (wanted_some (hid_get HOPS 7 _ rfl) rfl rfl rfl) (fun K hK => ?_)
  go_big_op
  refine (rfHeld_any (HI.ext (ext_drewN W 1)) (a : Int) n).mono ?_
  rintro e w1 ⟨rfl, rfl⟩
  rw [HIX.out]
  refine hK _ _ (fun x' => Ext W x') (ext_drewN W 1) (fun _ h => h) ?_
  clear hK
  first | (refine segH_pass _ _ _ _ _ _ (hid_get HOPS 14 _ rfl) (wanted_some (hid_get HOPS 7 _ rfl) rfl rfl rfl) (fun _ _ _ _ h => h) ?_; simp only [Act.put, List.setIfInBounds_toArray, List.set_cons_zero, List.set_cons_succ]) | (refine segH_pure _ _ _ _ _ _ (hid_get HOPS 14 _ rfl) rfl (wanted_some (hid_get HOPS 7 _ rfl) rfl rfl rfl) (fun _ _ _ _ h => h) ?_; intro K hK; go_big_quiet_op; go_big_quiet_on) | (refine segH_pass _ _ _ _ _ _ (hid_get HOPS 14 _ rfl) (wanted_gone (hid_get HOPS 7 _ rfl) rfl rfl) (fun _ _ _ _ h => h) ?_; simp only [Act.put, List.setIfInBounds_toArray, List.set_cons_zero, List.set_cons_succ])
  (refine segH_pure _ _ _ _ _ _ (hid_get HOPS 15 _ rfl) rfl wanted_none (fun _ _ _ _ h => h) ?_; intro K hK; go_big_quiet_op; go_big_quiet_on)
  (refine segH_pure _ _ _ _ _ _ (hid_get HOPS 16 _ rfl) rfl wanted_none (fun _ _ _ _ h => h) ?_; intro K hK; go_big_quiet_op; go_big_quiet_on)
  refine seg_done ?_
  clear HOPS
  clear y0 y1
  obtain ⟨W1, hW1⟩ : ∃ W1, W1 = W.drewN 1 := ⟨_, rfl⟩
  have xx : Ext W W1 := by rw [hW1]; exact ext_drewN W 1
  (first | rw [← hW1] | (rw [show W.drew = W.drewN 1 from rfl, ← hW1]))
  clear hW1
  replace b0 := b0.ext xx
  replace HI := HI.ext xx
  replace hgo := hgo.ext hB xx
  replace hx1 := hx1.ext xx
  clear xx W
  rename World => W
  go_upto_region 7 with fail
  have f0 := b0.cell 0
  have f1 := b0.cell 1
  simp only [List.getElem?_toArray, List.getElem?_cons_zero, List.getElem?_cons_succ] at f0 f1
  have y0 := fun x' (hx : Ext W x') => ext_cell hx f0
  have y1 := fun x' (hx : Ext W x') => ext_cell hx f1
  clear f0 f1
  have hwr : IntKind.i64.wrap (hv + 1) = hv + 1 := IntWalk.i64_in _ (by omega)
  refine wp_region_planH3 (.reads 0 (.reads 1 (.reads 2 (.reads 3 (.reads 4 (.makes 5 (.reads 6 (.reads 7 (.reads 8 (.done)))))))))) (by kernel_rfl) (by kernel_rfl) (fun x' => Ext W x') (ext_drewN W 1) (fun ops HOPS => ?_)
  (refine segH_pure _ _ _ _ _ _ (hid_get HOPS 0 _ rfl) rfl wanted_none (fun _ _ _ _ h => h) ?_; intro K hK; go_big_quiet_op; go_big_quiet_on)
  (refine segH_load _ _ _ _ _ _ _ _ _ (hid_get HOPS 1 _ rfl) wanted_none rfl (fun _ _ _ _ h => h) (fun y hy => by go_simp; try with_reducible rfl) ?_; simp only [Act.put, List.setIfInBounds_toArray, List.set_cons_zero, List.set_cons_succ])
  (refine segH_pure _ _ _ _ _ _ (hid_get HOPS 2 _ rfl) rfl wanted_none (fun _ _ _ _ h => h) ?_; intro K hK; go_big_quiet_op; go_big_quiet_on)
  (refine segH_pure _ _ _ _ _ _ (hid_get HOPS 3 _ rfl) rfl wanted_none (fun _ _ _ _ h => h) ?_; intro K hK; go_big_quiet_op; go_big_quiet_on)
  (refine segH_load _ _ _ _ _ _ _ _ _ (hid_get HOPS 4 _ rfl) wanted_none rfl (fun _ _ _ _ h => h) (fun y hy => by go_simp; try with_reducible rfl) ?_; simp only [Act.put, List.setIfInBounds_toArray, List.set_cons_zero, List.set_cons_succ])
  refine segH_makes _ _ _ _ _ _ (hid_get HOPS 5 _ rfl) wanted_none (fun K hK => ?_)
  go_big_op
  refine (rfHave_any (HI.ext (ext_drewN W 1)) (a : Int)).mono ?_
  rintro e w1 ⟨rfl, rfl⟩
  rw [HHV.out]
  refine hK _ _ (fun x' => Ext W x') (ext_drewN W 1) (fun _ h => h) ?_
  clear hK
  (refine segH_pure _ _ _ _ _ _ (hid_get HOPS 6 _ rfl) rfl wanted_none (fun _ _ _ _ h => h) ?_; intro K hK; go_big_quiet_op; go_big_quiet_on)
  (refine segH_pure _ _ _ _ _ _ (hid_get HOPS 7 _ rfl) rfl wanted_none (fun _ _ _ _ h => h) ?_; intro K hK; go_big_quiet_op; go_big_quiet_on)
  (refine segH_pure _ _ _ _ _ _ (hid_get HOPS 8 _ rfl) rfl wanted_none (fun _ _ _ _ h => h) ?_; intro K hK; go_big_quiet_op; go_big_quiet_on)
  refine seg_done ?_
  clear HOPS
  clear y0 y1 hwr
  obtain ⟨W1, hW1⟩ : ∃ W1, W1 = W.drewN 1 := ⟨_, rfl⟩
  have xx : Ext W W1 := by rw [hW1]; exact ext_drewN W 1
  (first | rw [← hW1] | (rw [show W.drew = W.drewN 1 from rfl, ← hW1]))
  clear hW1
  replace b0 := b0.ext xx
  replace HI := HI.ext xx
  replace hgo := hgo.ext hB xx
  replace hx1 := hx1.ext xx
  clear xx W
  rename World => W
  by_cases hn2 : hv + 1 < n
  · rw [if_pos hn2] at HN HS
    obtain ⟨ys, y1, y2, HOK⟩ := HI.helds
    obtain ⟨Al, cl, hv'⟩ := y1.form
    have g8 := HI.blk.cell 8
    rw [HI.heldc, hv'] at g8
    rw [hv'] at y1
    have HRL : Hid (RowsIv W B Al ys) := y1.rows (B := B)
    have HYS : Hid (its ys = s.held) := y2
    have HYL : Hid (ys.length = s.held.length) := by show _ = _; rw [← y2, its_length]
    rw [← HYL.out] at HN HS
    replace HOK := Lib.hid HOK
    clear y1 y2 hv'
    by_cases h40 : ys.length < 40
    · rw [if_pos h40] at HN HS
      go_upto_region 10 with fail
      have HFZ : Hid (∀ {wz : World}, Ext W wz → ∀ i, wz.frozen? ⟨r.g, i, none⟩ = false) := fun {wz} X i => (HI.blk.ext X).frozen i
      have HFIN : Hid (∀ {wz : World} {v : Value}, Ext W wz → Own elIv wz W.heap.size v (ys ++ [(⟨⟨(a : Int), n, turn, shut, ws⟩, Ax, cx⟩ : Iv)]) → RfPutPost w B A c rs lev r s ⟨a, n, turn, shut, ws⟩ (.returned (.tuple #[.slice none 0 0, .int .i64 (0 : Int)])) (wz.setCell ⟨r.g, 8, none⟩ v)) := fun {wz v} X hO => by
        have hst : its (ys ++ [(⟨⟨(a : Int), n, turn, shut, ws⟩, Ax, cx⟩ : Iv)]) = s.held ++ [(⟨(a : Int), n, turn, shut, ws⟩ : It)] := by rw [its_append, HYS.out]; rfl
        obtain ⟨q1, q2⟩ := HI.setHeld X hO hst (fun z hz => by
          rcases List.mem_append.1 hz with hz | hz
          · exact (HOK.out z hz).ext X
          · have e1 : z = (⟨⟨(a : Int), n, turn, shut, ws⟩, Ax, cx⟩ : Iv) := by simpa using hz
            rw [e1]; exact hx1.ext X) (by rw [← hst, its_length]; simp; omega)
        exact ⟨_, [], _, by rw [HN.out]; rfl, Own.nil _ _, by rw [HS.out]; rfl, by simp, by rw [HS.out]; exact q1, hgo.trans q2⟩
      have f0 := b0.cell 0
      have f1 := b0.cell 1
      have f2 := b0.cell 2
      have f3 := b0.cell 3
      have f4 := b0.cell 4
      simp only [List.getElem?_toArray, List.getElem?_cons_zero, List.getElem?_cons_succ] at f0 f1 f2 f3 f4
      have y0 := fun x' (hx : Ext W x') => ext_cell hx f0
      have y1 := fun x' (hx : Ext W x') => ext_cell hx f1
      have y2 := fun x' (hx : Ext W x') => ext_cell hx f2
      have y3 := fun x' (hx : Ext W x') => ext_cell hx f3
      have y4 := fun x' (hx : Ext W x') => ext_cell hx f4
      have y5 := fun x' (hx : Ext W x') => ext_cell hx g8
      clear f0 f1 f2 f3 f4 g8 HI hgo b0 hx1
      refine wp_region_planH3 (.reads 0 (.reads 1 (.reads 2 (.reads 3 (.reads 4 (.reads 6 (.fork 5 (.makes 7 (.makes 8 (.reads 9 (.reads 10 (.turns 11 (.done)))))) 7 (.makes 5 (.makes 8 (.reads 9 (.reads 10 (.turns 11 (.done))))))))))))) (by kernel_rfl) (by kernel_rfl) (fun x' => Ext W x') (ext_drewN W 1) (fun ops HOPS => ?_)
      (refine segH_pure _ _ _ _ _ _ (hid_get HOPS 0 _ rfl) rfl wanted_none (fun _ _ _ _ h => h) ?_; intro K hK; go_big_quiet_op; go_big_quiet_on)
      (refine segH_pure _ _ _ _ _ _ (hid_get HOPS 1 _ rfl) rfl wanted_none (fun _ _ _ _ h => h) ?_; intro K hK; go_big_quiet_op; go_big_quiet_on)
      (refine segH_nil _ _ _ _ _ _ _ (hid_get HOPS 2 _ rfl) wanted_none rfl (fun _ _ _ _ h => h) ?_; simp only [Act.put, List.setIfInBounds_toArray, List.set_cons_zero, List.set_cons_succ])
      (refine segH_pure _ _ _ _ _ _ (hid_get HOPS 3 _ rfl) rfl wanted_none (fun _ _ _ _ h => h) ?_; intro K hK; go_big_quiet_op; go_big_quiet_on)
      (refine segH_load _ _ _ _ _ _ _ _ _ (hid_get HOPS 4 _ rfl) wanted_none rfl (fun _ _ _ _ h => h) (fun y hy => by go_simp; try with_reducible rfl) ?_; simp only [Act.put, List.setIfInBounds_toArray, List.set_cons_zero, List.set_cons_succ])
      (refine segH_load _ _ _ _ _ _ _ _ _ (hid_get HOPS 6 _ rfl) wanted_none rfl (fun _ _ _ _ h => h) (fun y hy => by go_simp; try with_reducible rfl) ?_; simp only [Act.put, List.setIfInBounds_toArray, List.set_cons_zero, List.set_cons_succ])
      refine segH_fork _ _ _ _ _ _ _ _ _ _ _ _ (hid_get HOPS 5 _ rfl) (hid_get HOPS 7 _ rfl) wanted_none wanted_none (fun K hK => ?_) (fun K hK => ?_)
      · refine wp_append elIv _ _ rfl W.heap.size (.slice none 0 0) [] rfl (Own.nil _ _) Al cl ys rfl B (RowsAt.ext HRL.out (ext_drewN W 1)) (by show _ * 56 ≤ _; simp; omega) (by simp; omega) (by simp) ?_
        intro A5 c5 w10 hown10 hg10 hat10
        have P10 : Ext W w10 := ext_trans (ext_drewN W 1) ((Below.refl _ _).grown hg10 (Nat.le_refl _) (fun k hk => by cases hk))
        rw [List.nil_append] at hown10 ⊢
        refine hK _ _ (fun x' => Ext W x') P10 (fun _ h => h) ?_
        clear hK hg10 hat10
        simp only [Act.put, List.setIfInBounds_toArray, List.set_cons_zero, List.set_cons_succ]
        refine segH_makes _ _ _ _ _ _ (hid_get HOPS 7 _ rfl) wanted_none (fun K hK => ?_)
        go_big_op
        have P11 : Ext W (w10.alloc (.cells (Iv.cells (⟨⟨(a : Int), n, turn, shut, ws⟩, Ax, cx⟩ : Iv)).toArray 33)) := ext_trans P10 (ext_alloc _ _)
        have HB := Lib.hid (rows_block (E := elIv) (B := B) (⟨⟨(a : Int), n, turn, shut, ws⟩, Ax, cx⟩ : Iv) (Blk.new w10 33 (Iv.cells (⟨⟨(a : Int), n, turn, shut, ws⟩, Ax, cx⟩ : Iv)).toArray))
        have hO11 : Own elIv (w10.alloc (.cells (Iv.cells (⟨⟨(a : Int), n, turn, shut, ws⟩, Ax, cx⟩ : Iv)).toArray 33)) W.heap.size (.slice A5 ys.length c5) ys := hown10.ext (ext_alloc _ _)
        refine hK _ _ (fun x' => Ext W x') P11 (fun _ h => h) ?_
        clear hK hown10
        refine segH_makes _ _ _ _ _ _ (hid_get HOPS 8 _ rfl) wanted_none (fun K hK => ?_)
        refine wp_append elIv _ _ rfl W.heap.size (.slice A5 ys.length c5) ys rfl hO11 _ 1 [(⟨⟨(a : Int), n, turn, shut, ws⟩, Ax, cx⟩ : Iv)] rfl B HB.out (by show _ * 56 ≤ _; simp; omega) (by simp; omega) P11.size ?_
        intro A2 c2 w12 hown12 hg12 hat12
        have P12 : Ext W w12 := P11.grown hg12 P11.size (fun k hk => (hO11.typed hk).1)
        have HF := Lib.hid (HFIN.out P12 hown12)
        have z0 := y5 w12 P12
        have zf : ∀ i, w12.frozen? ⟨r.g, i, none⟩ = false := fun i => HFZ.out P12 i
        rw [List.length_append, List.length_singleton] at HF ⊢
        refine hK _ _ (fun x' => Ext W x') P12 (fun _ h => h) ?_
        clear hK hown12 hg12 hat12
        simp only [Act.put, List.setIfInBounds_toArray, List.set_cons_zero, List.set_cons_succ]
        (refine segH_nil _ _ _ _ _ _ _ (hid_get HOPS 9 _ rfl) wanted_none rfl (fun _ _ _ _ h => h) ?_; simp only [Act.put, List.setIfInBounds_toArray, List.set_cons_zero, List.set_cons_succ])
        (refine segH_pure _ _ _ _ _ _ (hid_get HOPS 10 _ rfl) rfl wanted_none (fun _ _ _ _ h => h) ?_; intro K hK; go_big_quiet_op; go_big_quiet_on)
        refine segH_turns _ _ _ _ _ _ (hid_get HOPS 11 _ rfl) wanted_none (fun K hK => ?_)
        go_big_op
        refine hK _ _ (fun _ => True) trivial ?_
        clear hK
        refine seg_done ?_
        clear HOPS
        clear y0 y1 y2 y3 y4 y5 z0 zf
        go_wp2
        go_ret2
        exact HF.out
      · go_big_op
        have P11 : Ext W (W.alloc (.cells (Iv.cells (⟨⟨(a : Int), n, turn, shut, ws⟩, Ax, cx⟩ : Iv)).toArray 33)).drew := ext_trans (ext_alloc _ _) (ext_drewN _ 1)
        have HB0 := Lib.hid (rows_block (E := elIv) (B := B) (⟨⟨(a : Int), n, turn, shut, ws⟩, Ax, cx⟩ : Iv) (Blk.new W 33 (Iv.cells (⟨⟨(a : Int), n, turn, shut, ws⟩, Ax, cx⟩ : Iv)).toArray))
        refine hK _ _ (fun x' => Ext W x') P11 (fun _ h => h) ?_
        clear hK
        refine segH_makes _ _ _ _ _ _ (hid_get HOPS 5 _ rfl) wanted_none (fun K hK => ?_)
        refine wp_append elIv _ _ rfl W.heap.size (.slice none 0 0) [] rfl (Own.nil _ _) Al cl ys rfl B (RowsAt.ext HRL.out P11) (by show _ * 56 ≤ _; simp; omega) (by simp; omega) P11.size ?_
        intro A5 c5 w10 hown10 hg10 hat10
        have h65 : Ext (W.alloc (.cells (Iv.cells (⟨⟨(a : Int), n, turn, shut, ws⟩, Ax, cx⟩ : Iv)).toArray 33)).drew w10 := (Below.refl _ _).grown hg10 (Nat.le_refl _) (fun k hk => by cases hk)
        have P10 : Ext W w10 := ext_trans P11 h65
        rw [List.nil_append] at hown10 ⊢
        have HB := Lib.hid (RowsAt.ext (RowsAt.ext HB0.out (ext_drewN _ 1)) h65)
        refine hK _ _ (fun x' => Ext W x') P10 (fun _ h => h) ?_
        clear hK hg10 hat10 h65
        simp only [Act.put, List.setIfInBounds_toArray, List.set_cons_zero, List.set_cons_succ]
        refine segH_makes _ _ _ _ _ _ (hid_get HOPS 8 _ rfl) wanted_none (fun K hK => ?_)
        refine wp_append elIv _ _ rfl W.heap.size (.slice A5 ys.length c5) ys rfl hown10 _ 1 [(⟨⟨(a : Int), n, turn, shut, ws⟩, Ax, cx⟩ : Iv)] rfl B HB.out (by show _ * 56 ≤ _; simp; omega) (by simp; omega) P10.size ?_
        intro A2 c2 w12 hown12 hg12 hat12
        have P12 : Ext W w12 := P10.grown hg12 P10.size (fun k hk => (hown10.typed hk).1)
        have HF := Lib.hid (HFIN.out P12 hown12)
        have z0 := y5 w12 P12
        have zf : ∀ i, w12.frozen? ⟨r.g, i, none⟩ = false := fun i => HFZ.out P12 i
        rw [List.length_append, List.length_singleton] at HF ⊢
        refine hK _ _ (fun x' => Ext W x') P12 (fun _ h => h) ?_
        clear hK hown12 hg12 hat12
        simp only [Act.put, List.setIfInBounds_toArray, List.set_cons_zero, List.set_cons_succ]
        (refine segH_nil _ _ _ _ _ _ _ (hid_get HOPS 9 _ rfl) wanted_none rfl (fun _ _ _ _ h => h) ?_; simp only [Act.put, List.setIfInBounds_toArray, List.set_cons_zero, List.set_cons_succ])
        (refine segH_pure _ _ _ _ _ _ (hid_get HOPS 10 _ rfl) rfl wanted_none (fun _ _ _ _ h => h) ?_; intro K hK; go_big_quiet_op; go_big_quiet_on)
        refine segH_turns _ _ _ _ _ _ (hid_get HOPS 11 _ rfl) wanted_none (fun K hK => ?_)
        go_big_op
        refine hK _ _ (fun _ => True) trivial ?_
        clear hK
        refine seg_done ?_
        clear HOPS
        clear y0 y1 y2 y3 y4 y5 z0 zf
        go_wp2
        go_ret2
        exact HF.out
    · rw [if_neg h40] at HN HS
      have HF : Hid (RfPutPost w B A c rs lev r s ⟨a, n, turn, shut, ws⟩ (.returned (.tuple #[.slice none 0 0, .int .i64 (25 : Int)])) W) := rfPutPost_nil (n := 25) HI hgo HN.out HS.out
      clear HI hgo b0 hx1 hown HINV
      go_wp2
      go_ret2
      exact HF.out
  rw [if_neg hn2] at HN HS
  obtain rfl : n = hv + 1 := by omega
  obtain ⟨ov, hov⟩ : ∃ ov, ov = rfOver s a := ⟨_, rfl⟩
  have HOV : Hid (rfOver s a = ov) := hov.symm
  rw [← hov] at HN HS
  clear hov
  go_upto_region 12 with fail
  have f0 := b0.cell 0
  have f1 := b0.cell 2
  simp only [List.getElem?_toArray, List.getElem?_cons_zero, List.getElem?_cons_succ] at f0 f1
  have y0 := fun x' (hx : Ext W x') => ext_cell hx f0
  have y1 := fun x' (hx : Ext W x') => ext_cell hx f1
  clear f0 f1
  by_cases hot : turn ≠ ov
  · rw [if_neg hot] at HN HS
    have hd : (turn != ov) = true := by simp [hot]
    have HF : Hid (RfPutPost w B A c rs lev r s ⟨a, hv + 1, turn, shut, ws⟩ (.returned (.tuple #[.slice none 0 0, .int .i64 (22 : Int)])) (W.drewN 1)) := rfPutPost_nil (n := 22) (HI.ext (ext_drewN W 1)) (hgo.ext hB (ext_drewN W 1)) HN.out HS.out
    have HII := Lib.hid HI
    clear HI hgo b0 hx1 hown HINV
    refine wp_region_planH3 (.reads 0 (.reads 1 (.reads 2 (.reads 3 (.reads 4 (.makes 5 (.reads 6 (.reads 7 (.done))))))))) (by kernel_rfl) (by kernel_rfl) (fun x' => Ext W x') (ext_drewN W 1) (fun ops HOPS => ?_)
    (refine segH_pure _ _ _ _ _ _ (hid_get HOPS 0 _ rfl) rfl wanted_none (fun _ _ _ _ h => h) ?_; intro K hK; go_big_quiet_op; go_big_quiet_on)
    (refine segH_load _ _ _ _ _ _ _ _ _ (hid_get HOPS 1 _ rfl) wanted_none rfl (fun _ _ _ _ h => h) (fun y hy => by go_simp; try with_reducible rfl) ?_; simp only [Act.put, List.setIfInBounds_toArray, List.set_cons_zero, List.set_cons_succ])
    (refine segH_pure _ _ _ _ _ _ (hid_get HOPS 2 _ rfl) rfl wanted_none (fun _ _ _ _ h => h) ?_; intro K hK; go_big_quiet_op; go_big_quiet_on)
    (refine segH_pure _ _ _ _ _ _ (hid_get HOPS 3 _ rfl) rfl wanted_none (fun _ _ _ _ h => h) ?_; intro K hK; go_big_quiet_op; go_big_quiet_on)
    (refine segH_load _ _ _ _ _ _ _ _ _ (hid_get HOPS 4 _ rfl) wanted_none rfl (fun _ _ _ _ h => h) (fun y hy => by go_simp; try with_reducible rfl) ?_; simp only [Act.put, List.setIfInBounds_toArray, List.set_cons_zero, List.set_cons_succ])
    refine segH_makes _ _ _ _ _ _ (hid_get HOPS 5 _ rfl) wanted_none (fun K hK => ?_)
    go_big_op
    refine (rfOver_any (HII.out.ext (ext_drewN W 1)) (a : Int)).mono ?_
    rintro e w1 ⟨rfl, rfl⟩
    rw [HOV.out]
    refine hK _ _ (fun x' => Ext W x') (ext_drewN W 1) (fun _ h => h) ?_
    clear hK
    (refine segH_pure _ _ _ _ _ _ (hid_get HOPS 6 _ rfl) rfl wanted_none (fun _ _ _ _ h => h) ?_; intro K hK; go_big_quiet_op; go_big_quiet_on)
    (refine segH_pure _ _ _ _ _ _ (hid_get HOPS 7 _ rfl) rfl wanted_none (fun _ _ _ _ h => h) ?_; intro K hK; go_big_quiet_op; go_big_quiet_on)
    refine seg_done ?_
    clear HOPS
    clear y0 y1 hd
    go_wp2
    go_ret2
    exact HF.out
  obtain rfl : turn = ov := by simpa using hot
  clear hot
  rw [if_pos rfl] at HN HS
  refine wp_region_planH3 (.reads 0 (.reads 1 (.reads 2 (.reads 3 (.reads 4 (.makes 5 (.reads 6 (.reads 7 (.done))))))))) (by kernel_rfl) (by kernel_rfl) (fun x' => Ext W x') (ext_drewN W 1) (fun ops HOPS => ?_)
  (refine segH_pure _ _ _ _ _ _ (hid_get HOPS 0 _ rfl) rfl wanted_none (fun _ _ _ _ h => h) ?_; intro K hK; go_big_quiet_op; go_big_quiet_on)
  (refine segH_load _ _ _ _ _ _ _ _ _ (hid_get HOPS 1 _ rfl) wanted_none rfl (fun _ _ _ _ h => h) (fun y hy => by go_simp; try with_reducible rfl) ?_; simp only [Act.put, List.setIfInBounds_toArray, List.set_cons_zero, List.set_cons_succ])
  (refine segH_pure _ _ _ _ _ _ (hid_get HOPS 2 _ rfl) rfl wanted_none (fun _ _ _ _ h => h) ?_; intro K hK; go_big_quiet_op; go_big_quiet_on)
  (refine segH_pure _ _ _ _ _ _ (hid_get HOPS 3 _ rfl) rfl wanted_none (fun _ _ _ _ h => h) ?_; intro K hK; go_big_quiet_op; go_big_quiet_on)
  (refine segH_load _ _ _ _ _ _ _ _ _ (hid_get HOPS 4 _ rfl) wanted_none rfl (fun _ _ _ _ h => h) (fun y hy => by go_simp; try with_reducible rfl) ?_; simp only [Act.put, List.setIfInBounds_toArray, List.set_cons_zero, List.set_cons_succ])
  refine segH_makes _ _ _ _ _ _ (hid_get HOPS 5 _ rfl) wanted_none (fun K hK => ?_)
  go_big_op
  refine (rfOver_any (HI.ext (ext_drewN W 1)) (a : Int)).mono ?_
  rintro e w1 ⟨rfl, rfl⟩
  rw [HOV.out]
  refine hK _ _ (fun x' => Ext W x') (ext_drewN W 1) (fun _ h => h) ?_
  clear hK
  (refine segH_pure _ _ _ _ _ _ (hid_get HOPS 6 _ rfl) rfl wanted_none (fun _ _ _ _ h => h) ?_; intro K hK; go_big_quiet_op; go_big_quiet_on)
  (refine segH_pure _ _ _ _ _ _ (hid_get HOPS 7 _ rfl) rfl wanted_none (fun _ _ _ _ h => h) ?_; intro K hK; go_big_quiet_op; go_big_quiet_on)
  refine seg_done ?_
  clear HOPS
  clear y0 y1
  obtain ⟨W1, hW1⟩ : ∃ W1, W1 = W.drewN 1 := ⟨_, rfl⟩
  have xx : Ext W W1 := by rw [hW1]; exact ext_drewN W 1
  (first | rw [← hW1] | (rw [show W.drew = W.drewN 1 from rfl, ← hW1]))
  clear hW1
  replace b0 := b0.ext xx
  replace HI := HI.ext xx
  replace hgo := hgo.ext hB xx
  replace hx1 := hx1.ext xx
  clear xx W
  rename World => W
  have r0 := b0.cell 0
  have r1 := b0.cell 1
  have r2 := b0.cell 2
  have r3 := b0.cell 3
  have r4 := b0.cell 4
  simp only [List.getElem?_toArray, List.getElem?_cons_zero, List.getElem?_cons_succ] at r0 r1 r2 r3 r4
  go_upto_region 16 with fail
  clear r0 r1 r2 r3 r4
  obtain ⟨V, hV⟩ : ∃ V, V = W.alloc (.cells #[.int .i64 (a : Int), .int .i64 (hv + 1), .int .i64 turn, .bool shut, .slice Ax ws.length cx] 33) := ⟨_, rfl⟩
  have xv : Ext W V := by rw [hV]; exact ext_alloc _ _
  have bv : Blk V W.heap.size 33 (Iv.cells ⟨⟨a, hv + 1, turn, shut, ws⟩, Ax, cx⟩).toArray := by rw [hV]; exact Blk.new _ _ _
  rw [← hV]
  have hnb : ¬ RfOwn r W.heap.size := fun e => Nat.lt_irrefl _ (HI.own_lt e).2
  have hgl : gx + 1 ≤ W.heap.size := b0.lt
  replace b0 := b0.ext xv
  replace HI := HI.ext xv
  replace hgo := hgo.ext hB xv
  replace hx1 := hx1.ext xv
  clear hV xv
  obtain ⟨go, hgo'⟩ : ∃ go, go = W.heap.size := ⟨_, rfl⟩
  rw [← hgo'] at bv hnb hgl ⊢
  clear hgo' W
  rename World => W
  have hgoW := bv.lt
  obtain ⟨ys, y1, y2, HOK⟩ := HI.cames a ha
  obtain ⟨Al, cl, hv'⟩ := y1.form
  have g8 := HI.blk.cell (2 + a)
  rw [HI.toc a ha, hv'] at g8
  rw [hv'] at y1
  have HRL : Hid (RowsIv W B Al ys) := y1.rows (B := B)
  have HYS : Hid (its ys = s.came a) := y2
  have hyl : ys.length < 1000000 := by
    have h1 := HHL.out
    rw [← y2, its_length] at h1
    have := HNN.out.1.2.2
    omega
  replace HOK := Lib.hid HOK
  clear y1 y2 hv'
  have HFZ : Hid (∀ {wz : World}, Ext W wz → ∀ i, wz.frozen? ⟨r.g, i, none⟩ = false) := fun {wz} X i => (HI.blk.ext X).frozen i
  have HFIN : Hid (∀ {wz : World} {v : Value}, Ext W wz → Own elIv wz W.heap.size v (ys ++ [(⟨⟨(a : Int), hv + 1, turn, shut, ws⟩, Ax, cx⟩ : Iv)]) →
      ∃ r', RfAt (wz.setCell ⟨r.g, 2 + a, none⟩ v) B A c rs lev r' (rfCame s a ⟨a, hv + 1, turn, shut, ws⟩) ∧ RfGo B w r (wz.setCell ⟨r.g, 2 + a, none⟩ v) r' ∧ ¬ RfOwn r' go ∧ Own elIv (wz.setCell ⟨r.g, 2 + a, none⟩ v) (gx + 1) (.slice (some ⟨go, 0, none⟩) 1 1) [(⟨⟨(a : Int), hv + 1, turn, shut, ws⟩, Ax, cx⟩ : Iv)] ∧ IvOk (wz.setCell ⟨r.g, 2 + a, none⟩ v) B ⟨⟨a, hv + 1, turn, shut, ws⟩, Ax, cx⟩) := fun {wz v} X hO => by
    have hst : its (ys ++ [(⟨⟨(a : Int), hv + 1, turn, shut, ws⟩, Ax, cx⟩ : Iv)]) = s.came a ++ [(⟨(a : Int), hv + 1, turn, shut, ws⟩ : It)] := by rw [its_append, HYS.out]; rfl
    obtain ⟨q1, q2⟩ := HI.setTo X ha hO hst (fun z hz => by
      rcases List.mem_append.1 hz with hz | hz
      · exact (HOK.out z hz).ext X
      · have e1 : z = (⟨⟨(a : Int), hv + 1, turn, shut, ws⟩, Ax, cx⟩ : Iv) := by simpa using hz
        rw [e1]; exact hx1.ext X) (by rw [← HYS.out, its_length]; exact hyl)
    obtain ⟨f1, f2⟩ := q2.free hgoW hnb
    refine ⟨_, q1, hgo.trans q2, f1, (Own.of_block (f2.trans bv) (Nat.le_refl _)).le hgl, hx1.keeps (q2.keeps HI) (by decide)⟩
  have f0 := b0.cell 0
  have f1 := b0.cell 1
  have f2 := b0.cell 2
  have f3 := b0.cell 3
  have f4 := b0.cell 4
  simp only [List.getElem?_toArray, List.getElem?_cons_zero, List.getElem?_cons_succ] at f0 f1 f2 f3 f4
  have y0 := fun x' (hx : Ext W x') => ext_cell hx f0
  have y1 := fun x' (hx : Ext W x') => ext_cell hx f1
  have y2 := fun x' (hx : Ext W x') => ext_cell hx f2
  have y3 := fun x' (hx : Ext W x') => ext_cell hx f3
  have y4 := fun x' (hx : Ext W x') => ext_cell hx f4
  have y5 := fun x' (hx : Ext W x') => ext_cell hx g8
  clear f0 f1 f2 f3 f4 g8 HI hgo b0 hx1 bv hnb
  simp only [Bool.not_true, Bool.not_false, Int.lt_irrefl, decide_false]
  go_cut [96] (fun _ wc => ∃ r', RfAt wc B A c rs lev r' (rfCame s a ⟨a, hv + 1, turn, shut, ws⟩) ∧ RfGo B w r wc r' ∧ ¬ RfOwn r' go ∧ Own elIv wc (gx + 1) (.slice (some ⟨go, 0, none⟩) 1 1) [(⟨⟨(a : Int), hv + 1, turn, shut, ws⟩, Ax, cx⟩ : Iv)] ∧ IvOk wc B ⟨⟨a, hv + 1, turn, shut, ws⟩, Ax, cx⟩)
  case first =>
    refine wp_region_planH3 (.reads 0 (.reads 1 (.reads 2 (.reads 3 (.reads 4 (.reads 5 (.reads 6 (.reads 7 (.reads 9 (.reads 12 (.reads 13 (.fork 8 (.makes 10 (.makes 11 (.reads 14 (.turns 15 (.done))))) 10 (.makes 8 (.makes 11 (.reads 14 (.turns 15 (.done))))))))))))))))) (by kernel_rfl) (by kernel_rfl) (fun x' => Ext W x') (ext_drewN W 1) (fun ops HOPS => ?_)
    (refine segH_pure _ _ _ _ _ _ (hid_get HOPS 0 _ rfl) rfl wanted_none (fun _ _ _ _ h => h) ?_; intro K hK; go_big_quiet_op; go_big_quiet_on)
    (refine segH_pure _ _ _ _ _ _ (hid_get HOPS 1 _ rfl) rfl wanted_none (fun _ _ _ _ h => h) ?_; intro K hK; go_big_quiet_op; go_big_quiet_on)
    (refine segH_pure _ _ _ _ _ _ (hid_get HOPS 2 _ rfl) rfl wanted_none (fun _ _ _ _ h => h) ?_; intro K hK; go_big_quiet_op; go_big_quiet_on)
    (refine segH_pure _ _ _ _ _ _ (hid_get HOPS 3 _ rfl) rfl wanted_none (fun _ _ _ _ h => h) ?_; intro K hK; go_big_quiet_op; go_big_quiet_on)
    (refine segH_nil _ _ _ _ _ _ _ (hid_get HOPS 4 _ rfl) wanted_none rfl (fun _ _ _ _ h => h) ?_; simp only [Act.put, List.setIfInBounds_toArray, List.set_cons_zero, List.set_cons_succ])
    (refine segH_pure _ _ _ _ _ _ (hid_get HOPS 5 _ rfl) rfl wanted_none (fun _ _ _ _ h => h) ?_; intro K hK; go_big_quiet_op; go_big_quiet_on)
    (refine segH_pure _ _ _ _ _ _ (hid_get HOPS 6 _ rfl) rfl wanted_none (fun _ _ _ _ h => h) ?_; intro K hK; go_big_quiet_op; go_big_quiet_on)
    (refine segH_load _ _ _ _ _ _ _ _ _ (hid_get HOPS 7 _ rfl) wanted_none rfl (fun _ _ _ _ h => h) (fun y hy => by go_simp; try with_reducible rfl) ?_; simp only [Act.put, List.setIfInBounds_toArray, List.set_cons_zero, List.set_cons_succ])
    (refine segH_load _ _ _ _ _ _ _ _ _ (hid_get HOPS 9 _ rfl) wanted_none rfl (fun _ _ _ _ h => h) (fun y hy => by go_simp; try with_reducible rfl) ?_; simp only [Act.put, List.setIfInBounds_toArray, List.set_cons_zero, List.set_cons_succ])
    (refine segH_nil _ _ _ _ _ _ _ (hid_get HOPS 12 _ rfl) wanted_none rfl (fun _ _ _ _ h => h) ?_; simp only [Act.put, List.setIfInBounds_toArray, List.set_cons_zero, List.set_cons_succ])
    (refine segH_pure _ _ _ _ _ _ (hid_get HOPS 13 _ rfl) rfl wanted_none (fun _ _ _ _ h => h) ?_; intro K hK; go_big_quiet_op; go_big_quiet_on)
    refine segH_fork _ _ _ _ _ _ _ _ _ _ _ _ (hid_get HOPS 8 _ rfl) (hid_get HOPS 10 _ rfl) wanted_none wanted_none (fun K hK => ?_) (fun K hK => ?_)
    · refine wp_append elIv _ _ rfl W.heap.size (.slice none 0 0) [] rfl (Own.nil _ _) Al cl ys rfl B (RowsAt.ext HRL.out (ext_drewN W 1)) (by show _ * 56 ≤ _; simp; omega) (by simp; omega) (by simp) ?_
      intro A5 c5 w10 hown10 hg10 hat10
      have P10 : Ext W w10 := ext_trans (ext_drewN W 1) ((Below.refl _ _).grown hg10 (Nat.le_refl _) (fun k hk => by cases hk))
      rw [List.nil_append] at hown10 ⊢
      refine hK _ _ (fun x' => Ext W x') P10 (fun _ h => h) ?_
      clear hK hg10 hat10
      simp only [Act.put, List.setIfInBounds_toArray, List.set_cons_zero, List.set_cons_succ]
      refine segH_makes _ _ _ _ _ _ (hid_get HOPS 10 _ rfl) wanted_none (fun K hK => ?_)
      go_big_op
      have P11 : Ext W (w10.alloc (.cells (Iv.cells (⟨⟨(a : Int), hv + 1, turn, shut, ws⟩, Ax, cx⟩ : Iv)).toArray 33)) := ext_trans P10 (ext_alloc _ _)
      have HB := Lib.hid (rows_block (E := elIv) (B := B) (⟨⟨(a : Int), hv + 1, turn, shut, ws⟩, Ax, cx⟩ : Iv) (Blk.new w10 33 (Iv.cells (⟨⟨(a : Int), hv + 1, turn, shut, ws⟩, Ax, cx⟩ : Iv)).toArray))
      have hO11 : Own elIv (w10.alloc (.cells (Iv.cells (⟨⟨(a : Int), hv + 1, turn, shut, ws⟩, Ax, cx⟩ : Iv)).toArray 33)) W.heap.size (.slice A5 ys.length c5) ys := hown10.ext (ext_alloc _ _)
      refine hK _ _ (fun x' => Ext W x') P11 (fun _ h => h) ?_
      clear hK hown10
      refine segH_makes _ _ _ _ _ _ (hid_get HOPS 11 _ rfl) wanted_none (fun K hK => ?_)
      refine wp_append elIv _ _ rfl W.heap.size (.slice A5 ys.length c5) ys rfl hO11 _ 1 [(⟨⟨(a : Int), hv + 1, turn, shut, ws⟩, Ax, cx⟩ : Iv)] rfl B HB.out (by show _ * 56 ≤ _; simp; omega) (by simp; omega) P11.size ?_
      intro A2 c2 w12 hown12 hg12 hat12
      have P12 : Ext W w12 := P11.grown hg12 P11.size (fun k hk => (hO11.typed hk).1)
      have HF := Lib.hid (HFIN.out P12 hown12)
      have z0 := y5 w12 P12
      have zf : ∀ i, w12.frozen? ⟨r.g, i, none⟩ = false := fun i => HFZ.out P12 i
      rw [List.length_append, List.length_singleton] at HF ⊢
      refine hK _ _ (fun x' => Ext W x') P12 (fun _ h => h) ?_
      clear hK hown12 hg12 hat12
      simp only [Act.put, List.setIfInBounds_toArray, List.set_cons_zero, List.set_cons_succ]
      (refine segH_pure _ _ _ _ _ _ (hid_get HOPS 14 _ rfl) rfl wanted_none (fun _ _ _ _ h => h) ?_; intro K hK; go_big_quiet_op; go_big_quiet_on)
      refine segH_turns _ _ _ _ _ _ (hid_get HOPS 15 _ rfl) wanted_none (fun K hK => ?_)
      go_big_op
      refine hK _ _ (fun _ => True) trivial ?_
      clear hK
      refine seg_done ?_
      clear HOPS
      clear y0 y1 y2 y3 y4 y5 z0 zf
      go_wp2
      go_meet
      exact HF.out
    · go_big_op
      have P11 : Ext W (W.alloc (.cells (Iv.cells (⟨⟨(a : Int), hv + 1, turn, shut, ws⟩, Ax, cx⟩ : Iv)).toArray 33)).drew := ext_trans (ext_alloc _ _) (ext_drewN _ 1)
      have HB0 := Lib.hid (rows_block (E := elIv) (B := B) (⟨⟨(a : Int), hv + 1, turn, shut, ws⟩, Ax, cx⟩ : Iv) (Blk.new W 33 (Iv.cells (⟨⟨(a : Int), hv + 1, turn, shut, ws⟩, Ax, cx⟩ : Iv)).toArray))
      refine hK _ _ (fun x' => Ext W x') P11 (fun _ h => h) ?_
      clear hK
      refine segH_makes _ _ _ _ _ _ (hid_get HOPS 8 _ rfl) wanted_none (fun K hK => ?_)
      refine wp_append elIv _ _ rfl W.heap.size (.slice none 0 0) [] rfl (Own.nil _ _) Al cl ys rfl B (RowsAt.ext HRL.out P11) (by show _ * 56 ≤ _; simp; omega) (by simp; omega) P11.size ?_
      intro A5 c5 w10 hown10 hg10 hat10
      have h65 : Ext (W.alloc (.cells (Iv.cells (⟨⟨(a : Int), hv + 1, turn, shut, ws⟩, Ax, cx⟩ : Iv)).toArray 33)).drew w10 := (Below.refl _ _).grown hg10 (Nat.le_refl _) (fun k hk => by cases hk)
      have P10 : Ext W w10 := ext_trans P11 h65
      rw [List.nil_append] at hown10 ⊢
      have HB := Lib.hid (RowsAt.ext (RowsAt.ext HB0.out (ext_drewN _ 1)) h65)
      refine hK _ _ (fun x' => Ext W x') P10 (fun _ h => h) ?_
      clear hK hg10 hat10 h65
      simp only [Act.put, List.setIfInBounds_toArray, List.set_cons_zero, List.set_cons_succ]
      refine segH_makes _ _ _ _ _ _ (hid_get HOPS 11 _ rfl) wanted_none (fun K hK => ?_)
      refine wp_append elIv _ _ rfl W.heap.size (.slice A5 ys.length c5) ys rfl hown10 _ 1 [(⟨⟨(a : Int), hv + 1, turn, shut, ws⟩, Ax, cx⟩ : Iv)] rfl B HB.out (by show _ * 56 ≤ _; simp; omega) (by simp; omega) P10.size ?_
      intro A2 c2 w12 hown12 hg12 hat12
      have P12 : Ext W w12 := P10.grown hg12 P10.size (fun k hk => (hown10.typed hk).1)
      have HF := Lib.hid (HFIN.out P12 hown12)
      have z0 := y5 w12 P12
      have zf : ∀ i, w12.frozen? ⟨r.g, i, none⟩ = false := fun i => HFZ.out P12 i
      rw [List.length_append, List.length_singleton] at HF ⊢
      refine hK _ _ (fun x' => Ext W x') P12 (fun _ h => h) ?_
      clear hK hown12 hg12 hat12
      simp only [Act.put, List.setIfInBounds_toArray, List.set_cons_zero, List.set_cons_succ]
      (refine segH_pure _ _ _ _ _ _ (hid_get HOPS 14 _ rfl) rfl wanted_none (fun _ _ _ _ h => h) ?_; intro K hK; go_big_quiet_op; go_big_quiet_on)
      refine segH_turns _ _ _ _ _ _ (hid_get HOPS 15 _ rfl) wanted_none (fun K hK => ?_)
      go_big_op
      refine hK _ _ (fun _ => True) trivial ?_
      clear hK
      refine seg_done ?_
      clear HOPS
      clear y0 y1 y2 y3 y4 y5 z0 zf
      go_wp2
      go_meet
      exact HF.out
  case rest =>
    clear y0 y1 y2 y3 y4 y5 HFIN HFZ HRL HOK HYS hyl hgoW
    clear W
    rename World => W
    obtain ⟨r1, HI, hgo, hno, hown1, hx1⟩ := hcut
    have HST : Hid (RfInv (rfCame s a ⟨a, hv + 1, turn, shut, ws⟩) ∧ putRSt (mat rs) lev s ⟨a, hv + 1, turn, shut, ws⟩ = ((rowR (rfCame s a ⟨a, hv + 1, turn, shut, ws⟩).held.length (rfCame s a ⟨a, hv + 1, turn, shut, ws⟩) a).1, its [(⟨⟨(a : Int), hv + 1, turn, shut, ws⟩, Ax, cx⟩ : Iv)] ++ (rowR (rfCame s a ⟨a, hv + 1, turn, shut, ws⟩).held.length (rfCame s a ⟨a, hv + 1, turn, shut, ws⟩) a).2)) := ⟨HINV.out, HS.out⟩
    go_wp2
    go_loopw [7] (fun o wr => ∃ (s' : RfSt) (r' : RfMem) (zs : List Iv), RfAt wr B A c rs lev r' s' ∧ RfGo B w r wr r' ∧ Own elIv wr (gx + 1) o zs ∧ gx + 1 ≤ wr.heap.size ∧ (∀ b, o.ownBlock = some b → ¬ RfOwn r' b) ∧ (∀ z ∈ zs, IvOk wr B z) ∧ zs.length + s'.held.length = s.held.length + 1 ∧
      Hid (RfInv s' ∧ putRSt (mat rs) lev s ⟨a, hv + 1, turn, shut, ws⟩ = ((rowR s'.held.length s' a).1, its zs ++ (rowR s'.held.length s' a).2))) (fun o _ => s.held.length + 1 - lenV o)
    case atStart =>
      exact ⟨_, r1, [_], HI, hgo, hown1, (by have := hown1.blk' rfl; omega), (fun b hb => by
        have e : go = b := by simpa [Value.ownBlock] using hb
        rw [← e]; exact hno), (fun z hz => by
        have e1 : z = (⟨⟨(a : Int), hv + 1, turn, shut, ws⟩, Ax, cx⟩ : Iv) := by simpa using hz
        rw [e1]; exact hx1), by rw [Nat.add_comm]; rfl, HST.out⟩
    case round =>
      clear HI hgo hown1 hno hx1 HST HS r1
      clear HINV hown
      obtain ⟨s', r', zs, hI, hG, hown, hgsz, hdis, hzs, hcn, HINV⟩ := hrel
      have hmg := hG.g
      obtain ⟨Ao, co, rfl⟩ := hown.form
      obtain ⟨nv, hnv⟩ : ∃ nv, nv = rfHave s' a := ⟨_, rfl⟩
      have HNV : Hid (rfHave s' a = nv) := hnv.symm
      have HNL : Hid (nv = ((s'.came a).length : Int)) := by
        show _ = _
        rw [hnv, rfHave, if_pos (by omega)]; rfl
      have hnum' : 0 ≤ nv ∧ nv ≤ 1000000 := by rw [HNL.out]; have := hI.fewc a ha; omega
      clear hnv
      have hwr : IntKind.i64.wrap (nv + 1) = nv + 1 := IntWalk.i64_in _ (by omega)
      have hc1 := rfHave_any hI (a : Int)
      rw [hmg] at hc1
      go_wp2_with fail
      refine hc1.mono ?_
      clear hc1
      rintro e w2 ⟨rfl, rfl⟩
      rw [HNV.out]
      have hc1 := rfHeld_any hI (a : Int) (nv + 1)
      rw [hmg] at hc1
      go_wp2_with fail
      refine hc1.mono ?_
      clear hc1
      rintro e w2 ⟨rfl, rfl⟩
      obtain ⟨jx, hjx⟩ : ∃ jx, jx = hIx s'.held a (nv + 1) := ⟨_, rfl⟩
      have HJX : Hid (hIx s'.held a (nv + 1) = jx) := hjx.symm
      rw [← hjx]
      clear hjx
      by_cases hneg : jx < 0
      · have HF : Hid (RfPutPost w B A c rs lev r s ⟨a, hv + 1, turn, shut, ws⟩ (.returned (.tuple #[.slice Ao zs.length co, .int .i64 (0 : Int)])) wr) := by
          have e1 := hIx_neg (by rw [HJX.out]; exact hneg)
          have e2 : rowR s'.held.length s' a = (s', []) := by
            cases hc0 : s'.held.length with
            | zero => rfl
            | succ k => simp only [rowR]; rw [← HNL.out, e1]
          have e3 := HINV.out.2
          rw [e2] at e3
          refine ⟨_, zs, r', by rw [HN.out]; rfl, hown.le (by omega), by rw [e3]; simp, hzs, by rw [e3]; exact hI, hG⟩
        clear hI hG hown hdis hzs HINV hwr
        go_wp2_with fail
        go_ret2
        exact HF.out
      · obtain ⟨k, rfl⟩ := Int.eq_ofNat_of_zero_le (show 0 ≤ jx by omega)
        obtain ⟨hfi, hk, hlv, hkn⟩ := hIx_some HJX.out
        obtain ⟨ys, o1, o2, o3⟩ := hI.helds
        obtain ⟨Al, cl, hv'⟩ := o1.form
        have g8 := hI.blk.cell 8
        rw [hI.heldc, hv', hmg] at g8
        rw [hv'] at o1
        have hkl : k < ys.length := by rw [← its_length, o2]; exact hk
        have hyl : ys.length ≤ 1000000 := by rw [← its_length, o2]; exact hI.fewh
        have hOff := o1.off
        have hRL : RowsIv wr B Al ys := o1.rows (B := B)
        obtain ⟨gh, rfl⟩ : ∃ gh, Al = some ⟨gh, 0, none⟩ := by
          rcases o1.2 with ⟨_, h0⟩ | ⟨gh, cap, cur, hv, _⟩
          · omega
          · injection hv with e1 _ _
            exact ⟨gh, e1⟩
        have hcl : ys.length ≤ cl := hOff.le_cap
        obtain ⟨ad, hA0, p0, p1, p2, p3, p4⟩ := RowsIv.get hRL hkl
        injection hA0 with hA0
        subst hA0
        obtain ⟨y, hy⟩ : ∃ y, y = ys[k] := ⟨_, rfl⟩
        have HYK : Hid (s'.held[k]? = some y.it) := by
          show _ = _
          rw [← o2, hy]
          simp [its, List.getElem?_eq_getElem hkl]
        have hy1 : y.it.level = (a : Int) ∧ y.it.n = nv + 1 ∧ y.it.is = true := by
          have e := HYK.out
          rw [List.getElem?_eq_getElem hk] at e
          injection e with e
          rw [← e]
          exact ⟨hlv, hkn, HINV.out.1 _ (List.getElem_mem hk)⟩
        have hyok : IvOk wr B y := by rw [hy]; exact o3 _ (List.getElem_mem hkl)
        rw [← hy] at p0 p1 p2 p3 p4
        clear hy hlv hkn
        obtain ⟨⟨yl, yn, yt, ysh, yws⟩, Aw, cw⟩ := y
        dsimp only at p0 p1 p2 p3 p4 hy1
        simp only [Addr.add_lit, Nat.zero_add] at p0 p1 p2 p3 p4
        obtain ⟨rfl, rfl, hyis⟩ := hy1
        go_upto_region 21 with fail
        obtain ⟨W, hW⟩ : ∃ W, W = wr.alloc (.cells #[.int .i64 (a : Int), .int .i64 (nv + 1), .int .i64 yt, .bool ysh, .slice Aw yws.length cw] 33) := ⟨_, rfl⟩
        have xw : Ext wr W := by rw [hW]; exact ext_alloc _ _
        have bw : Blk W wr.heap.size 33 #[.int .i64 (a : Int), .int .i64 (nv + 1), .int .i64 yt, .bool ysh, .slice Aw yws.length cw] := by rw [hW]; exact Blk.new _ _ _
        rw [← hW]
        have hny : ¬ RfOwn r' wr.heap.size := fun e => Nat.lt_irrefl _ (hI.own_lt e).2
        have hngo : ∀ b, (Value.slice Ao zs.length co).ownBlock = some b → b ≠ wr.heap.size := fun b hb e => by have := (hown.blk' hb).2; omega
        replace hI := hI.ext xw
        replace hG := hG.ext hB xw
        replace hown := hown.ext xw
        replace hzs := fun z hz => (hzs z hz).ext xw
        replace hyok := hyok.ext xw
        replace o3 := fun z hz => (o3 z hz).ext xw
        replace g8 := ext_cell xw g8
        replace hgsz := Nat.le_trans hgsz xw.size
        have HRT : Hid (RowsAt W B 33 5 Iv.cells (some ⟨gh, 0, none⟩) (ys.take k)) := RowsAt.take (RowsAt.ext hRL xw) k
        have HRD : Hid (RowsAt W B 33 5 Iv.cells (if cl = k + 1 then some ⟨gh, 0, none⟩ else some ⟨gh, (k + 1) * 5, none⟩) (ys.drop (k + 1))) := by
          have h5 := (hOff.ext xw).drop_ (m := k + 1) (by omega)
          rw [← List.length_drop] at h5
          show RowsAt W B 33 5 Iv.cells _ _
          split
          · intro i hi
            rw [List.length_drop] at hi
            omega
          · exact h5.rows (B := B)
        have HTL : Hid ((ys.take k).length = k ∧ (ys.drop (k + 1)).length = ys.length - (k + 1)) := ⟨by rw [List.length_take]; omega, List.length_drop ..⟩
        clear hW xw p0 p1 p2 p3 p4 hRL hOff hv' o1
        obtain ⟨gy, hgy⟩ : ∃ gy, gy = wr.heap.size := ⟨_, rfl⟩
        rw [← hgy] at bw hny hngo ⊢
        clear hgy wr
        have y5 := fun x' (hx : Ext W x') => ext_cell hx g8
        have hwk : IntKind.i64.wrap ((k : Int) + 1) = (k : Int) + 1 := IntWalk.i64_in _ (by omega)
        have HIW := Lib.hid hI
        refine wp_region_planH3 (.reads 0 (.reads 1 (.reads 2 (.reads 3 (.reads 4 (.reads 5 (.reads 6 (.reads 8 (.reads 9 (.reads 10 (.reads 11 (.reads 12 (.reads 13 (.reads 14 (.makes 7 (.makes 15 (.reads 16 (.reads 17 (.turns 18 (.done)))))))))))))))))))) (by kernel_rfl) (by kernel_rfl) (fun x' => Ext W x') (ext_drewN W 1) (fun ops HOPS => ?_)
        (refine segH_pure _ _ _ _ _ _ (hid_get HOPS 0 _ rfl) rfl wanted_none (fun _ _ _ _ h => h) ?_; intro K hK; go_big_quiet_op; go_big_quiet_on)
        (refine segH_pure _ _ _ _ _ _ (hid_get HOPS 1 _ rfl) rfl wanted_none (fun _ _ _ _ h => h) ?_; intro K hK; go_big_quiet_op; go_big_quiet_on)
        (refine segH_nil _ _ _ _ _ _ _ (hid_get HOPS 2 _ rfl) wanted_none rfl (fun _ _ _ _ h => h) ?_; simp only [Act.put, List.setIfInBounds_toArray, List.set_cons_zero, List.set_cons_succ])
        (refine segH_pure _ _ _ _ _ _ (hid_get HOPS 3 _ rfl) rfl wanted_none (fun _ _ _ _ h => h) ?_; intro K hK; go_big_quiet_op; go_big_quiet_on)
        (refine segH_load _ _ _ _ _ _ _ _ _ (hid_get HOPS 4 _ rfl) wanted_none rfl (fun _ _ _ _ h => h) (fun y hy => by go_simp; try with_reducible rfl) ?_; simp only [Act.put, List.setIfInBounds_toArray, List.set_cons_zero, List.set_cons_succ])
        (refine segH_pure _ _ _ _ _ _ (hid_get HOPS 5 _ rfl) rfl wanted_none (fun _ _ _ _ h => h) ?_; intro K hK; go_big_quiet_op; go_big_quiet_on)
        (refine segH_pure _ _ _ _ _ _ (hid_get HOPS 6 _ rfl) rfl wanted_none (fun _ _ _ _ h => h) ?_; intro K hK; go_big_quiet_op; go_big_quiet_on)
        (refine segH_pure _ _ _ _ _ _ (hid_get HOPS 8 _ rfl) rfl wanted_none (fun _ _ _ _ h => h) ?_; intro K hK; go_big_quiet_op; go_big_quiet_on)
        (refine segH_nil _ _ _ _ _ _ _ (hid_get HOPS 9 _ rfl) wanted_none rfl (fun _ _ _ _ h => h) ?_; simp only [Act.put, List.setIfInBounds_toArray, List.set_cons_zero, List.set_cons_succ])
        (refine segH_pure _ _ _ _ _ _ (hid_get HOPS 10 _ rfl) rfl wanted_none (fun _ _ _ _ h => h) ?_; intro K hK; go_big_quiet_op; go_big_quiet_on)
        (refine segH_load _ _ _ _ _ _ _ _ _ (hid_get HOPS 11 _ rfl) wanted_none rfl (fun _ _ _ _ h => h) (fun y hy => by go_simp; try with_reducible rfl) ?_; simp only [Act.put, List.setIfInBounds_toArray, List.set_cons_zero, List.set_cons_succ])
        (refine segH_pure _ _ _ _ _ _ (hid_get HOPS 12 _ rfl) rfl wanted_none (fun _ _ _ _ h => h) ?_; intro K hK; go_big_quiet_op; go_big_quiet_on)
        (refine segH_pure _ _ _ _ _ _ (hid_get HOPS 13 _ rfl) rfl wanted_none (fun _ _ _ _ h => h) ?_; intro K hK; go_big_quiet_op; go_big_quiet_on)
        (refine segH_pure _ _ _ _ _ _ (hid_get HOPS 14 _ rfl) rfl wanted_none (fun _ _ _ _ h => h) ?_; intro K hK; go_big_quiet_op; go_big_quiet_on)
        refine segH_makes _ _ _ _ _ _ (hid_get HOPS 7 _ rfl) wanted_none (fun K hK => ?_)
        refine wp_append elIv _ _ rfl W.heap.size (.slice none 0 0) [] rfl (Own.nil _ _) (some ⟨gh, 0, none⟩) cl (ys.take k) (by rw [HTL.out.1]; rfl) B (RowsAt.ext HRT.out (ext_drewN W 1)) (by show _ * 56 ≤ _; simp; omega) (by simp; omega) (by simp) ?_
        intro A5 c5 w10 hown10 hg10 hat10
        have P10 : Ext W w10 := ext_trans (ext_drewN W 1) ((Below.refl _ _).grown hg10 (Nat.le_refl _) (fun k hk => by cases hk))
        rw [List.nil_append] at hown10 ⊢
        refine hK _ _ (fun x' => Ext W x') P10 (fun _ h => h) ?_
        clear hK hg10 hat10
        simp only [Act.put, List.setIfInBounds_toArray, List.set_cons_zero, List.set_cons_succ]
        refine segH_makes _ _ _ _ _ _ (hid_get HOPS 15 _ rfl) wanted_none (fun K hK => ?_)
        refine wp_append elIv _ _ rfl W.heap.size (.slice A5 (ys.take k).length c5) (ys.take k) rfl hown10 (if cl = k + 1 then some ⟨gh, 0, none⟩ else some ⟨gh, (k + 1) * 5, none⟩) (cl - (k + 1)) (ys.drop (k + 1)) (by rw [HTL.out.2]; rfl) B (RowsAt.ext HRD.out P10) (by show _ * 56 ≤ _; simp; omega) (by simp; omega) P10.size ?_
        intro A2 c2 w12 hown12 hg12 hat12
        obtain ⟨nl, hnl⟩ : ∃ nl, nl = (ys.take k ++ ys.drop (k + 1)).length := ⟨_, rfl⟩
        rw [← hnl] at hown12 ⊢
        clear hnl
        have P12 : Ext W w12 := P10.grown hg12 P10.size (fun k hk => (hown10.typed hk).1)
        have hst : its (ys.take k ++ ys.drop (k + 1)) = s'.held.eraseIdx k := by
          rw [List.eraseIdx_eq_take_drop_succ, ← o2]
          simp [its, List.map_take, List.map_drop]
        obtain ⟨q1, q2⟩ := HIW.out.setHeld P12 hown12 hst (fun z hz => by
          rcases List.mem_append.1 hz with hz | hz
          · exact (o3 z (List.mem_of_mem_take hz)).ext P12
          · exact (o3 z (List.mem_of_mem_drop hz)).ext P12) (by have := List.length_eraseIdx_le s'.held k; have h9 := HIW.out.fewh; omega)
        have z0 := y5 w12 P12
        have zf : ∀ i, w12.frozen? ⟨r.g, i, none⟩ = false := fun i => by have := (HIW.out.blk.ext P12).frozen i; rw [hmg] at this; exact this
        rw [hmg] at q1 q2
        refine hK _ _ (fun x' => Ext W x') P12 (fun _ h => h) ?_
        clear hK hown12 hg12 hat12 hown10
        simp only [Act.put, List.setIfInBounds_toArray, List.set_cons_zero, List.set_cons_succ]
        (refine segH_nil _ _ _ _ _ _ _ (hid_get HOPS 16 _ rfl) wanted_none rfl (fun _ _ _ _ h => h) ?_; simp only [Act.put, List.setIfInBounds_toArray, List.set_cons_zero, List.set_cons_succ])
        (refine segH_pure _ _ _ _ _ _ (hid_get HOPS 17 _ rfl) rfl wanted_none (fun _ _ _ _ h => h) ?_; intro K hK; go_big_quiet_op; go_big_quiet_on)
        refine segH_turns _ _ _ _ _ _ (hid_get HOPS 18 _ rfl) wanted_none (fun K hK => ?_)
        go_big_op
        refine hK _ _ (fun _ => True) trivial ?_
        clear hK
        refine seg_done ?_
        clear HOPS
        obtain ⟨V, hV⟩ : ∃ V, V = w12.setCell ⟨r.g, 8, none⟩ (.slice A2 nl c2) := ⟨_, rfl⟩
        rw [← hV] at q1 q2 ⊢
        clear y5 z0 zf hwk hV P12 P10 w12 w10
        obtain ⟨r2, hr2⟩ : ∃ r2, r2 = r'.heldTo (.slice A2 nl c2) := ⟨_, rfl⟩
        rw [← hr2] at q1 q2
        have hkq := q2.keeps hI
        have hown3 := hown.mods q2.mods (fun b hb e => hdis b hb (.inl (by rw [e])))
        have hdis3 : ∀ b, (Value.slice Ao zs.length co).ownBlock = some b → ¬ RfOwn r2 b := fun b hb => (q2.free (hown.blk' hb).2 (hdis b hb)).1
        have hzs3 : ∀ z ∈ zs, IvOk V B z := fun z hz => (hzs z hz).keeps hkq (by decide)
        have hyok3 := hyok.keeps hkq (by decide)
        obtain ⟨hny3, hby⟩ := q2.free bw.lt hny
        have bw3 : Blk V gy 33 #[.int .i64 (a : Int), .int .i64 (nv + 1), .int .i64 yt, .bool ysh, .slice Aw yws.length cw] := hby.trans bw
        have hG3 := hG.trans q2
        have hmg2 := hG3.g
        have hgsz3 := Nat.le_trans hgsz q2.below.size
        clear hI hG hown hdis hzs hyok hny bw hr2 hkq q2 hgsz HIW o3 g8 HRT HRD HTL hby W
        rename World => W
        obtain ⟨ov, hov⟩ : ∃ ov, ov = rfOver (rfHold s' (s'.held.eraseIdx k)) (a : Int) := ⟨_, rfl⟩
        have HOV2 : Hid (rfOver (rfHold s' (s'.held.eraseIdx k)) (a : Int) = ov) := hov.symm
        have hov2 : ov = (overL (s'.came a) : Int) := by
          rw [hov]; unfold rfOver; rw [if_pos (by omega)]; rfl
        have HF0 : Hid (rowR s'.held.length s' a = if yt = ov then ((rowR (s'.held.length - 1) (rfCame (rfPull s' k) a ⟨a, nv + 1, yt, ysh, yws⟩) a).1, (⟨a, nv + 1, yt, ysh, yws⟩ : It) :: (rowR (s'.held.length - 1) (rfCame (rfPull s' k) a ⟨a, nv + 1, yt, ysh, yws⟩) a).2) else (rfPull s' k, [])) := by
          show _ = _
          obtain ⟨n9, hn9⟩ : ∃ n9, s'.held.length = n9 + 1 := ⟨s'.held.length - 1, by omega⟩
          rw [hn9, rowR, ← HNL.out]
          simp only [hfi, HYK.out, hov2, Nat.add_sub_cancel]
        clear hov hov2 hfi
        have hc1 := rfOver_any (q1.ext (ext_drewN W 1)) (a : Int)
        rw [hmg2] at hc1
        have f0 := bw3.cell 2
        simp only [List.getElem?_toArray, List.getElem?_cons_zero, List.getElem?_cons_succ] at f0
        have y0 := fun x' (hx : Ext W x') => ext_cell hx f0
        clear f0
        go_upto_region 22 with fail
        by_cases hyt : yt ≠ ov
        · have hd : (yt != ov) = true := by simp [hyt]
          have HF1 := HF0.out
          rw [if_neg hyt] at HF1
          have HF : Hid (RfPutPost w B A c rs lev r s ⟨a, hv + 1, turn, shut, ws⟩ (.returned (.tuple #[.slice Ao zs.length co, .int .i64 (0 : Int)])) (W.drewN 1)) := by
            have e3 := HINV.out.2
            rw [HF1] at e3
            exact ⟨_, zs, r2, by rw [HN.out]; rfl, (hown3.ext (ext_drewN W 1)).le (by omega), by rw [e3]; simp, fun z hz => (hzs3 z hz).ext (ext_drewN W 1), by rw [e3]; exact q1.ext (ext_drewN W 1), hG3.ext hB (ext_drewN W 1)⟩
          clear hown3 hdis3 hzs3 hyok3 hG3 bw3 q1 HF1
          refine wp_region_planH3 (.reads 0 (.reads 1 (.reads 2 (.reads 3 (.makes 4 (.reads 5 (.done))))))) (by kernel_rfl) (by kernel_rfl) (fun x' => Ext W x') (ext_drewN W 1) (fun ops HOPS => ?_)
          (refine segH_pure _ _ _ _ _ _ (hid_get HOPS 0 _ rfl) rfl wanted_none (fun _ _ _ _ h => h) ?_; intro K hK; go_big_quiet_op; go_big_quiet_on)
          (refine segH_load _ _ _ _ _ _ _ _ _ (hid_get HOPS 1 _ rfl) wanted_none rfl (fun _ _ _ _ h => h) (fun y hy => by go_simp; try with_reducible rfl) ?_; simp only [Act.put, List.setIfInBounds_toArray, List.set_cons_zero, List.set_cons_succ])
          (refine segH_pure _ _ _ _ _ _ (hid_get HOPS 2 _ rfl) rfl wanted_none (fun _ _ _ _ h => h) ?_; intro K hK; go_big_quiet_op; go_big_quiet_on)
          (refine segH_pure _ _ _ _ _ _ (hid_get HOPS 3 _ rfl) rfl wanted_none (fun _ _ _ _ h => h) ?_; intro K hK; go_big_quiet_op; go_big_quiet_on)
          refine segH_makes _ _ _ _ _ _ (hid_get HOPS 4 _ rfl) wanted_none (fun K hK => ?_)
          go_big_op
          refine hc1.mono ?_
          rintro e w1 ⟨rfl, rfl⟩
          rw [HOV2.out]
          refine hK _ _ (fun x' => Ext W x') (ext_drewN W 1) (fun _ h => h) ?_
          clear hK hc1
          (refine segH_pure _ _ _ _ _ _ (hid_get HOPS 5 _ rfl) rfl wanted_none (fun _ _ _ _ h => h) ?_; intro K hK; go_big_quiet_op; go_big_quiet_on)
          refine seg_done ?_
          clear HOPS
          clear y0
          go_wp2
          all_goals (go_ret2; exact HF.out)
        obtain rfl : yt = ov := by simpa using hyt
        clear hyt
        refine wp_region_planH3 (.reads 0 (.reads 1 (.reads 2 (.reads 3 (.makes 4 (.reads 5 (.done))))))) (by kernel_rfl) (by kernel_rfl) (fun x' => Ext W x') (ext_drewN W 1) (fun ops HOPS => ?_)
        (refine segH_pure _ _ _ _ _ _ (hid_get HOPS 0 _ rfl) rfl wanted_none (fun _ _ _ _ h => h) ?_; intro K hK; go_big_quiet_op; go_big_quiet_on)
        (refine segH_load _ _ _ _ _ _ _ _ _ (hid_get HOPS 1 _ rfl) wanted_none rfl (fun _ _ _ _ h => h) (fun y hy => by go_simp; try with_reducible rfl) ?_; simp only [Act.put, List.setIfInBounds_toArray, List.set_cons_zero, List.set_cons_succ])
        (refine segH_pure _ _ _ _ _ _ (hid_get HOPS 2 _ rfl) rfl wanted_none (fun _ _ _ _ h => h) ?_; intro K hK; go_big_quiet_op; go_big_quiet_on)
        (refine segH_pure _ _ _ _ _ _ (hid_get HOPS 3 _ rfl) rfl wanted_none (fun _ _ _ _ h => h) ?_; intro K hK; go_big_quiet_op; go_big_quiet_on)
        refine segH_makes _ _ _ _ _ _ (hid_get HOPS 4 _ rfl) wanted_none (fun K hK => ?_)
        go_big_op
        refine hc1.mono ?_
        rintro e w1 ⟨rfl, rfl⟩
        rw [HOV2.out]
        refine hK _ _ (fun x' => Ext W x') (ext_drewN W 1) (fun _ h => h) ?_
        clear hK hc1
        (refine segH_pure _ _ _ _ _ _ (hid_get HOPS 5 _ rfl) rfl wanted_none (fun _ _ _ _ h => h) ?_; intro K hK; go_big_quiet_op; go_big_quiet_on)
        refine seg_done ?_
        clear HOPS
        clear y0
        obtain ⟨W1, hW1⟩ : ∃ W1, W1 = W.drewN 1 := ⟨_, rfl⟩
        have xx : Ext W W1 := by rw [hW1]; exact ext_drewN W 1
        (first | rw [← hW1] | (rw [show W.drew = W.drewN 1 from rfl, ← hW1]))
        clear hW1
        replace q1 := q1.ext xx
        replace hG3 := hG3.ext hB xx
        replace hown3 := hown3.ext xx
        replace hzs3 : ∀ z ∈ zs, IvOk W1 B z := fun z hz => (hzs3 z hz).ext xx
        replace hyok3 := hyok3.ext xx
        replace bw3 := bw3.ext xx
        replace hgsz3 := Nat.le_trans hgsz3 xx.size
        clear xx W
        rename World => W
        have HBk := Lib.hid (rows_block (E := elIv) (B := B) (⟨⟨(a : Int), nv + 1, yt, ysh, yws⟩, Aw, cw⟩ : Iv) (Blk.new W 33 (Iv.cells ⟨⟨(a : Int), nv + 1, yt, ysh, yws⟩, Aw, cw⟩).toArray))
        have HO := Lib.hid (hown3.ext (ext_alloc W (.cells (Iv.cells ⟨⟨(a : Int), nv + 1, yt, ysh, yws⟩, Aw, cw⟩).toArray 33)))
        have hx2 : Ext W (W.alloc (.cells (Iv.cells ⟨⟨(a : Int), nv + 1, yt, ysh, yws⟩, Aw, cw⟩).toArray 33)) := ext_alloc _ _
        have hsz2 := hx2.size
        have f0 := bw3.cell 0
        have f1 := bw3.cell 1
        have f2 := bw3.cell 2
        have f3 := bw3.cell 3
        have f4 := bw3.cell 4
        simp only [List.getElem?_toArray, List.getElem?_cons_zero, List.getElem?_cons_succ] at f0 f1 f2 f3 f4
        have hzl : zs.length ≤ 1000001 := by omega
        go_upto_region 25 with (at_builtin; refine wpList_append elIv rfl _ _ rfl (gx + 1) (.slice Ao zs.length co) zs rfl HO.out _ 1 [(⟨⟨(a : Int), nv + 1, yt, ysh, yws⟩, Aw, cw⟩ : Iv)] rfl B HBk.out (by show _ * 56 ≤ _; simp; omega) (by simp; omega) (by simp; omega) ?_; intro A6 c6 w4 hown4 hg4 hat4)
        clear f0 f1 f2 f3 f4
        have hBg : B ≤ gx + 1 := by omega
        have MS : Mods (fun k => (Value.slice Ao zs.length co).ownBlock = some k) W w4 := (Mods.of_below hx2 _).trans (Mods.grown hg4) (fun k hk h => h)
        have hk4 : Keeps B [33] W w4 := (Keeps.of_ext hx2 B [33]).trans (HO.out.keeps hg4 hBg)
        have q4 := q1.mods MS hdis3 hk4 (by decide) (by decide) (by decide)
        have hyok4 := hyok3.keeps hk4 (by decide)
        have bw4 : Blk w4 gy 33 #[.int .i64 (a : Int), .int .i64 (nv + 1), .int .i64 yt, .bool ysh, .slice Aw yws.length cw] := bw3.mods MS (fun e => hngo _ e rfl)
        have hG4 : RfGo B w r w4 r2 := ⟨hG3.below.trans (MS.below (Nat.le_trans hB hG3.below.size) (fun k e => by have := (hown3.blk' e).1; omega)), hG3.mods.trans MS (fun k hk e => by have := (hown3.blk' e).1; omega), hG3.sub, hG3.g⟩
        have hdis4 : ∀ b, (Value.slice A6 (zs ++ [(⟨⟨a, nv + 1, yt, ysh, yws⟩, Aw, cw⟩ : Iv)]).length c6).ownBlock = some b → ¬ RfOwn r2 b := fun b hob => by
          rcases hat4 with e | e
          · rw [e] at hob; exact hdis3 b hob
          · rw [e] at hob
            injection hob with hob
            subst hob
            intro hc
            exact absurd (Nat.lt_of_lt_of_le (q1.own_lt hc).2 hsz2) (Nat.lt_irrefl _)
        have hzs4 : ∀ z ∈ zs ++ [(⟨⟨a, nv + 1, yt, ysh, yws⟩, Aw, cw⟩ : Iv)], IvOk w4 B z := fun z hz => by
          rcases List.mem_append.1 hz with hz | hz
          · exact (hzs3 z hz).keeps hk4 (by decide)
          · have e1 : z = (⟨⟨a, nv + 1, yt, ysh, yws⟩, Aw, cw⟩ : Iv) := by simpa using hz
            rw [e1]; exact hyok4
        have hgsz4 : gx + 1 ≤ w4.heap.size := Nat.le_trans hgsz3 MS.size
        simp only [List.length_append, List.length_singleton] at hown4 hdis4
        clear hBg MS hk4 q1 hyok3 bw3 hG3 hdis3 hzs3 hgsz3 hown3 HBk HO hx2 hsz2 hg4 hat4
        obtain ⟨gq, hgq⟩ : ∃ gq, gq = W.heap.size := ⟨_, rfl⟩
        rw [← hgq]
        clear hgq W
        rename World => W
        obtain ⟨vs, v1, v2, HOK⟩ := q4.cames a ha
        obtain ⟨Al, cl, hv'⟩ := v1.form
        have g8 := q4.blk.cell (2 + a)
        rw [q4.toc a ha, hv', hmg2] at g8
        rw [hv'] at v1
        have HRL : Hid (RowsIv W B Al vs) := v1.rows (B := B)
        have HVS : Hid (its vs = s'.came a) := v2
        have hnvL := HNL.out
        have hvl : vs.length < 1000000 := by
          have h1 := (It.is_nums hyis).1.2.2
          dsimp only at h1
          have h2 : vs.length = (s'.came a).length := by rw [← HVS.out, its_length]
          omega
        have HLT : Hid ((s'.came a).length < 1000000) := by
          have h2 : vs.length = (s'.came a).length := by rw [← HVS.out, its_length]
          show _ < _
          omega
        clear hnvL
        replace HOK := Lib.hid HOK
        clear v1 v2 hv'
        have HFZ : Hid (∀ {wz : World}, Ext W wz → ∀ i, wz.frozen? ⟨r.g, i, none⟩ = false) := fun {wz} X i => by have := (q4.blk.ext X).frozen i; rw [hmg2] at this; exact this
        have HK1 := Lib.hid (And.intro hk hcn)
        have HFIN : Hid (∀ {wz : World} {v : Value}, Ext W wz → Own elIv wz W.heap.size v (vs ++ [(⟨⟨(a : Int), nv + 1, yt, ysh, yws⟩, Aw, cw⟩ : Iv)]) →
            ∃ (s9 : RfSt) (r9 : RfMem) (zs9 : List Iv), RfAt (wz.setCell ⟨r.g, 2 + a, none⟩ v) B A c rs lev r9 s9 ∧ RfGo B w r (wz.setCell ⟨r.g, 2 + a, none⟩ v) r9 ∧ Own elIv (wz.setCell ⟨r.g, 2 + a, none⟩ v) (gx + 1) (.slice A6 (zs.length + 1) c6) zs9 ∧ gx + 1 ≤ (wz.setCell ⟨r.g, 2 + a, none⟩ v).heap.size ∧ (∀ b, (Value.slice A6 (zs.length + 1) c6).ownBlock = some b → ¬ RfOwn r9 b) ∧ (∀ z ∈ zs9, IvOk (wz.setCell ⟨r.g, 2 + a, none⟩ v) B z) ∧ zs9.length + s9.held.length = s.held.length + 1 ∧
            Hid (RfInv s9 ∧ putRSt (mat rs) lev s ⟨a, hv + 1, turn, shut, ws⟩ = ((rowR s9.held.length s9 a).1, its zs9 ++ (rowR s9.held.length s9 a).2))) := fun {wz v} X hO => by
          have hst : its (vs ++ [(⟨⟨(a : Int), nv + 1, yt, ysh, yws⟩, Aw, cw⟩ : Iv)]) = (rfHold s' (s'.held.eraseIdx k)).came a ++ [(⟨(a : Int), nv + 1, yt, ysh, yws⟩ : It)] := by rw [its_append, HVS.out]; rfl
          obtain ⟨e1, e2⟩ := q4.setTo X ha hO hst (fun z hz => by
            rcases List.mem_append.1 hz with hz | hz
            · exact (HOK.out z hz).ext X
            · have e1 : z = (⟨⟨(a : Int), nv + 1, yt, ysh, yws⟩, Aw, cw⟩ : Iv) := by simpa using hz
              rw [e1]; exact hyok4.ext X) HLT.out
          rw [hmg2] at e1 e2
          have hkq := e2.keeps q4
          have hle : (s'.held.eraseIdx k).length = s'.held.length - 1 := by rw [List.length_eraseIdx, if_pos hk]
          have e7 := HF0.out
          rw [if_pos rfl] at e7
          have e8 := HINV.out.2
          refine ⟨_, _, zs ++ [(⟨⟨(a : Int), nv + 1, yt, ysh, yws⟩, Aw, cw⟩ : Iv)], e1, hG4.trans e2, hown4.mods e2.mods (fun b hb e => hdis4 b hb (.inl (by rw [e]))), Nat.le_trans hgsz4 e2.below.size, fun b hb => (e2.free (hown4.blk' hb).2 (hdis4 b hb)).1, fun z hz => (hzs4 z hz).keeps hkq (by decide), ?_, (HINV.out.1.pull k).came _ _, ?_⟩
          · show (zs ++ [_]).length + (s'.held.eraseIdx k).length = _
            rw [hle, List.length_append, List.length_singleton]
            omega
          · have e9 : (rfCame (rfHold s' (s'.held.eraseIdx k)) a ⟨(a : Int), nv + 1, yt, ysh, yws⟩).held.length = s'.held.length - 1 := hle
            rw [e9, e8, e7, its_append]
            simp [its]
            exact ⟨rfl, rfl⟩
        have f0 := bw4.cell 0
        have f1 := bw4.cell 1
        have f2 := bw4.cell 2
        have f3 := bw4.cell 3
        have f4 := bw4.cell 4
        simp only [List.getElem?_toArray, List.getElem?_cons_zero, List.getElem?_cons_succ] at f0 f1 f2 f3 f4
        have y0 := fun x' (hx : Ext W x') => ext_cell hx f0
        have y1 := fun x' (hx : Ext W x') => ext_cell hx f1
        have y2 := fun x' (hx : Ext W x') => ext_cell hx f2
        have y3 := fun x' (hx : Ext W x') => ext_cell hx f3
        have y4 := fun x' (hx : Ext W x') => ext_cell hx f4
        have y5 := fun x' (hx : Ext W x') => ext_cell hx g8
        have HMS : Hid (zs.length < s.held.length + 1) := by show _ < _; omega
        clear f0 f1 f2 f3 f4 g8 q4 hG4 hown4 hdis4 hzs4 hyok4 bw4 hgsz4 HINV HF0
        refine wp_region_planH3 (.reads 0 (.reads 1 (.reads 2 (.reads 3 (.reads 4 (.reads 5 (.reads 6 (.reads 7 (.reads 9 (.reads 12 (.reads 13 (.fork 8 (.makes 10 (.makes 11 (.reads 14 (.turns 15 (.done))))) 10 (.makes 8 (.makes 11 (.reads 14 (.turns 15 (.done))))))))))))))))) (by kernel_rfl) (by kernel_rfl) (fun x' => Ext W x') (ext_drewN W 1) (fun ops HOPS => ?_)
        (refine segH_pure _ _ _ _ _ _ (hid_get HOPS 0 _ rfl) rfl wanted_none (fun _ _ _ _ h => h) ?_; intro K hK; go_big_quiet_op; go_big_quiet_on)
        (refine segH_pure _ _ _ _ _ _ (hid_get HOPS 1 _ rfl) rfl wanted_none (fun _ _ _ _ h => h) ?_; intro K hK; go_big_quiet_op; go_big_quiet_on)
        (refine segH_pure _ _ _ _ _ _ (hid_get HOPS 2 _ rfl) rfl wanted_none (fun _ _ _ _ h => h) ?_; intro K hK; go_big_quiet_op; go_big_quiet_on)
        (refine segH_pure _ _ _ _ _ _ (hid_get HOPS 3 _ rfl) rfl wanted_none (fun _ _ _ _ h => h) ?_; intro K hK; go_big_quiet_op; go_big_quiet_on)
        (refine segH_nil _ _ _ _ _ _ _ (hid_get HOPS 4 _ rfl) wanted_none rfl (fun _ _ _ _ h => h) ?_; simp only [Act.put, List.setIfInBounds_toArray, List.set_cons_zero, List.set_cons_succ])
        (refine segH_pure _ _ _ _ _ _ (hid_get HOPS 5 _ rfl) rfl wanted_none (fun _ _ _ _ h => h) ?_; intro K hK; go_big_quiet_op; go_big_quiet_on)
        (refine segH_pure _ _ _ _ _ _ (hid_get HOPS 6 _ rfl) rfl wanted_none (fun _ _ _ _ h => h) ?_; intro K hK; go_big_quiet_op; go_big_quiet_on)
        (refine segH_load _ _ _ _ _ _ _ _ _ (hid_get HOPS 7 _ rfl) wanted_none rfl (fun _ _ _ _ h => h) (fun y hy => by go_simp; try with_reducible rfl) ?_; simp only [Act.put, List.setIfInBounds_toArray, List.set_cons_zero, List.set_cons_succ])
        (refine segH_load _ _ _ _ _ _ _ _ _ (hid_get HOPS 9 _ rfl) wanted_none rfl (fun _ _ _ _ h => h) (fun y hy => by go_simp; try with_reducible rfl) ?_; simp only [Act.put, List.setIfInBounds_toArray, List.set_cons_zero, List.set_cons_succ])
        (refine segH_nil _ _ _ _ _ _ _ (hid_get HOPS 12 _ rfl) wanted_none rfl (fun _ _ _ _ h => h) ?_; simp only [Act.put, List.setIfInBounds_toArray, List.set_cons_zero, List.set_cons_succ])
        (refine segH_pure _ _ _ _ _ _ (hid_get HOPS 13 _ rfl) rfl wanted_none (fun _ _ _ _ h => h) ?_; intro K hK; go_big_quiet_op; go_big_quiet_on)
        refine segH_fork _ _ _ _ _ _ _ _ _ _ _ _ (hid_get HOPS 8 _ rfl) (hid_get HOPS 10 _ rfl) wanted_none wanted_none (fun K hK => ?_) (fun K hK => ?_)
        · refine wp_append elIv _ _ rfl W.heap.size (.slice none 0 0) [] rfl (Own.nil _ _) Al cl vs rfl B (RowsAt.ext HRL.out (ext_drewN W 1)) (by show _ * 56 ≤ _; simp; omega) (by simp; omega) (by simp) ?_
          intro A5 c5 w10 hown10 hg10 hat10
          have P10 : Ext W w10 := ext_trans (ext_drewN W 1) ((Below.refl _ _).grown hg10 (Nat.le_refl _) (fun k hk => by cases hk))
          rw [List.nil_append] at hown10 ⊢
          refine hK _ _ (fun x' => Ext W x') P10 (fun _ h => h) ?_
          clear hK hg10 hat10
          simp only [Act.put, List.setIfInBounds_toArray, List.set_cons_zero, List.set_cons_succ]
          refine segH_makes _ _ _ _ _ _ (hid_get HOPS 10 _ rfl) wanted_none (fun K hK => ?_)
          go_big_op
          have P11 : Ext W (w10.alloc (.cells (Iv.cells (⟨⟨(a : Int), nv + 1, yt, ysh, yws⟩, Aw, cw⟩ : Iv)).toArray 33)) := ext_trans P10 (ext_alloc _ _)
          have HB := Lib.hid (rows_block (E := elIv) (B := B) (⟨⟨(a : Int), nv + 1, yt, ysh, yws⟩, Aw, cw⟩ : Iv) (Blk.new w10 33 (Iv.cells (⟨⟨(a : Int), nv + 1, yt, ysh, yws⟩, Aw, cw⟩ : Iv)).toArray))
          have hO11 : Own elIv (w10.alloc (.cells (Iv.cells (⟨⟨(a : Int), nv + 1, yt, ysh, yws⟩, Aw, cw⟩ : Iv)).toArray 33)) W.heap.size (.slice A5 vs.length c5) vs := hown10.ext (ext_alloc _ _)
          refine hK _ _ (fun x' => Ext W x') P11 (fun _ h => h) ?_
          clear hK hown10
          refine segH_makes _ _ _ _ _ _ (hid_get HOPS 11 _ rfl) wanted_none (fun K hK => ?_)
          refine wp_append elIv _ _ rfl W.heap.size (.slice A5 vs.length c5) vs rfl hO11 _ 1 [(⟨⟨(a : Int), nv + 1, yt, ysh, yws⟩, Aw, cw⟩ : Iv)] rfl B HB.out (by show _ * 56 ≤ _; simp; omega) (by simp; omega) P11.size ?_
          intro A2 c2 w12 hown12 hg12 hat12
          have P12 : Ext W w12 := P11.grown hg12 P11.size (fun k hk => (hO11.typed hk).1)
          have HF := Lib.hid (HFIN.out P12 hown12)
          have z0 := y5 w12 P12
          have zf : ∀ i, w12.frozen? ⟨r.g, i, none⟩ = false := fun i => HFZ.out P12 i
          rw [List.length_append, List.length_singleton] at HF ⊢
          refine hK _ _ (fun x' => Ext W x') P12 (fun _ h => h) ?_
          clear hK hown12 hg12 hat12
          simp only [Act.put, List.setIfInBounds_toArray, List.set_cons_zero, List.set_cons_succ]
          (refine segH_pure _ _ _ _ _ _ (hid_get HOPS 14 _ rfl) rfl wanted_none (fun _ _ _ _ h => h) ?_; intro K hK; go_big_quiet_op; go_big_quiet_on)
          refine segH_turns _ _ _ _ _ _ (hid_get HOPS 15 _ rfl) wanted_none (fun K hK => ?_)
          go_big_op
          refine hK _ _ (fun _ => True) trivial ?_
          clear hK
          refine seg_done ?_
          clear HOPS
          clear y0 y1 y2 y3 y4 y5 z0 zf
          go_wp2
          go_roundw
          case rel => exact HF.out
          case measure => have := HMS.out; simp [lenV]; omega
        · go_big_op
          have P11 : Ext W (W.alloc (.cells (Iv.cells (⟨⟨(a : Int), nv + 1, yt, ysh, yws⟩, Aw, cw⟩ : Iv)).toArray 33)).drew := ext_trans (ext_alloc _ _) (ext_drewN _ 1)
          have HB0 := Lib.hid (rows_block (E := elIv) (B := B) (⟨⟨(a : Int), nv + 1, yt, ysh, yws⟩, Aw, cw⟩ : Iv) (Blk.new W 33 (Iv.cells (⟨⟨(a : Int), nv + 1, yt, ysh, yws⟩, Aw, cw⟩ : Iv)).toArray))
          refine hK _ _ (fun x' => Ext W x') P11 (fun _ h => h) ?_
          clear hK
          refine segH_makes _ _ _ _ _ _ (hid_get HOPS 8 _ rfl) wanted_none (fun K hK => ?_)
          refine wp_append elIv _ _ rfl W.heap.size (.slice none 0 0) [] rfl (Own.nil _ _) Al cl vs rfl B (RowsAt.ext HRL.out P11) (by show _ * 56 ≤ _; simp; omega) (by simp; omega) P11.size ?_
          intro A5 c5 w10 hown10 hg10 hat10
          have h65 : Ext (W.alloc (.cells (Iv.cells (⟨⟨(a : Int), nv + 1, yt, ysh, yws⟩, Aw, cw⟩ : Iv)).toArray 33)).drew w10 := (Below.refl _ _).grown hg10 (Nat.le_refl _) (fun k hk => by cases hk)
          have P10 : Ext W w10 := ext_trans P11 h65
          rw [List.nil_append] at hown10 ⊢
          have HB := Lib.hid (RowsAt.ext (RowsAt.ext HB0.out (ext_drewN _ 1)) h65)
          refine hK _ _ (fun x' => Ext W x') P10 (fun _ h => h) ?_
          clear hK hg10 hat10 h65
          simp only [Act.put, List.setIfInBounds_toArray, List.set_cons_zero, List.set_cons_succ]
          refine segH_makes _ _ _ _ _ _ (hid_get HOPS 11 _ rfl) wanted_none (fun K hK => ?_)
          refine wp_append elIv _ _ rfl W.heap.size (.slice A5 vs.length c5) vs rfl hown10 _ 1 [(⟨⟨(a : Int), nv + 1, yt, ysh, yws⟩, Aw, cw⟩ : Iv)] rfl B HB.out (by show _ * 56 ≤ _; simp; omega) (by simp; omega) P10.size ?_
          intro A2 c2 w12 hown12 hg12 hat12
          have P12 : Ext W w12 := P10.grown hg12 P10.size (fun k hk => (hown10.typed hk).1)
          have HF := Lib.hid (HFIN.out P12 hown12)
          have z0 := y5 w12 P12
          have zf : ∀ i, w12.frozen? ⟨r.g, i, none⟩ = false := fun i => HFZ.out P12 i
          rw [List.length_append, List.length_singleton] at HF ⊢
          refine hK _ _ (fun x' => Ext W x') P12 (fun _ h => h) ?_
          clear hK hown12 hg12 hat12
          simp only [Act.put, List.setIfInBounds_toArray, List.set_cons_zero, List.set_cons_succ]
          (refine segH_pure _ _ _ _ _ _ (hid_get HOPS 14 _ rfl) rfl wanted_none (fun _ _ _ _ h => h) ?_; intro K hK; go_big_quiet_op; go_big_quiet_on)
          refine segH_turns _ _ _ _ _ _ (hid_get HOPS 15 _ rfl) wanted_none (fun K hK => ?_)
          go_big_op
          refine hK _ _ (fun _ => True) trivial ?_
          clear hK
          refine seg_done ?_
          clear HOPS
          clear y0 y1 y2 y3 y4 y5 z0 zf
          go_wp2
          go_roundw
          case rel => exact HF.out
          case measure => have := HMS.out; simp [lenV]; omega
end
end Go.Proofs.Ytdknkbpgkkakhaa
