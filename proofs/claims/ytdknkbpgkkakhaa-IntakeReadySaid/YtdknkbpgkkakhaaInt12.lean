/- Layer 20: Copy. -/
import Derived.Test.YtdknkbpgkkakhaaInt11
import Derived.Deep.WholeRow
namespace Go.Proofs.Ytdknkbpgkkakhaa
open Go.RowKit Go.Maps
open Go.ChangeMaps (setBlock)

section
open Go.Conc
variable {P : Program} {ops : Array Oper} {Q : Exit → Act → World → Prop} {a : Act} {w w' : World} {i : Nat} {rest : List Nat} {o : Oper}
theorem sem_skip (ho : ops[i]? = some o) (hg : o.guard = none) (hr : (execOp a.eval o).run P w = .ok .skip w')
    (h' : SemOps P ops Q rest (a.put o.dst undef) w') : SemOps P ops Q (i :: rest) a w :=
  sem_step undef ho (fun b k cs => step_lone_go (by
    rw [stepG_op ho (by simp [Region.wanted, hg])]
    simp [stepG.apply, hr])) h'
theorem run_load_op {t : TypeId} {dst : Option Tmp} {x : Operand} {ty : TypeId} {pos : String} {after : Array Edge} {guard : Option (Nat × Bool)} {ad : Addr} {v : Value} (hx : a.eval x = .pointer (some ad)) (h : (Instr.loadAt t (.pointer (some ad))).run P w = .ok v w) :
    (execOp a.eval ⟨dst, .load t x, ty, pos, after, guard⟩).run P w = .ok (.value v) w := by
  simp only [execOp, hx, Sem.run_bind, h, Result.andThen_ok, Sem.run_pure]
theorem run_store_op {t : TypeId} {dst : Option Tmp} {x y : Operand} {ty : TypeId} {pos : String} {after : Array Edge} {guard : Option (Nat × Bool)} {ad : Addr} {v : Value} (hx : a.eval x = .pointer (some ad)) (hy : a.eval y = v) (h : (Instr.storeAt t (.pointer (some ad)) v).run P w = .ok () w') :
    (execOp a.eval ⟨dst, .store t x y, ty, pos, after, guard⟩).run P w = .ok .skip w' := by
  simp only [execOp, hx, hy, Sem.run_bind, h, Result.andThen_ok, Sem.run_pure]
end
theorem agg140 (w : World) : (isAgg 140).run Try.prog w = .ok true w := by kernel_rfl
theorem size140 (w : World) : (sizeOf 140).run Try.prog w = .ok 18 w := by kernel_rfl
section
variable {w w' : World} {B : Nat} {A : Option Addr} {c : Nat} {rs : List Rw} {lev : Int} {m : IntMem} {s : IntSt}
def CopyPost (w : World) (B : Nat) (A : Option Addr) (c : Nat) (rs : List Rw) (lev : Int) (s : IntSt) (e : Ending) (w' : World) : Prop :=
  ∃ m', e = .returned (.pointer (some ⟨m'.ga, 0, none⟩)) ∧ IntAt w' B A c rs lev m' s ∧ Ext w w' ∧ ∀ g, IntOwn m' g → w.heap.size ≤ g
theorem intCs_map (A : Option Addr) (n c : Nat) (lev : Int) (s : IntSt) (mo pc mo' : Nat) (vc v' : Value) : ((intCs A n c lev s mo pc vc).setIfInBounds 14 (.map (some mo'))).setIfInBounds 16 v' = intCs A n c lev s mo' pc v' := by simp [intCs]
theorem intCs_chan (A : Option Addr) (n c : Nat) (lev : Int) (s : IntSt) (mo pc pc' : Nat) (vc : Value) : (intCs A n c lev s mo pc vc).setIfInBounds 15 (.chan (some pc')) = intCs A n c lev s mo pc' vc := by simp [intCs]
set_option maxRecDepth 100000 in
set_option maxHeartbeats 4000000 in
theorem intCopy_any (h : IntAt w B A c rs lev m s) :
    Calls Try.prog 75 #[.pointer (some ⟨m.ga, 0, none⟩)] w (CopyPost w B A c rs lev s) := by
  have hB := h.base_le
  obtain ⟨ys, hO, hys, hok⟩ := h.came
  obtain ⟨A0, c0, hv⟩ := hO.form
  have hb := h.blk
  rw [h.cs_eq, hv] at hb
  have hcl : ys.length ≤ 1000000 := by rw [← its_length, hys]; exact h.camelen
  have hR0 : RowsIv w B A0 ys := by
    rw [hv] at hO
    exact hO.rows (B := B)
  obtain ⟨cs, hcs⟩ : ∃ cs, cs = intCs A rs.length c lev s m.mo m.pc (.slice A0 ys.length c0) := ⟨_, rfl⟩
  have hc18 : cs.size = 18 := by rw [hcs]; rfl
  have hone : cs.all (·.oneCell') = true := by rw [hcs]; simp [intCs, Value.oneCell']
  rw [← hcs] at hb
  obtain ⟨W, hW⟩ : ∃ W, W = w.alloc (.cells cs 140) := ⟨_, rfl⟩
  have x0 : Ext w W := by rw [hW]; exact ext_alloc _ _
  have b0 : Blk W w.heap.size 140 cs := by rw [hW]; exact Blk.new _ _ _
  have HH := Lib.hid h
  have hld : (Instr.loadAt 140 (.pointer (some ⟨m.ga, 0, none⟩))).run Try.prog w = .ok (.agg cs) w := by
    have := run_loadCells_list (P := Try.prog) w ⟨m.ga, 0, none⟩ cs.toList (fun j v hv => by rw [Addr.add_lit, hb.cell]; simpa using hv)
    rw [Array.length_toList, hc18] at this
    simp only [Instr.loadAt, Instr.sureAddr, Sem.run_bind, Sem.run_pure, Result.andThen, loadVar, agg140, size140, this, if_true]
  have hst : (Instr.storeAt 140 (.pointer (some ⟨w.heap.size, 0, none⟩)) (.agg cs)).run Try.prog (w.alloc (.cells #[.slice none 0 0, .int .i64 0, .int .i64 0, .int .i64 0, .int .i64 0, .int .i64 0, .int .i64 0, .int .i64 0, .int .i64 0, .int .i64 0, .int .i64 0, .int .i64 0, .int .i64 0, .int .i64 0, .map none, .chan none, .slice none 0 0, .int .i64 0] 140)) = .ok () W := by
    rw [hW]
    exact run_storeAt_new w 140 _ cs (by rw [hc18]; kernel_rfl) (by rw [hc18]; rfl) hone
  have HC := Lib.hid hcs
  have HC18 := Lib.hid hc18
  clear hW h hv hone hcs hc18
  go_enter Try.func75, Try.ntmps75
  go_upto_region 1 with fail
  refine sem_region ?_
  show SemOps _ _ _ [0, 1, 2, 3, 4] _ _
  refine sem_value (w' := w) (.pointer (some ⟨m.ga, 0, none⟩)) rfl rfl (by kernel_rfl) ?_
  refine sem_value (w' := w) (.pointer (some ⟨m.ga, 0, none⟩)) rfl rfl (by kernel_rfl) ?_
  refine sem_value (w' := w) (.agg cs) rfl rfl (run_load_op rfl hld) ?_
  refine sem_value (w' := w.alloc (.cells #[.slice none 0 0, .int .i64 0, .int .i64 0, .int .i64 0, .int .i64 0, .int .i64 0, .int .i64 0, .int .i64 0, .int .i64 0, .int .i64 0, .int .i64 0, .int .i64 0, .int .i64 0, .int .i64 0, .map none, .chan none, .slice none 0 0, .int .i64 0] 140)) (.pointer (some ⟨w.heap.size, 0, none⟩)) rfl rfl (by kernel_rfl) ?_
  refine sem_skip (w' := W) rfl rfl (run_store_op rfl rfl hst) ?_
  refine semOps_drop 5 ?_
  simp only [List.drop_succ_cons, List.drop_zero, Act.put, List.getElem_toArray, List.getElem_cons_zero, List.getElem_cons_succ, List.setIfInBounds_toArray, List.set_cons_zero, List.set_cons_succ]
  clear hld hst
  go_wp2_with fail
  rw [HC.out] at b0 hb
  obtain ⟨gn, hgn⟩ : ∃ gn, gn = w.heap.size := ⟨_, rfl⟩
  rw [← hgn] at b0 ⊢
  have HGN : Hid (w.heap.size ≤ gn) := Nat.le_of_eq hgn.symm
  have hgl : gn < W.heap.size := b0.lt
  clear hgn
  have f0 := (hb.ext x0).cell 14
  have f1 := (hb.ext x0).cell 16
  simp only [intCs, List.getElem?_toArray, List.getElem?_cons_zero, List.getElem?_cons_succ] at f0 f1
  have hne : m.ga ≠ gn := fun e => by have := hb.lt; have := HGN.out; omega
  have yg : ∀ x', Mods (fun k => k = gn) W x' → ∀ i, x'.cell? ⟨m.ga, i, none⟩ = W.cell? ⟨m.ga, i, none⟩ := fun x' hx i => by rw [((hb.ext x0).mods hx hne).cell, (hb.ext x0).cell]
  have y0 := fun x' hx => (yg x' hx 14).trans f0
  have y1 := fun x' hx => (yg x' hx 16).trans f1
  obtain ⟨es, clock, hmap0, hsz, hE⟩ := (HH.out.map.ext x0).ext (ext_drewN W 1)
  have hmap : W.drew.heap[m.mo]? = some (.map es clock) := hmap0
  clear hmap0
  have HR : Hid (RowsIv W B A0 ys) := RowsAt.ext hR0 x0
  clear f0 f1 yg
  refine wp_region_planH3 (.reads 0 (.reads 1 (.reads 2 (.reads 3 (.reads 5 (.reads 6 (.reads 7 (.reads 8 (.makes 4 (.makes 9 (.reads 10 (.makes 11 (.reads 12 (.turns 13 (.done))))))))))))))) (by kernel_rfl) (by kernel_rfl) (fun x' => Mods (fun k => k = gn) W x') (Mods.of_below (ext_drewN W 1) _) (fun ops HOPS => ?_)
  (refine segH_pure _ _ _ _ _ _ (hid_get HOPS 0 _ rfl) rfl wanted_none (fun _ _ _ _ h => h) ?_; intro K hK; go_big_quiet_op; go_big_quiet_on)
  (refine segH_nil _ _ _ _ _ _ _ (hid_get HOPS 1 _ rfl) wanted_none rfl (fun _ _ _ _ h => h) ?_; simp only [Act.put, List.setIfInBounds_toArray, List.set_cons_zero, List.set_cons_succ])
  (refine segH_pure _ _ _ _ _ _ (hid_get HOPS 2 _ rfl) rfl wanted_none (fun _ _ _ _ h => h) ?_; intro K hK; go_big_quiet_op; go_big_quiet_on)
  (refine segH_load _ _ _ _ _ _ _ _ _ (hid_get HOPS 3 _ rfl) wanted_none rfl (fun _ _ _ _ h => h) (fun y hy => by go_simp; try with_reducible rfl) ?_; simp only [Act.put, List.setIfInBounds_toArray, List.set_cons_zero, List.set_cons_succ])
  (refine segH_pure _ _ _ _ _ _ (hid_get HOPS 5 _ rfl) rfl wanted_none (fun _ _ _ _ h => h) ?_; intro K hK; go_big_quiet_op; go_big_quiet_on)
  (refine segH_nil _ _ _ _ _ _ _ (hid_get HOPS 6 _ rfl) wanted_none rfl (fun _ _ _ _ h => h) ?_; simp only [Act.put, List.setIfInBounds_toArray, List.set_cons_zero, List.set_cons_succ])
  (refine segH_pure _ _ _ _ _ _ (hid_get HOPS 7 _ rfl) rfl wanted_none (fun _ _ _ _ h => h) ?_; intro K hK; go_big_quiet_op; go_big_quiet_on)
  (refine segH_load _ _ _ _ _ _ _ _ _ (hid_get HOPS 8 _ rfl) wanted_none rfl (fun _ _ _ _ h => h) (fun y hy => by go_simp; try with_reducible rfl) ?_; simp only [Act.put, List.setIfInBounds_toArray, List.set_cons_zero, List.set_cons_succ])
  refine segH_makes _ _ _ _ _ _ (hid_get HOPS 4 _ rfl) wanted_none (fun K hK => ?_)
  go_big_op
  refine (mapsClone_any hmap).mono ?_
  rintro e w2 ⟨rfl, rfl⟩
  obtain ⟨mo, hmo⟩ : ∃ mo, mo = W.drew.heap.size := ⟨_, rfl⟩
  rw [← hmo]
  have P2 : Ext W (W.drew.alloc (.map es clock)) := ext_trans (ext_drewN W 1) (ext_alloc _ _)
  have hmN : MapN Try.prog 143 wayV (W.drew.alloc (.map es clock)) mo s.cnt m.fh := ⟨es, clock, by rw [hmo]; exact (MapKept.heap_alloc W.drew _).1, hsz, hE⟩
  obtain ⟨W2, hW2⟩ : ∃ W2, W2 = W.drew.alloc (.map es clock) := ⟨_, rfl⟩
  have hgmo : W.heap.size ≤ mo := Nat.le_of_eq hmo.symm
  rw [← hW2] at P2 hmN ⊢
  clear hW2 hmo
  refine hK _ _ (fun x' => Mods (fun k => k = gn) W x') (Mods.of_below P2 _) (fun _ h => h) ?_
  clear hK
  refine segH_makes _ _ _ _ _ _ (hid_get HOPS 9 _ rfl) wanted_none (fun K hK => ?_)
  go_big_op
  refine (cloneIts_any A0 c0 ys _ B (RowsAt.ext HR.out P2) (by omega)).mono ?_
  rintro e w3 ⟨v3, rfl, hown, x3⟩
  have P3 : Ext W w3 := ext_trans P2 x3
  replace hown : Own elIv w3 W2.heap.size v3 ys := hown
  obtain ⟨A3, c3, rfl⟩ := hown.form
  have gb := b0.ext P3
  have k14 := gb.cell 14
  have k16 := gb.cell 16
  have fz := gb.frozen
  simp only [intCs, List.getElem?_toArray, List.getElem?_cons_zero, List.getElem?_cons_succ] at k14 k16
  refine hK _ _ (fun x' => Mods (fun k => k = gn) W x') (Mods.of_below P3 _) (fun _ h => h) ?_
  clear hK
  (refine segH_pure _ _ _ _ _ _ (hid_get HOPS 10 _ rfl) rfl wanted_none (fun _ _ _ _ h => h) ?_; intro K hK; go_big_quiet_op; go_big_quiet_on)
  refine segH_makes _ _ _ _ _ _ (hid_get HOPS 11 _ rfl) wanted_none (fun K hK => ?_)
  go_big_op
  have M4 : Mods (fun k => k = gn) W (w3.setCell ⟨gn, 14, none⟩ (.map (some mo))) := (Mods.of_below P3 _).trans (mods_setCell w3 ⟨gn, 14, none⟩ _) (fun _ _ e => e)
  refine hK _ _ (fun x' => Mods (fun k => k = gn) W x') M4 (fun _ h => h) ?_
  clear hK
  (refine segH_pure _ _ _ _ _ _ (hid_get HOPS 12 _ rfl) rfl wanted_none (fun _ _ _ _ h => h) ?_; intro K hK; go_big_quiet_op; go_big_quiet_on)
  refine segH_turns _ _ _ _ _ _ (hid_get HOPS 13 _ rfl) wanted_none (fun K hK => ?_)
  go_big_op
  refine hK _ _ (fun _ => True) trivial ?_
  clear hK
  refine seg_done ?_
  clear HOPS
  have M5 : Mods (fun k => k = gn) W ((w3.setCell ⟨gn, 14, none⟩ (.map (some mo))).setCell ⟨gn, 16, none⟩ (.slice A3 ys.length c3)) := M4.trans (mods_setCell _ ⟨gn, 16, none⟩ _) (fun _ _ e => e)
  have mk : Mods (fun k => k = gn) w3 ((w3.setCell ⟨gn, 14, none⟩ (.map (some mo))).setCell ⟨gn, 16, none⟩ (.slice A3 ys.length c3)) := (mods_setCell w3 ⟨gn, 14, none⟩ _).trans (mods_setCell _ ⟨gn, 16, none⟩ _) (fun _ _ e => e)
  have gb5 : Blk ((w3.setCell ⟨gn, 14, none⟩ (.map (some mo))).setCell ⟨gn, 16, none⟩ (.slice A3 ys.length c3)) gn 140 (intCs A rs.length c lev s mo m.pc (.slice A3 ys.length c3)) := by
    have := (gb.set_ 14 (.map (some mo))).set_ 16 (.slice A3 ys.length c3)
    rwa [intCs_map] at this
  obtain ⟨w5, hw5⟩ : ∃ w5, w5 = (w3.setCell ⟨gn, 14, none⟩ (.map (some mo))).setCell ⟨gn, 16, none⟩ (.slice A3 ys.length c3) := ⟨_, rfl⟩
  rw [← hw5] at M5 mk gb5 ⊢
  have hmN5 := (hmN.ext x3).mods mk (fun e => by omega)
  have hown5 := hown.mods mk (fun b hb e => by have := (hown.typed hb).1; have := P2.size; omega)
  have X5 : Ext w w5 := x0.trans (M5.below x0.size (fun k e => by rw [e]; exact HGN.out))
  have hs25 : W2.heap.size ≤ w5.heap.size := Nat.le_trans x3.size mk.size
  clear hw5 M4 mk hmN hown k14 k16 fz gb P3 x3 y0 y1 HR hR0
  have hmc := run_chan40 w5
  have gb5a := gb5.ext (ext_alloc w5 (.chan 40 #[] false 0 0 false))
  have l15 := gb5a.cell 15
  have fz5 := gb5a.frozen
  simp only [intCs, List.getElem?_toArray, List.getElem?_cons_zero, List.getElem?_cons_succ] at l15
  go_upto_region 4 with fail
  obtain ⟨pc, hpc⟩ : ∃ pc, pc = w5.heap.size := ⟨_, rfl⟩
  have hch0 : ChanIs ((w5.alloc (.chan 40 #[] false 0 0 false)).setCell ⟨gn, 15, none⟩ (.chan (some w5.heap.size))) w5.heap.size 40 0 := (ChanIs.new w5 40).mods (mods_setCell _ ⟨gn, 15, none⟩ _) (fun e => by have h9 := gb5.lt; have e' : w5.heap.size = gn := e; omega)
  have gb6 : Blk ((w5.alloc (.chan 40 #[] false 0 0 false)).setCell ⟨gn, 15, none⟩ (.chan (some w5.heap.size))) gn 140 (intCs A rs.length c lev s mo w5.heap.size (.slice A3 ys.length c3)) := by
    have := gb5a.set_ 15 (.chan (some w5.heap.size))
    rwa [intCs_chan] at this
  have mk6 : Mods (fun k => k = gn) w5 ((w5.alloc (.chan 40 #[] false 0 0 false)).setCell ⟨gn, 15, none⟩ (.chan (some w5.heap.size))) := (Mods.of_below (ext_alloc w5 _) _).trans (mods_setCell _ ⟨gn, 15, none⟩ _) (fun _ _ e => e)
  rw [← hpc] at hch0 gb6 mk6 ⊢
  obtain ⟨w6, hw6⟩ : ∃ w6, w6 = (w5.alloc (.chan 40 #[] false 0 0 false)).setCell ⟨gn, 15, none⟩ (.chan (some pc)) := ⟨_, rfl⟩
  rw [← hw6] at hch0 gb6 mk6 ⊢
  have hmN6 := hmN5.mods mk6 (fun e => by omega)
  have hown6 := hown5.mods mk6 (fun b hb e => by have := (hown5.typed hb).1; have := P2.size; omega)
  have X6 : Ext w w6 := X5.trans (mk6.below X5.size (fun k e => by rw [e]; exact HGN.out))
  have hpc1 : W2.heap.size ≤ pc ∧ gn ≠ pc ∧ mo ≠ pc := by
    have h1 := hmN5.lt
    have h2 := gb5.lt
    exact ⟨by omega, by omega, by omega⟩
  clear hw6 hmc fz5 l15 gb5a gb5 mk6 hmN5 hown5 X5 hpc hs25
  obtain ⟨es', clock', hmap6, hsz6, hE6⟩ := hmN6
  have hrg := run_range_map (P := Try.prog) w6 137 143 33 mo es' clock' ul137 hmap6
  have l14 := gb6.cell 14
  simp only [intCs, List.getElem?_toArray, List.getElem?_cons_zero, List.getElem?_cons_succ] at l14
  go_wp2_with fail
  obtain ⟨V, hV⟩ : ∃ V, V = w6.alloc (.mapIter (some mo) clock' #[] clock') := ⟨_, rfl⟩
  have xV : Ext w6 V := by rw [hV]; exact ext_alloc _ _
  have hit : V.heap[w6.heap.size]? = some (.mapIter (some mo) clock' #[] clock') := by rw [hV]; exact (MapKept.heap_alloc w6 _).1
  rw [← hV]
  have gbV := gb6.ext xV
  have hmapV : V.heap[mo]? = some (.map es' clock') := (xV.block mo (Array.getElem?_eq_some_iff.1 hmap6).1).trans hmap6
  have hchV := hch0.ext xV
  have hownV := hown6.ext xV
  have hXV := ext_trans X6 xV
  obtain ⟨r, hr⟩ : ∃ r, r = w6.heap.size := ⟨_, rfl⟩
  rw [← hr] at hit ⊢
  have hrn : r ≠ gn ∧ r ≠ mo ∧ r ≠ pc ∧ w.heap.size ≤ r ∧ r < V.heap.size := by
    have h1 := gb6.lt
    have h2 := (Array.getElem?_eq_some_iff.1 hmap6).1
    have h3 := hch0.lt
    have h4 := (Array.getElem?_eq_some_iff.1 hit).1
    have h5 := X6.size
    exact ⟨by omega, by omega, by omega, by omega, h4⟩
  have hownr : ∀ b, (Value.slice A3 ys.length c3).ownBlock = some b → b ≠ r := fun b hb => by
    have := (hown6.blk' hb).2
    omega
  have hownp : ∀ b, (Value.slice A3 ys.length c3).ownBlock = some b → b ≠ pc ∧ W2.heap.size ≤ b := fun b hb => by
    refine ⟨fun e => ?_, (hown6.typed hb).1⟩
    subst e
    obtain ⟨buf, s1, r1, h1, _⟩ := hch0
    rcases hown6.2 with ⟨h2, _⟩ | ⟨g, cap, cur, h2, _, h3, _⟩
    · rw [h2] at hb; cases hb
    · rw [h2] at hb
      have h4 : g = b := by simpa [Value.ownBlock] using hb
      subst h4
      rw [h1] at h3
      cases h3
  have hfew := HH.out.few
  clear hrg l14 hV hr xV gb6 hmap6 hch0 hown6 X6 w6
  go_loopw [25] (fun _ wr => ∃ (seen : Array Nat) (q0 k : Nat), Mods (fun g => g = r ∨ g = pc) V wr ∧ wr.heap[r]? = some (.mapIter (some mo) clock' seen q0) ∧ clock' ≤ q0 ∧ (leftOf es' seen).size + k = es'.size ∧ ChanIs wr pc 40 k) (fun _ wr => match wr.heap[r]? with | some (.mapIter _ _ seen _) => (leftOf es' seen).size | _ => 0)
  case atStart => exact ⟨#[], clock', 0, Mods.refl _ _, hit, Nat.le_refl _, by simp [leftOf], hchV⟩
  case round =>
    obtain ⟨seen, q0, k, hm, hri, hq, hlk, hch⟩ := hrel
    have hmr : wr.heap[mo]? = some (.map es' clock') := (hm.block mo (Array.getElem?_eq_some_iff.1 hmapV).1 (fun e => e.elim hrn.2.1.symm hpc1.2.2)).trans hmapV
    rcases run_next_at (P := Try.prog) wr 0 r mo clock' q0 seen es' clock' hri hmr hE6.old hq with ⟨h0, hnx⟩ | ⟨e, he, w1, hw1, hnx⟩
    · have hks : k = s.cnt := by rw [← hsz6]; omega
      have hXr : Ext w wr := hXV.trans (hm.below hXV.size (fun g e => by
        rcases e with rfl | rfl
        · exact hrn.2.2.2.1
        · have := x0.size; have := P2.size; omega))
      have hF : Hid (∃ m' : IntMem, m'.ga = gn ∧ IntAt wr B A c rs lev m' s ∧ Ext w wr ∧ ∀ g, IntOwn m' g → w.heap.size ≤ g) := by
        have hx0 := x0.size
        have hp2 := P2.size
        have hgn := HGN.out
        refine ⟨⟨gn, mo, pc, m.fh, intCs A rs.length c lev s mo pc (.slice A3 ys.length c3), .slice A3 ys.length c3⟩, rfl, IntAt.of_parts (ys := ys) ⟨by omega, by omega, by omega⟩ hpc1.2.2 (gbV.mods hm (fun e => e.elim (fun e => hrn.1 e.symm) hpc1.2.1)) ⟨es', clock', hmr, hsz6, hE6⟩ (by rw [← hks]; exact hch) (fun x => (HH.out.helds x).ext hXr) ((hownV.mods hm (fun b hb e => e.elim (hownr b hb) (hownp b hb).1)).off.le (by omega)) hys (fun y hy => (hok y hy).ext hXr) (HH.out.mat.ext hXr) hfew HH.out.camelen, hXr, ?_⟩
        rintro g (hg | hg | hg | hg)
        · have hg' : g = gn := hg
          omega
        · have hg' : g = mo := hg
          omega
        · have hg' : g = pc := hg
          omega
        · have := (hownp g hg).2
          omega
      clear hm hri hq hlk hch hmr gbV hmapV hchV hownV hit hXV hok hO hys hE6 hXr hks
      go_wp2_with fail
      go_ret
      obtain ⟨m', h1, h2⟩ := hF.out
      exact ⟨m', by rw [h1]; rfl, h2⟩
    · have hmem : e ∈ es'.toList := by
        have := he
        simp only [leftOf, Array.toList_filter, List.mem_filter] at this
        exact this.1
      obtain ⟨x, hxk, hxv⟩ := hE6.said e hmem
      have hls := left_step hE6.born he
      have hw1e : Ext wr w1 := by
        rcases hw1 with rfl | rfl
        · exact Below.refl _ _
        · exact ext_drewN wr 1
      obtain ⟨w2, hw2⟩ : ∃ w2, w2 = setBlock w1 r (.mapIter (some mo) clock' (seen.push e.born) clock') := ⟨_, rfl⟩
      rw [← hw2] at hnx
      have m2 : Mods (fun g => g = r) wr w2 := by rw [hw2]; exact (Mods.of_below hw1e _).trans (mods_setBlock _ _ _) (fun _ _ e => e)
      have hri2 : w2.heap[r]? = some (.mapIter (some mo) clock' (seen.push e.born) clock') := by
        have h1 := (Array.getElem?_eq_some_iff.1 hri).1
        have h2 := hw1e.size
        rw [hw2]
        simp [setBlock, Nat.lt_of_lt_of_le h1 h2]
      have hmr2 : w2.heap[mo]? = some (.map es' clock') := (m2.block mo (Array.getElem?_eq_some_iff.1 hmr).1 (fun e => hrn.2.1 e.symm)).trans hmr
      have hen := run_entry_at (P := Try.prog) w2 r mo clock' seen es' clock' e hri2 hmr2 hmem (by
        rw [List.Nodup, List.pairwise_map]
        exact hE6.born)
      rw [hxk] at hnx hen
      unfold wayV at hnx hen
      have gb2 := (gbV.mods hm (fun e => e.elim (fun e => hrn.1 e.symm) hpc1.2.1)).mods m2 (fun e => hrn.1 e.symm)
      have hch2 := hch.mods m2 (fun e => hrn.2.2.1 e.symm)
      have hm2 : Mods (fun g => g = r ∨ g = pc) V w2 := hm.trans m2 (fun _ _ e => .inl e)
      have hbw : Hid (e.born = e.born) := rfl
      have HRI := Lib.hid hri
      clear hw2 hw1 hw1e hm hri hq hmr gbV hmapV hchV hownV hit hXV hok hO hys hch m2
      go_upto_region 7 with fail
      clear hnx hen
      obtain ⟨w4, hw4⟩ : ∃ w4, w4 = w2.alloc (.cells #[.int .i64 x.1, .int .i64 x.2] 143) := ⟨_, rfl⟩
      have x4 : Ext w2 w4 := by rw [hw4]; exact ext_alloc _ _
      have b4 : Blk w4 w2.heap.size 143 #[.int .i64 x.1, .int .i64 x.2] := by rw [hw4]; exact Blk.new _ _ _
      rw [← hw4]
      clear hw4
      have gb4 := gb2.ext x4
      obtain ⟨buf, s1, r1, hbuf, hbsz⟩ := hch2.ext x4
      have hm4 : Mods (fun g => g = r ∨ g = pc) V w4 := hm2.trans (Mods.of_below x4 (fun _ => False)) (fun _ _ e => e.elim)
      have hri4 : w4.heap[r]? = some (.mapIter (some mo) clock' (seen.push e.born) clock') := (x4.block r (Array.getElem?_eq_some_iff.1 hri2).1).trans hri2
      have c0' := gb4.cell 15
      have c1' := b4.cell 0
      have c2' := b4.cell 1
      simp only [intCs, List.getElem?_toArray, List.getElem?_cons_zero, List.getElem?_cons_succ] at c0' c1' c2'
      have hroom : buf.size < 40 := by rw [hbsz]; omega
      clear hch2 hm2 hri2 gb2
      refine sem_region ?_
      show SemOps _ _ _ [0, 1, 2, 3] _ _
      refine sem_value (w' := w4) (.pointer (some ⟨gn, 15, none⟩)) rfl rfl (by kernel_rfl) ?_
      refine sem_value (w' := w4) (.chan (some pc)) rfl rfl (run_load_op rfl ?_) ?_
      · go_simp
      refine sem_value (w' := w4) (.agg #[.int .i64 x.1, .int .i64 x.2]) rfl rfl (run_load_op (ad := ⟨w2.heap.size, 0, none⟩) rfl ?_) ?_
      · go_simp
      refine sem_send (v := .agg #[.int .i64 x.1, .int .i64 x.2]) (z := undef) rfl rfl (by kernel_rfl) hbuf hroom ?_
      refine semOps_drop 4 ?_
      simp only [List.drop_succ_cons, List.drop_zero, Act.put, List.getElem_toArray, List.getElem_cons_zero, List.getElem_cons_succ, List.setIfInBounds_toArray, List.set_cons_zero, List.set_cons_succ]
      have kc := mods_setChan w4 pc 40 (buf.push (.agg #[.int .i64 x.1, .int .i64 x.2])) (s1 + 1) r1
      have hcF : ChanIs (w4.setChan pc 40 (buf.push (.agg #[.int .i64 x.1, .int .i64 x.2])) false (s1 + 1) r1 false) pc 40 (k + 1) := by
        have := chan_set w4 (Array.getElem?_eq_some_iff.1 hbuf).1 40 (buf.push (.agg #[.int .i64 x.1, .int .i64 x.2])) (s1 + 1) r1
        rw [Array.size_push, hbsz] at this
        exact this
      obtain ⟨w5, hw5⟩ : ∃ w5, w5 = w4.setChan pc 40 (buf.push (.agg #[.int .i64 x.1, .int .i64 x.2])) false (s1 + 1) r1 false := ⟨_, rfl⟩
      rw [← hw5] at kc hcF ⊢
      have hri5 : w5.heap[r]? = some (.mapIter (some mo) clock' (seen.push e.born) clock') := (kc.block r (Array.getElem?_eq_some_iff.1 hri4).1 (fun e => hrn.2.2.1 e)).trans hri4
      have hm5 := hm4.trans kc (fun _ _ e => .inr e)
      clear hw5 hbuf hbsz kc hri4 hm4 gb4 b4 c0' c1' c2'
      go_wp2_with fail
      go_roundw
      case rel => exact ⟨seen.push e.born, clock', k + 1, hm5, hri5, Nat.le_refl _, by omega, hcF⟩
      case measure =>
        rw [hri5, HRI.out]
        dsimp only
        omega
end
end Go.Proofs.Ytdknkbpgkkakhaa
