/- Layer 20: Put. -/
import Derived.Test.YtdknkbpgkkakhaaInt7
namespace Go.Proofs.Ytdknkbpgkkakhaa
open Go.RowKit Go.Maps
open Go.ChangeMaps (setBlock)

section
variable {w w' : World} {B : Nat} {A : Option Addr} {c : Nat} {rs : List Rw} {lev : Int} {m : IntMem} {s : IntSt}
theorem IntInv.mono {K K' : Nat} (h : IntInv s K) (hK : K ≤ K') : IntInv s K' := ⟨h.nums, h.held, Nat.le_trans h.came hK⟩
theorem IntInv.rowF {K : Nat} : ∀ (k : Nat) (s : IntSt) (x : It), s.cnt = k → IntInv s K → x.is = true → x.n = s.have_ x.level.toNat + 1 → IntInv (rowF k s x).1 (K + 1) := by
  intro k
  induction k with
  | zero =>
    intro s x _ h hx hn
    exact (h.mono (Nat.le_succ K)).row hx hn h.came
  | succ k ih =>
    intro s x hk h hx hn
    have h1 := (h.mono (Nat.le_succ K)).row hx hn h.came
    unfold Ytdknkbpgkkakhaa.rowF
    cases hh : s.held (x.level, x.n + 1) with
    | none => exact h1
    | some y =>
      dsimp only
      split
      · obtain ⟨i1, i2, i3⟩ := (h.mono (Nat.le_succ K)).row_next hx hn hh
        have hc : (letsSt (comesSt s x) (x.level, x.n + 1)).cnt = k := by
          rw [letsSt_cnt (y := y) (by rw [comesSt_held]; exact hh), comesSt_cnt, hk]; rfl
        refine ih _ y hc ⟨h1.nums, h1.held, ?_⟩ i1 i3
        rw [hc, letsSt_came, comesSt_came]
        have := h.came
        split <;> simp <;> omega
      · exact h1
/-- What Put tells and what it leaves. -/
def putN (ms : Mat) (lev : Int) (s : IntSt) (x : It) : Nat :=
  if x.is = true then
    if labove ms lev x.level = true then
      if x.n ≤ s.have_ x.level.toNat ∨ (s.held (x.level, x.n)).isSome = true then 0
      else if s.have_ x.level.toNat + 1 < x.n then holdsN s
      else if x.turn = s.over x.level.toNat then 0 else 22
    else 20
  else 10
def putSt (ms : Mat) (lev : Int) (s : IntSt) (x : It) : IntSt × List It :=
  if x.is = true then
    if labove ms lev x.level = true then
      if x.n ≤ s.have_ x.level.toNat ∨ (s.held (x.level, x.n)).isSome = true then (s, [])
      else if s.have_ x.level.toNat + 1 < x.n then (holdsSt s x, [])
      else if x.turn = s.over x.level.toNat then rowF s.cnt s x else (s, [])
    else (s, [])
  else (s, [])
theorem IntInv.put {K : Nat} (h : IntInv s K) (ms : Mat) (x : It) : IntInv (putSt ms lev s x).1 (K + 1) := by
  have h1 := h.mono (Nat.le_succ K)
  unfold putSt
  split
  · rename_i hx
    split
    · split
      · exact h1
      · rename_i hno
        split
        · unfold holdsSt
          split
          · refine ⟨h.nums, fun k y hk => ?_, ?_⟩
            · dsimp only at hk
              split at hk
              · injection hk with hk
                subst hk
                rename_i e
                exact ⟨e.symm, hx⟩
              · exact h.held k y hk
            · have := h.came
              show s.came.length + (s.cnt + 1) ≤ _
              omega
          · exact h1
        · split
          · exact h.rowF _ _ _ rfl hx (by omega)
          · exact h1
    · exact h1
  · exact h1
def PutPost (w : World) (B : Nat) (A : Option Addr) (c : Nat) (rs : List Rw) (lev : Int) (m : IntMem) (s : IntSt) (x : It) (e : Ending) (w' : World) : Prop :=
  ∃ v zs m', e = .returned (.tuple #[v, .int .i64 (putN (mat rs) lev s x : Int)]) ∧ Own elIv w' w.heap.size v zs ∧ its zs = (putSt (mat rs) lev s x).2 ∧ (∀ z ∈ zs, IvOk w' B z) ∧ IntAt w' B A c rs lev m' (putSt (mat rs) lev s x).1 ∧ IntGo B w m w' m'
theorem putPost_nil {x : It} {n : Nat} (h : IntAt w' B A c rs lev m s) (k : IntGo B w m w' m) (hn : putN (mat rs) lev s x = n) (hs : putSt (mat rs) lev s x = (s, [])) :
    PutPost w B A c rs lev m s x (.returned (.tuple #[.slice none 0 0, .int .i64 (n : Int)])) w' :=
  ⟨_, [], m, by rw [hn], Own.nil _ _, by rw [hs]; rfl, by simp, by rw [hs]; exact h, k⟩
set_option maxRecDepth 100000 in
set_option maxHeartbeats 4000000 in
theorem intPut_any (h : IntAt w B A c rs lev m s) (x : Iv) (hx : IvOk w B x) {K : Nat} (hi : IntInv s K) (hK : K < 1000000) (hl : rs.length ≤ 9223372036854775807) :
    Calls Try.prog 77 #[.pointer (some ⟨m.ga, 0, none⟩), .agg #[.int .i64 x.it.level, .int .i64 x.it.n, .int .i64 x.it.turn, .bool x.it.shut, .slice x.A x.it.ws.length x.c]] w (PutPost w B A c rs lev m s x.it) := by
  obtain ⟨⟨level, n, turn, shut, ws⟩, Ax, cx⟩ := x
  dsimp only
  have hB := h.base_le
  obtain ⟨W, hW⟩ : ∃ W, W = w.alloc (.cells #[.int .i64 level, .int .i64 n, .int .i64 turn, .bool shut, .slice Ax ws.length cx] 33) := ⟨_, rfl⟩
  have x0 : Ext w W := by rw [hW]; exact ext_alloc _ _
  have b0 : Blk W w.heap.size 33 #[.int .i64 level, .int .i64 n, .int .i64 turn, .bool shut, .slice Ax ws.length cx] := by rw [hW]; exact Blk.new _ _ _
  have HI := h.ext x0
  have hgo := IntGo.of_ext x0 hB m
  have hx1 := hx.ext x0
  have HW : Hid (w.alloc (.cells #[.int .i64 level, .int .i64 n, .int .i64 turn, .bool shut, .slice Ax ws.length cx] 33) = W) := hW.symm
  have hown : Hid (¬ IntOwn m w.heap.size) := fun e => by have := (h.own_lt e).2; omega
  have HINV := Lib.hid (And.intro hi hK)
  clear hW h hx x0 hi hK
  go_enter Try.func77, Try.ntmps77
  go_upto_region 1 with fail
  rw [HW.out]
  clear HW
  obtain ⟨gx, hgx⟩ : ∃ gx, gx = w.heap.size := ⟨_, rfl⟩
  rw [← hgx] at b0 hown ⊢
  have HGX : w.heap.size ≤ gx ∧ gx ≤ w.heap.size := ⟨Nat.le_of_eq hgx.symm, Nat.le_of_eq hgx⟩
  clear hgx
  have r0 := b0.cell 0
  have r1 := b0.cell 1
  have r2 := b0.cell 2
  have r3 := b0.cell 3
  have r4 := b0.cell 4
  simp only [List.getElem?_toArray, List.getElem?_cons_zero, List.getElem?_cons_succ] at r0 r1 r2 r3 r4
  go_wp2_with fail
  refine (itemIs_any (⟨level, n, turn, shut, ws⟩ : It) _ _ _ B hx1.at_ hx1.wr hx1.le).mono ?_
  rintro e w1 ⟨rfl, x1⟩
  clear r0 r1 r2 r3 r4
  replace b0 := b0.ext x1
  replace HI := HI.ext x1
  replace hgo := hgo.ext hB x1
  replace hx1 := hx1.ext x1
  clear x1 W
  rename World => W
  cases hxi : It.is ⟨level, n, turn, shut, ws⟩
  · have HF : Hid (PutPost w B A c rs lev m s ⟨level, n, turn, shut, ws⟩ (.returned (.tuple #[.slice none 0 0, .int .i64 (10 : Int)])) W) := putPost_nil (n := 10) HI hgo (by unfold putN; rw [if_neg (by rw [hxi]; exact Bool.false_ne_true)]) (by unfold putSt; rw [if_neg (by rw [hxi]; exact Bool.false_ne_true)])
    clear HI hgo b0 hx1 hown HINV
    go_wp2
    go_ret2
    exact HF.out
  obtain ⟨a, ha, rfl⟩ : ∃ a : Nat, a < 6 ∧ level = (a : Int) := by
    have := (It.is_nums hxi).1.1
    dsimp only at this
    exact ⟨level.toNat, by omega, by omega⟩
  have HXI := Lib.hid hxi
  have HNN := Lib.hid (It.is_nums hxi)
  have HN : Hid (putN (mat rs) lev s ⟨a, n, turn, shut, ws⟩ = if labove (mat rs) lev a = true then if n ≤ s.have_ a ∨ (s.held ((a : Int), n)).isSome = true then 0 else if s.have_ a + 1 < n then holdsN s else if turn = s.over a then 0 else 22 else 20) := by
    show _ = _
    unfold putN
    rw [if_pos hxi]; rfl
  have HS : Hid (putSt (mat rs) lev s ⟨a, n, turn, shut, ws⟩ = if labove (mat rs) lev a = true then if n ≤ s.have_ a ∨ (s.held ((a : Int), n)).isSome = true then (s, []) else if s.have_ a + 1 < n then (holdsSt s ⟨a, n, turn, shut, ws⟩, []) else if turn = s.over a then rowF s.cnt s ⟨a, n, turn, shut, ws⟩ else (s, []) else (s, [])) := by
    show _ = _
    unfold putSt
    rw [if_pos hxi]; rfl
  clear hxi
  go_upto_region 3 with fail
  have f0 := b0.cell 0
  have f1 := HI.blk.cell 0
  have f2 := HI.blk.cell 1
  rw [HI.lat] at f1
  rw [HI.lev_] at f2
  simp only [List.getElem?_toArray, List.getElem?_cons_zero, List.getElem?_cons_succ] at f0
  have y0 := fun x' (hx : Ext W x') => ext_cell hx f0
  have y1 := fun x' (hx : Ext W x') => ext_cell hx f1
  have y2 := fun x' (hx : Ext W x') => ext_cell hx f2
  clear f0 f1 f2
  refine wp_region_planH3 (.reads 0 (.reads 1 (.reads 2 (.reads 3 (.reads 4 (.reads 5 (.reads 6 (.reads 7 (.reads 8 (.reads 9 (.makes 10 (.reads 11 (.reads 12 (.done)))))))))))))) (by kernel_rfl) (by kernel_rfl) (fun x' => Ext W x') (ext_drewN W 1) (fun ops HOPS => ?_)
  (refine segH_pure _ _ _ _ _ _ (hid_get HOPS 0 _ rfl) rfl wanted_none (fun _ _ _ _ h => h) ?_; intro K hK; go_big_quiet_op; go_big_quiet_on)
  (refine segH_nil _ _ _ _ _ _ _ (hid_get HOPS 1 _ rfl) wanted_none rfl (fun _ _ _ _ h => h) ?_; simp only [Act.put, List.setIfInBounds_toArray, List.set_cons_zero, List.set_cons_succ])
  (refine segH_pure _ _ _ _ _ _ (hid_get HOPS 2 _ rfl) rfl wanted_none (fun _ _ _ _ h => h) ?_; intro K hK; go_big_quiet_op; go_big_quiet_on)
  (refine segH_load _ _ _ _ _ _ _ _ _ (hid_get HOPS 3 _ rfl) wanted_none rfl (fun _ _ _ _ h => h) (fun y hy => by go_simp; try with_reducible rfl) ?_; simp only [Act.put, List.setIfInBounds_toArray, List.set_cons_zero, List.set_cons_succ])
  (refine segH_pure _ _ _ _ _ _ (hid_get HOPS 4 _ rfl) rfl wanted_none (fun _ _ _ _ h => h) ?_; intro K hK; go_big_quiet_op; go_big_quiet_on)
  (refine segH_nil _ _ _ _ _ _ _ (hid_get HOPS 5 _ rfl) wanted_none rfl (fun _ _ _ _ h => h) ?_; simp only [Act.put, List.setIfInBounds_toArray, List.set_cons_zero, List.set_cons_succ])
  (refine segH_pure _ _ _ _ _ _ (hid_get HOPS 6 _ rfl) rfl wanted_none (fun _ _ _ _ h => h) ?_; intro K hK; go_big_quiet_op; go_big_quiet_on)
  (refine segH_load _ _ _ _ _ _ _ _ _ (hid_get HOPS 7 _ rfl) wanted_none rfl (fun _ _ _ _ h => h) (fun y hy => by go_simp; try with_reducible rfl) ?_; simp only [Act.put, List.setIfInBounds_toArray, List.set_cons_zero, List.set_cons_succ])
  (refine segH_pure _ _ _ _ _ _ (hid_get HOPS 8 _ rfl) rfl wanted_none (fun _ _ _ _ h => h) ?_; intro K hK; go_big_quiet_op; go_big_quiet_on)
  (refine segH_load _ _ _ _ _ _ _ _ _ (hid_get HOPS 9 _ rfl) wanted_none rfl (fun _ _ _ _ h => h) (fun y hy => by go_simp; try with_reducible rfl) ?_; simp only [Act.put, List.setIfInBounds_toArray, List.set_cons_zero, List.set_cons_succ])
  refine segH_makes _ _ _ _ _ _ (hid_get HOPS 10 _ rfl) wanted_none (fun K hK => ?_)
  go_big_op
  refine (latAbove_any A c rs lev (a : Int) _ B (HI.mat.ext (ext_drewN W 1)) hl).mono ?_
  rintro e w1 ⟨rfl, x1⟩
  have xx : Ext W w1 := ext_trans (ext_drewN W 1) x1
  refine hK _ _ (fun x' => Ext W x') xx (fun _ h => h) ?_
  clear hK
  (refine segH_pure _ _ _ _ _ _ (hid_get HOPS 11 _ rfl) rfl wanted_none (fun _ _ _ _ h => h) ?_; intro K hK; go_big_quiet_op; go_big_quiet_on)
  (refine segH_pure _ _ _ _ _ _ (hid_get HOPS 12 _ rfl) rfl wanted_none (fun _ _ _ _ h => h) ?_; intro K hK; go_big_quiet_op; go_big_quiet_on)
  refine seg_done ?_
  clear HOPS
  clear y0 y1 y2 x1
  replace b0 := b0.ext xx
  replace HI := HI.ext xx
  replace hgo := hgo.ext hB xx
  replace hx1 := hx1.ext xx
  clear xx W
  rename World => W
  cases hab : labove (mat rs) lev (a : Int)
  · have HF : Hid (PutPost w B A c rs lev m s ⟨a, n, turn, shut, ws⟩ (.returned (.tuple #[.slice none 0 0, .int .i64 (20 : Int)])) W) := putPost_nil (n := 20) HI hgo (by rw [HN.out, hab]; rfl) (by rw [HS.out, hab]; rfl)
    clear HI hgo b0 hx1 hown HINV
    go_wp2
    go_ret2
    exact HF.out
  rw [hab, if_pos rfl] at HN
  rw [hab, if_pos rfl] at HS
  clear hab
  have r0 := b0.cell 0
  have r1 := b0.cell 1
  simp only [List.getElem?_toArray, List.getElem?_cons_zero, List.getElem?_cons_succ] at r0 r1
  go_upto_region 6 with fail
  obtain ⟨V, hV⟩ : ∃ V, V = W.alloc (.cells #[.int .i64 (a : Int), .int .i64 n] 143) := ⟨_, rfl⟩
  have xv : Ext W V := by rw [hV]; exact ext_alloc _ _
  have bv : Blk V W.heap.size 143 #[.int .i64 (a : Int), .int .i64 n] := by rw [hV]; exact Blk.new _ _ _
  rw [← hV]
  replace b0 := b0.ext xv
  replace HI := HI.ext xv
  replace hgo := hgo.ext hB xv
  replace hx1 := hx1.ext xv
  clear hV r0 r1 xv
  obtain ⟨gv, hgv⟩ : ∃ gv, gv = W.heap.size := ⟨_, rfl⟩
  rw [← hgv] at bv ⊢
  clear hgv W
  rename World => W
  have f0 := b0.cell 0
  have f1 := HI.blk.cell (2 + a)
  rw [HI.hav a ha] at f1
  simp only [List.getElem?_toArray, List.getElem?_cons_zero] at f0
  have y0 := fun x' (hx : Ext W x') => ext_cell hx f0
  have y1 := fun x' (hx : Ext W x') => ext_cell hx f1
  obtain ⟨hv, hhv⟩ : ∃ hv, hv = s.have_ a := ⟨_, rfl⟩
  rw [← hhv] at y1 HN HS
  have HHV := Lib.hid hhv
  have hnum : 0 ≤ hv ∧ hv ≤ 1000000 := by rw [hhv]; have := HINV.out.1.nums a; omega
  have hwr : IntKind.i64.wrap (hv + 1) = hv + 1 := IntWalk.i64_in _ (by omega)
  have HNUM := Lib.hid hnum
  clear f0 f1 hhv hnum
  refine wp_region_planH3 (.reads 0 (.reads 1 (.reads 2 (.reads 3 (.reads 4 (.reads 5 (.reads 6 (.reads 7 (.reads 8 (.done)))))))))) (by kernel_rfl) (by kernel_rfl) (fun x' => Ext W x') (ext_drewN W 1) (fun ops HOPS => ?_)
  (refine segH_pure _ _ _ _ _ _ (hid_get HOPS 0 _ rfl) rfl wanted_none (fun _ _ _ _ h => h) ?_; intro K hK; go_big_quiet_op; go_big_quiet_on)
  (refine segH_pure _ _ _ _ _ _ (hid_get HOPS 1 _ rfl) rfl wanted_none (fun _ _ _ _ h => h) ?_; intro K hK; go_big_quiet_op; go_big_quiet_on)
  (refine segH_load _ _ _ _ _ _ _ _ _ (hid_get HOPS 2 _ rfl) wanted_none rfl (fun _ _ _ _ h => h) (fun y hy => by go_simp; try with_reducible rfl) ?_; simp only [Act.put, List.setIfInBounds_toArray, List.set_cons_zero, List.set_cons_succ])
  (refine segH_nil _ _ _ _ _ _ _ (hid_get HOPS 3 _ rfl) wanted_none rfl (fun _ _ _ _ h => h) ?_; simp only [Act.put, List.setIfInBounds_toArray, List.set_cons_zero, List.set_cons_succ])
  (refine segH_pure _ _ _ _ _ _ (hid_get HOPS 4 _ rfl) rfl wanted_none (fun _ _ _ _ h => h) ?_; intro K hK; go_big_quiet_op; go_big_quiet_on)
  (refine segH_pure _ _ _ _ _ _ (hid_get HOPS 5 _ rfl) rfl wanted_none (fun _ _ _ _ h => h) ?_; intro K hK; go_big_quiet_op; go_big_quiet_on)
  (refine segH_load _ _ _ _ _ _ _ _ _ (hid_get HOPS 6 _ rfl) wanted_none rfl (fun _ _ _ _ h => h) (fun y hy => by go_simp; try with_reducible rfl) ?_; simp only [Act.put, List.setIfInBounds_toArray, List.set_cons_zero, List.set_cons_succ])
  (refine segH_pure _ _ _ _ _ _ (hid_get HOPS 7 _ rfl) rfl wanted_none (fun _ _ _ _ h => h) ?_; intro K hK; go_big_quiet_op; go_big_quiet_on)
  (refine segH_pure _ _ _ _ _ _ (hid_get HOPS 8 _ rfl) rfl wanted_none (fun _ _ _ _ h => h) ?_; intro K hK; go_big_quiet_op; go_big_quiet_on)
  refine seg_done ?_
  clear HOPS
  obtain ⟨W1, hW1⟩ : ∃ W1, W1 = W.drew := ⟨_, rfl⟩
  have xx : Ext W W1 := by rw [hW1]; exact ext_drewN W 1
  rw [← hW1]
  clear hW1 y0 y1 hwr
  replace b0 := b0.ext xx
  replace bv := bv.ext xx
  replace HI := HI.ext xx
  replace hgo := hgo.ext hB xx
  replace hx1 := hx1.ext xx
  clear xx W
  rename World => W
  go_upto_region 7 with fail
  have f0 := bv.cell 0
  have f1 := bv.cell 1
  have f2 := HI.blk.cell 14
  rw [HI.mapc] at f2
  simp only [List.getElem?_toArray, List.getElem?_cons_zero, List.getElem?_cons_succ] at f0 f1
  have y0 := fun x' (hx : Ext W x') => ext_cell hx f0
  have y1 := fun x' (hx : Ext W x') => ext_cell hx f1
  have y2 := fun x' (hx : Ext W x') => ext_cell hx f2
  clear f0 f1 f2
  obtain ⟨l, hl'⟩ := key143 (x := ((a : Int), n)) (wf64_of (by omega)) (wf64_of (by have := HNN.out.1.2; omega))
  have hlk1 : ∀ x', Ext W x' → (Instr.lookup 137 (.map (some m.mo)) (.agg #[.int .i64 (a : Int), .int .i64 n]) true).run Try.prog x' = .ok (.tuple #[(m.fh ((a : Int), n)).getD (.agg #[.int .i64 0, .int .i64 0, .int .i64 0, .bool false, .slice none 0 0]), .bool (m.fh ((a : Int), n)).isSome]) x' := fun x' hx => (HI.map.ext hx).look keyed143 ul137 (zero33i x') wayV_inj hl'
  clear hl' l
  rcases HI.helds ((a : Int), n) with ⟨e1, e2⟩ | ⟨y, e1, e2, hy⟩
  · simp only [e1, Option.getD_none, Option.isSome_none] at hlk1
    have hlk2 := hlk1
    refine wp_region_planH3 (.reads 0 (.reads 1 (.reads 2 (.reads 3 (.reads 4 (.reads 5 (.reads 6 (.reads 7 (.reads 8 (.makes 9 (.makes 10 (.reads 11 (.done))))))))))))) (by kernel_rfl) (by kernel_rfl) (fun x' => Ext W x') (ext_drewN W 1) (fun ops HOPS => ?_)
    (refine segH_pure _ _ _ _ _ _ (hid_get HOPS 0 _ rfl) rfl wanted_none (fun _ _ _ _ h => h) ?_; intro K hK; go_big_quiet_op; go_big_quiet_on)
    (refine segH_nil _ _ _ _ _ _ _ (hid_get HOPS 1 _ rfl) wanted_none rfl (fun _ _ _ _ h => h) ?_; simp only [Act.put, List.setIfInBounds_toArray, List.set_cons_zero, List.set_cons_succ])
    (refine segH_pure _ _ _ _ _ _ (hid_get HOPS 2 _ rfl) rfl wanted_none (fun _ _ _ _ h => h) ?_; intro K hK; go_big_quiet_op; go_big_quiet_on)
    (refine segH_load _ _ _ _ _ _ _ _ _ (hid_get HOPS 3 _ rfl) wanted_none rfl (fun _ _ _ _ h => h) (fun y hy => by go_simp; try with_reducible rfl) ?_; simp only [Act.put, List.setIfInBounds_toArray, List.set_cons_zero, List.set_cons_succ])
    (refine segH_load _ _ _ _ _ _ _ _ _ (hid_get HOPS 4 _ rfl) wanted_none rfl (fun _ _ _ _ h => h) (fun y hy => by go_simp; try with_reducible rfl) ?_; simp only [Act.put, List.setIfInBounds_toArray, List.set_cons_zero, List.set_cons_succ])
    (refine segH_lookup _ _ _ _ _ _ _ _ _ _ _ _ (hid_get HOPS 5 _ rfl) wanted_none rfl rfl (fun _ _ _ _ h => h) (fun y hy => by first | exact hlk1 y hy | exact hlk2 y hy) ?_; simp only [Act.put, List.setIfInBounds_toArray, List.set_cons_zero, List.set_cons_succ])
    (refine segH_pure _ _ _ _ _ _ (hid_get HOPS 6 _ rfl) rfl wanted_none (fun _ _ _ _ h => h) ?_; intro K hK; go_big_quiet_op; go_big_quiet_on)
    (refine segH_pure _ _ _ _ _ _ (hid_get HOPS 7 _ rfl) rfl wanted_none (fun _ _ _ _ h => h) ?_; intro K hK; go_big_quiet_op; go_big_quiet_on)
    (refine segH_pure _ _ _ _ _ _ (hid_get HOPS 8 _ rfl) rfl wanted_none (fun _ _ _ _ h => h) ?_; intro K hK; go_big_quiet_op; go_big_quiet_on)
    refine segH_makes _ _ _ _ _ _ (hid_get HOPS 9 _ rfl) wanted_none (fun K hK => ?_)
    go_big_op
    have xd : Ext W (W.alloc (.cells #[.int .i64 0, .int .i64 0, .int .i64 0, .bool false, .slice none 0 0] 33)).drew := ext_trans (ext_alloc _ _) (ext_drewN _ 1)
    have b2 := Blk.new W 33 #[.int .i64 0, .int .i64 0, .int .i64 0, .bool false, .slice none 0 0]
    have q0 := b2.cell 0
    have q1 := b2.cell 1
    have q2 := b2.cell 2
    have q3 := b2.cell 3
    have q4 := b2.cell 4
    have fz := b2.frozen
    simp only [List.getElem?_toArray, List.getElem?_cons_zero, List.getElem?_cons_succ] at q0 q1 q2 q3 q4
    refine hK _ _ (fun x' => Ext W x') xd (fun _ h => h) ?_
    clear hK
    refine segH_makes _ _ _ _ _ _ (hid_get HOPS 10 _ rfl) wanted_none (fun K hK => ?_)
    go_big_op
    refine hK _ _ (fun x' => Ext W x') xd (fun _ h => h) ?_
    clear hK q0 q1 q2 q3 q4 fz b2
    (refine segH_pure _ _ _ _ _ _ (hid_get HOPS 11 _ rfl) rfl wanted_none (fun _ _ _ _ h => h) ?_; intro K hK; go_big_quiet_op; go_big_quiet_on)
    refine seg_done ?_
    clear HOPS
    clear y0 y1 y2 hlk1 hlk2
    obtain ⟨W1, hW1⟩ : ∃ W1, W1 = (W.alloc (.cells #[.int .i64 0, .int .i64 0, .int .i64 0, .bool false, .slice none 0 0] 33)).drew := ⟨_, rfl⟩
    rw [← hW1] at xd ⊢
    clear hW1 e1
    replace b0 := b0.ext xd
    replace HI := HI.ext xd
    replace hgo := hgo.ext hB xd
    replace hx1 := hx1.ext xd
    have HSZ : Hid (B ≤ W1.heap.size) := by have := HI.base_le; exact this
    clear xd bv
    obtain ⟨gq, hgq⟩ : ∃ gq, gq = W.heap.size := ⟨_, rfl⟩
    rw [← hgq]
    clear hgq W
    rename World => W
    have r0 := b0.cell 0
    have r1 := b0.cell 1
    have r2 := b0.cell 2
    have r3 := b0.cell 3
    have r4 := b0.cell 4
    simp only [List.getElem?_toArray, List.getElem?_cons_zero, List.getElem?_cons_succ] at r0 r1 r2 r3 r4
    by_cases hn1 : n < hv + 1
    · have HF : Hid (PutPost w B A c rs lev m s ⟨a, n, turn, shut, ws⟩ (.returned (.tuple #[.slice none 0 0, .int .i64 (0 : Int)])) W) := putPost_nil (n := 0) HI hgo (by rw [HN.out, if_pos (.inl (by omega))]) (by rw [HS.out, if_pos (.inl (by omega))])
      clear HI hgo b0 hx1 hown HINV
      go_wp2
      go_ret2
      exact HF.out
    have hno : ¬ (n ≤ hv ∨ (s.held ((a : Int), n)).isSome = true) := by
      rw [e2]; simp; omega
    rw [if_neg hno] at HN HS
    by_cases hn2 : hv + 1 < n
    · rw [if_pos hn2] at HN HS
      have hcm := intHolds_any HI ⟨⟨a, n, turn, shut, ws⟩, Ax, cx⟩ hx1 (wf64_of (by show _ ≤ (a : Int) ∧ (a : Int) ≤ _; omega)) (wf64_of (by have := HNN.out.1.2; show _ ≤ n ∧ n ≤ _; omega)) e2
      go_wp2_with fail
      refine hcm.mono ?_
      clear hcm r0 r1 r2 r3 r4 b0 hx1
      rintro e w2 ⟨rfl, m2, hI2, hG2⟩
      have HF : Hid (PutPost w B A c rs lev m s ⟨a, n, turn, shut, ws⟩ (.returned (.tuple #[.slice none 0 0, .int .i64 (holdsN s : Int)])) w2) :=
        ⟨_, [], m2, by rw [HN.out], Own.nil _ _, by rw [HS.out]; rfl, by simp, by rw [HS.out]; exact hI2, hgo.trans hG2⟩
      clear HI hgo hI2 hG2 hown HINV
      go_wp2
      go_ret2
      exact HF.out
    rw [if_neg hn2] at HN HS
    obtain rfl : n = hv + 1 := by omega
    go_upto_region 12 with fail
    have f0 := HI.blk.cell (8 + a)
    rw [HI.ovr a ha] at f0
    have y0 := fun x' (hx : Ext W x') => ext_cell hx r0
    have y1 := fun x' (hx : Ext W x') => ext_cell hx r2
    have y2 := fun x' (hx : Ext W x') => ext_cell hx f0
    obtain ⟨ov, hov⟩ : ∃ ov, ov = s.over a := ⟨_, rfl⟩
    rw [← hov] at y2 HN HS
    clear f0 r0 r1 r2 r3 r4 hov
    by_cases hot : turn = ov
    · subst hot
      rw [if_pos rfl] at HN HS
      refine wp_region_planH3 (.reads 0 (.reads 1 (.reads 2 (.reads 3 (.reads 4 (.reads 5 (.reads 6 (.reads 7 (.reads 8 (.reads 9 (.reads 10 (.done)))))))))))) (by kernel_rfl) (by kernel_rfl) (fun x' => Ext W x') (ext_drewN W 1) (fun ops HOPS => ?_)
      (refine segH_pure _ _ _ _ _ _ (hid_get HOPS 0 _ rfl) rfl wanted_none (fun _ _ _ _ h => h) ?_; intro K hK; go_big_quiet_op; go_big_quiet_on)
      (refine segH_load _ _ _ _ _ _ _ _ _ (hid_get HOPS 1 _ rfl) wanted_none rfl (fun _ _ _ _ h => h) (fun y hy => by go_simp; try with_reducible rfl) ?_; simp only [Act.put, List.setIfInBounds_toArray, List.set_cons_zero, List.set_cons_succ])
      (refine segH_pure _ _ _ _ _ _ (hid_get HOPS 2 _ rfl) rfl wanted_none (fun _ _ _ _ h => h) ?_; intro K hK; go_big_quiet_op; go_big_quiet_on)
      (refine segH_pure _ _ _ _ _ _ (hid_get HOPS 3 _ rfl) rfl wanted_none (fun _ _ _ _ h => h) ?_; intro K hK; go_big_quiet_op; go_big_quiet_on)
      (refine segH_load _ _ _ _ _ _ _ _ _ (hid_get HOPS 4 _ rfl) wanted_none rfl (fun _ _ _ _ h => h) (fun y hy => by go_simp; try with_reducible rfl) ?_; simp only [Act.put, List.setIfInBounds_toArray, List.set_cons_zero, List.set_cons_succ])
      (refine segH_nil _ _ _ _ _ _ _ (hid_get HOPS 5 _ rfl) wanted_none rfl (fun _ _ _ _ h => h) ?_; simp only [Act.put, List.setIfInBounds_toArray, List.set_cons_zero, List.set_cons_succ])
      (refine segH_pure _ _ _ _ _ _ (hid_get HOPS 6 _ rfl) rfl wanted_none (fun _ _ _ _ h => h) ?_; intro K hK; go_big_quiet_op; go_big_quiet_on)
      (refine segH_pure _ _ _ _ _ _ (hid_get HOPS 7 _ rfl) rfl wanted_none (fun _ _ _ _ h => h) ?_; intro K hK; go_big_quiet_op; go_big_quiet_on)
      (refine segH_load _ _ _ _ _ _ _ _ _ (hid_get HOPS 8 _ rfl) wanted_none rfl (fun _ _ _ _ h => h) (fun y hy => by go_simp; try with_reducible rfl) ?_; simp only [Act.put, List.setIfInBounds_toArray, List.set_cons_zero, List.set_cons_succ])
      (refine segH_pure _ _ _ _ _ _ (hid_get HOPS 9 _ rfl) rfl wanted_none (fun _ _ _ _ h => h) ?_; intro K hK; go_big_quiet_op; go_big_quiet_on)
      (refine segH_pure _ _ _ _ _ _ (hid_get HOPS 10 _ rfl) rfl wanted_none (fun _ _ _ _ h => h) ?_; intro K hK; go_big_quiet_op; go_big_quiet_on)
      refine seg_done ?_
      clear HOPS
      obtain ⟨W1, hW1⟩ : ∃ W1, W1 = W.drew := ⟨_, rfl⟩
      have xx : Ext W W1 := by rw [hW1]; exact ext_drewN W 1
      rw [← hW1]
      clear hW1 y0 y1 y2
      replace b0 := b0.ext xx
      replace HI := HI.ext xx
      replace hgo := hgo.ext hB xx
      replace hx1 := hx1.ext xx
      clear xx W HSZ
      rename World => W
      have r0 := b0.cell 0
      have r1 := b0.cell 1
      have r2 := b0.cell 2
      have r3 := b0.cell 3
      have r4 := b0.cell 4
      simp only [List.getElem?_toArray, List.getElem?_cons_zero, List.getElem?_cons_succ] at r0 r1 r2 r3 r4
      go_wp2_with fail
      refine (itemCopy_any (⟨(a : Int), hv + 1, turn, shut, ws⟩ : It) _ _ _ B hx1.at_ hx1.len).mono ?_
      rintro e w3 ⟨A', c', rfl, hW3, hext⟩
      have hx3 : IvOk w3 B ⟨⟨a, hv + 1, turn, shut, ws⟩, A', c'⟩ := ⟨hW3, hx1.wr, hx1.len⟩
      have HI3 := HI.ext hext
      have hgo3 := hgo.ext hB hext
      clear b0 HI hgo hx1 hext r0 r1 r2 r3 r4 hW3
      have hrw := intRow_any HI3 ⟨⟨a, hv + 1, turn, shut, ws⟩, A', c'⟩ hx3 ha rfl (HINV.out.1.mono (Nat.le_succ _)) HXI.out (by show hv + 1 = _; rw [HHV.out]) HINV.out.1.came HINV.out.2
      go_wp2_with fail
      refine hrw.mono ?_
      clear hrw hx3
      rintro e w4 ⟨v, zs, m4, rfl, hown4, hits, hzs, hI4, hG4⟩
      have HF : Hid (PutPost w B A c rs lev m s ⟨a, hv + 1, turn, shut, ws⟩ (.returned (.tuple #[v, .int .i64 (0 : Int)])) w4) :=
        ⟨_, zs, m4, by rw [HN.out]; rfl, hown4.le hgo3.below.size, by rw [HS.out]; exact hits, hzs, by rw [HS.out]; exact hI4, hgo3.trans hG4⟩
      clear hown4 hits hzs hI4 hG4 HI3 hgo3 hown HINV
      go_wp2
      go_ret2
      exact HF.out
    · rw [if_neg hot] at HN HS
      have hd : (turn != ov) = true := by simp [hot]
      have HI3 := HI.ext (ext_drewN W 1)
      have hgo3 := hgo.ext hB (ext_drewN W 1)
      have HF : Hid (PutPost w B A c rs lev m s ⟨a, hv + 1, turn, shut, ws⟩ (.returned (.tuple #[.slice none 0 0, .int .i64 (22 : Int)])) W.drew) := putPost_nil (n := 22) HI3 hgo3 HN.out HS.out
      clear HI hgo b0 hx1 hown HINV HI3 hgo3
      refine wp_region_planH3 (.reads 0 (.reads 1 (.reads 2 (.reads 3 (.reads 4 (.reads 5 (.reads 6 (.reads 7 (.reads 8 (.reads 9 (.reads 10 (.done)))))))))))) (by kernel_rfl) (by kernel_rfl) (fun x' => Ext W x') (ext_drewN W 1) (fun ops HOPS => ?_)
      (refine segH_pure _ _ _ _ _ _ (hid_get HOPS 0 _ rfl) rfl wanted_none (fun _ _ _ _ h => h) ?_; intro K hK; go_big_quiet_op; go_big_quiet_on)
      (refine segH_load _ _ _ _ _ _ _ _ _ (hid_get HOPS 1 _ rfl) wanted_none rfl (fun _ _ _ _ h => h) (fun y hy => by go_simp; try with_reducible rfl) ?_; simp only [Act.put, List.setIfInBounds_toArray, List.set_cons_zero, List.set_cons_succ])
      (refine segH_pure _ _ _ _ _ _ (hid_get HOPS 2 _ rfl) rfl wanted_none (fun _ _ _ _ h => h) ?_; intro K hK; go_big_quiet_op; go_big_quiet_on)
      (refine segH_pure _ _ _ _ _ _ (hid_get HOPS 3 _ rfl) rfl wanted_none (fun _ _ _ _ h => h) ?_; intro K hK; go_big_quiet_op; go_big_quiet_on)
      (refine segH_load _ _ _ _ _ _ _ _ _ (hid_get HOPS 4 _ rfl) wanted_none rfl (fun _ _ _ _ h => h) (fun y hy => by go_simp; try with_reducible rfl) ?_; simp only [Act.put, List.setIfInBounds_toArray, List.set_cons_zero, List.set_cons_succ])
      (refine segH_nil _ _ _ _ _ _ _ (hid_get HOPS 5 _ rfl) wanted_none rfl (fun _ _ _ _ h => h) ?_; simp only [Act.put, List.setIfInBounds_toArray, List.set_cons_zero, List.set_cons_succ])
      (refine segH_pure _ _ _ _ _ _ (hid_get HOPS 6 _ rfl) rfl wanted_none (fun _ _ _ _ h => h) ?_; intro K hK; go_big_quiet_op; go_big_quiet_on)
      (refine segH_pure _ _ _ _ _ _ (hid_get HOPS 7 _ rfl) rfl wanted_none (fun _ _ _ _ h => h) ?_; intro K hK; go_big_quiet_op; go_big_quiet_on)
      (refine segH_load _ _ _ _ _ _ _ _ _ (hid_get HOPS 8 _ rfl) wanted_none rfl (fun _ _ _ _ h => h) (fun y hy => by go_simp; try with_reducible rfl) ?_; simp only [Act.put, List.setIfInBounds_toArray, List.set_cons_zero, List.set_cons_succ])
      (refine segH_pure _ _ _ _ _ _ (hid_get HOPS 9 _ rfl) rfl wanted_none (fun _ _ _ _ h => h) ?_; intro K hK; go_big_quiet_op; go_big_quiet_on)
      (refine segH_pure _ _ _ _ _ _ (hid_get HOPS 10 _ rfl) rfl wanted_none (fun _ _ _ _ h => h) ?_; intro K hK; go_big_quiet_op; go_big_quiet_on)
      refine seg_done ?_
      clear HOPS
      clear y0 y1 y2 hd
      go_wp2
      go_ret2
      exact HF.out
  · obtain ⟨Y, Ya, Yc⟩ := y
    replace hlk1 : ∀ x', Ext W x' → (Instr.lookup 137 (.map (some m.mo)) (.agg #[.int .i64 (a : Int), .int .i64 n]) true).run Try.prog x' = .ok (.tuple #[.agg #[.int .i64 Y.level, .int .i64 Y.n, .int .i64 Y.turn, .bool Y.shut, .slice Ya Y.ws.length Yc], .bool true]) x' := fun x' hx => by
      have := hlk1 x' hx
      rw [e1] at this
      exact this
    have hlk2 := hlk1
    refine wp_region_planH3 (.reads 0 (.reads 1 (.reads 2 (.reads 3 (.reads 4 (.reads 5 (.reads 6 (.reads 7 (.reads 8 (.makes 9 (.makes 10 (.reads 11 (.done))))))))))))) (by kernel_rfl) (by kernel_rfl) (fun x' => Ext W x') (ext_drewN W 1) (fun ops HOPS => ?_)
    (refine segH_pure _ _ _ _ _ _ (hid_get HOPS 0 _ rfl) rfl wanted_none (fun _ _ _ _ h => h) ?_; intro K hK; go_big_quiet_op; go_big_quiet_on)
    (refine segH_nil _ _ _ _ _ _ _ (hid_get HOPS 1 _ rfl) wanted_none rfl (fun _ _ _ _ h => h) ?_; simp only [Act.put, List.setIfInBounds_toArray, List.set_cons_zero, List.set_cons_succ])
    (refine segH_pure _ _ _ _ _ _ (hid_get HOPS 2 _ rfl) rfl wanted_none (fun _ _ _ _ h => h) ?_; intro K hK; go_big_quiet_op; go_big_quiet_on)
    (refine segH_load _ _ _ _ _ _ _ _ _ (hid_get HOPS 3 _ rfl) wanted_none rfl (fun _ _ _ _ h => h) (fun y hy => by go_simp; try with_reducible rfl) ?_; simp only [Act.put, List.setIfInBounds_toArray, List.set_cons_zero, List.set_cons_succ])
    (refine segH_load _ _ _ _ _ _ _ _ _ (hid_get HOPS 4 _ rfl) wanted_none rfl (fun _ _ _ _ h => h) (fun y hy => by go_simp; try with_reducible rfl) ?_; simp only [Act.put, List.setIfInBounds_toArray, List.set_cons_zero, List.set_cons_succ])
    (refine segH_lookup _ _ _ _ _ _ _ _ _ _ _ _ (hid_get HOPS 5 _ rfl) wanted_none rfl rfl (fun _ _ _ _ h => h) (fun y hy => by first | exact hlk1 y hy | exact hlk2 y hy) ?_; simp only [Act.put, List.setIfInBounds_toArray, List.set_cons_zero, List.set_cons_succ])
    (refine segH_pure _ _ _ _ _ _ (hid_get HOPS 6 _ rfl) rfl wanted_none (fun _ _ _ _ h => h) ?_; intro K hK; go_big_quiet_op; go_big_quiet_on)
    (refine segH_pure _ _ _ _ _ _ (hid_get HOPS 7 _ rfl) rfl wanted_none (fun _ _ _ _ h => h) ?_; intro K hK; go_big_quiet_op; go_big_quiet_on)
    (refine segH_pure _ _ _ _ _ _ (hid_get HOPS 8 _ rfl) rfl wanted_none (fun _ _ _ _ h => h) ?_; intro K hK; go_big_quiet_op; go_big_quiet_on)
    refine segH_makes _ _ _ _ _ _ (hid_get HOPS 9 _ rfl) wanted_none (fun K hK => ?_)
    go_big_op
    have xd : Ext W (W.alloc (.cells #[.int .i64 0, .int .i64 0, .int .i64 0, .bool false, .slice none 0 0] 33)).drew := ext_trans (ext_alloc _ _) (ext_drewN _ 1)
    have b2 := Blk.new W 33 #[.int .i64 0, .int .i64 0, .int .i64 0, .bool false, .slice none 0 0]
    have q0 := b2.cell 0
    have q1 := b2.cell 1
    have q2 := b2.cell 2
    have q3 := b2.cell 3
    have q4 := b2.cell 4
    have fz := b2.frozen
    simp only [List.getElem?_toArray, List.getElem?_cons_zero, List.getElem?_cons_succ] at q0 q1 q2 q3 q4
    refine hK _ _ (fun x' => Ext W x') xd (fun _ h => h) ?_
    clear hK
    refine segH_makes _ _ _ _ _ _ (hid_get HOPS 10 _ rfl) wanted_none (fun K hK => ?_)
    go_big_op
    have xe : Ext W (W.alloc (.cells #[.int .i64 Y.level, .int .i64 Y.n, .int .i64 Y.turn, .bool Y.shut, .slice Ya Y.ws.length Yc] 33)).drew := ext_trans (ext_alloc _ _) (ext_drewN _ 1)
    refine hK _ _ (fun x' => Ext W x') xe (fun _ h => h) ?_
    clear hK q0 q1 q2 q3 q4 fz b2 xd
    (refine segH_pure _ _ _ _ _ _ (hid_get HOPS 11 _ rfl) rfl wanted_none (fun _ _ _ _ h => h) ?_; intro K hK; go_big_quiet_op; go_big_quiet_on)
    refine seg_done ?_
    clear HOPS
    clear y0 y1 y2 hlk1 hlk2
    obtain ⟨W1, hW1⟩ : ∃ W1, W1 = (W.alloc (.cells #[.int .i64 Y.level, .int .i64 Y.n, .int .i64 Y.turn, .bool Y.shut, .slice Ya Y.ws.length Yc] 33)).drew := ⟨_, rfl⟩
    rw [← hW1] at xe ⊢
    clear hW1 e1
    replace b0 := b0.ext xe
    replace HI := HI.ext xe
    replace hgo := hgo.ext hB xe
    have HF : Hid (PutPost w B A c rs lev m s ⟨a, n, turn, shut, ws⟩ (.returned (.tuple #[.slice none 0 0, .int .i64 (0 : Int)])) W1) := putPost_nil (n := 0) HI hgo (by rw [HN.out, if_pos (.inr (by rw [e2]; rfl))]) (by rw [HS.out, if_pos (.inr (by rw [e2]; rfl))])
    have r1 := b0.cell 1
    simp only [List.getElem?_toArray, List.getElem?_cons_zero, List.getElem?_cons_succ] at r1
    clear HI hgo b0 hx1 hown HINV xe bv hy e2
    by_cases hn1 : n < hv + 1
    · go_wp2
      go_ret2
      exact HF.out
    · go_wp2
      go_ret2
      exact HF.out
end
end Go.Proofs.Ytdknkbpgkkakhaa
