/- Layer 20: slices.IndexFunc and slices.DeleteFunc at items, with the closure of Drop. -/
import Derived.Test.YtdknkbpgkkakhaaInt8
import Derived.Shelf.Abstract
namespace Go.Proofs.Ytdknkbpgkkakhaa
open Go.RowKit Go.Maps
open Go.ChangeMaps (setBlock)

section
variable {w w' : World} {B : Nat}
def late (first : Int) (x : It) : Bool := decide (x.turn < first)
set_option maxRecDepth 100000 in
set_option maxHeartbeats 2000000 in
/-- The closure: is the item of a turn before the first one? -/
theorem drop1_any {g2 ga : Nat} {first : Int} (h1 : w.cell? ⟨g2, 0, none⟩ = some (.pointer (some ⟨ga, 0, none⟩))) (h2 : w.cell? ⟨ga, 7 + 10, none⟩ = some (.int .i64 first)) (x : Iv) :
    Calls Try.prog 102 (#[.agg #[.int .i64 x.it.level, .int .i64 x.it.n, .int .i64 x.it.turn, .bool x.it.shut, .slice x.A x.it.ws.length x.c]] ++ #[.pointer (some ⟨g2, 0, none⟩)]) w fun e w' => e = .returned (.bool (late first x.it)) ∧ Ext w w' := by
  obtain ⟨⟨level, n, turn, shut, ws⟩, Ax, cx⟩ := x
  dsimp only
  show Calls Try.prog 102 #[.agg #[.int .i64 level, .int .i64 n, .int .i64 turn, .bool shut, .slice Ax ws.length cx], .pointer (some ⟨g2, 0, none⟩)] w _
  obtain ⟨W, hW⟩ : ∃ W, W = w.alloc (.cells #[.int .i64 level, .int .i64 n, .int .i64 turn, .bool shut, .slice Ax ws.length cx] 33) := ⟨_, rfl⟩
  have x0 : Ext w W := by rw [hW]; exact ext_alloc _ _
  have b0 : Blk W w.heap.size 33 #[.int .i64 level, .int .i64 n, .int .i64 turn, .bool shut, .slice Ax ws.length cx] := by rw [hW]; exact Blk.new _ _ _
  have f0 := b0.cell 2
  have f1 := ext_cell x0 h1
  have f2 := ext_cell x0 h2
  have HW := Lib.hid hW
  simp only [List.getElem?_toArray, List.getElem?_cons_zero, List.getElem?_cons_succ] at f0
  have y0 := fun x' (hx : Ext W x') => ext_cell hx f0
  have y1 := fun x' (hx : Ext W x') => ext_cell hx f1
  have y2 := fun x' (hx : Ext W x') => ext_cell hx f2
  clear hW h1 h2 b0 f0 f1 f2
  go_enter Try.func102, Try.ntmps102
  go_upto_region 1 with fail
  rw [← HW.out]
  clear HW
  refine wp_region_planH3 (.reads 0 (.reads 1 (.reads 2 (.reads 3 (.reads 4 (.reads 5 (.reads 6 (.reads 7 (.done))))))))) (by kernel_rfl) (by kernel_rfl) (fun x' => Ext W x') (ext_drewN W 1) (fun ops HOPS => ?_)
  (refine segH_pure _ _ _ _ _ _ (hid_get HOPS 0 _ rfl) rfl wanted_none (fun _ _ _ _ h => h) ?_; intro K hK; go_big_quiet_op; go_big_quiet_on)
  (refine segH_load _ _ _ _ _ _ _ _ _ (hid_get HOPS 1 _ rfl) wanted_none rfl (fun _ _ _ _ h => h) (fun y hy => by go_simp; try with_reducible rfl) ?_; simp only [Act.put, List.setIfInBounds_toArray, List.set_cons_zero, List.set_cons_succ])
  (refine segH_load _ _ _ _ _ _ _ _ _ (hid_get HOPS 2 _ rfl) wanted_none rfl (fun _ _ _ _ h => h) (fun y hy => by go_simp; try with_reducible rfl) ?_; simp only [Act.put, List.setIfInBounds_toArray, List.set_cons_zero, List.set_cons_succ])
  (refine segH_nil _ _ _ _ _ _ _ (hid_get HOPS 3 _ rfl) wanted_none rfl (fun _ _ _ _ h => h) ?_; simp only [Act.put, List.setIfInBounds_toArray, List.set_cons_zero, List.set_cons_succ])
  (refine segH_pure _ _ _ _ _ _ (hid_get HOPS 4 _ rfl) rfl wanted_none (fun _ _ _ _ h => h) ?_; intro K hK; go_big_quiet_op; go_big_quiet_on)
  (refine segH_load _ _ _ _ _ _ _ _ _ (hid_get HOPS 5 _ rfl) wanted_none rfl (fun _ _ _ _ h => h) (fun y hy => by go_simp; try with_reducible rfl) ?_; simp only [Act.put, List.setIfInBounds_toArray, List.set_cons_zero, List.set_cons_succ])
  (refine segH_pure _ _ _ _ _ _ (hid_get HOPS 6 _ rfl) rfl wanted_none (fun _ _ _ _ h => h) ?_; intro K hK; go_big_quiet_op; go_big_quiet_on)
  (refine segH_pure _ _ _ _ _ _ (hid_get HOPS 7 _ rfl) rfl wanted_none (fun _ _ _ _ h => h) ?_; intro K hK; go_big_quiet_op; go_big_quiet_on)
  refine seg_done ?_
  clear HOPS
  clear y0 y1 y2
  go_wp2
  go_ret
  exact ⟨rfl, ext_trans x0 (ext_drewN W 1)⟩
def FirstPost (first : Int) (w : World) (ys : List Iv) (e : Ending) (w' : World) : Prop :=
  ((e = .returned (.int .i64 (-1)) ∧ ∀ y ∈ ys, late first y.it = false) ∨
    ∃ k, ∃ hk : k < ys.length, e = .returned (.int .i64 (k : Int)) ∧ late first (ys[k]).it = true ∧ ∀ j, (hj : j < k) → late first (ys[j]'(Nat.lt_trans hj hk)).it = false) ∧ Ext w w'
set_option maxRecDepth 100000 in
set_option maxHeartbeats 2000000 in
theorem indexFunc_any {g2 ga : Nat} {first : Int} (h1 : w.cell? ⟨g2, 0, none⟩ = some (.pointer (some ⟨ga, 0, none⟩))) (h2 : w.cell? ⟨ga, 7 + 10, none⟩ = some (.int .i64 first)) {A : Option Addr} {c : Nat} {ys : List Iv} (hR : RowsIv w B A ys) (hl : ys.length ≤ 9223372036854775807) :
    Calls Try.prog 111 #[.slice A ys.length c, .func (.func 102) #[] #[.pointer (some ⟨g2, 0, none⟩)]] w (FirstPost first w ys) := by
  have eg : ∀ args w, (callFunc 102 args).run Try.prog w = .ok (.enter 102 args) w := enters_of Try.func102 (by kernel_rfl) rfl
  have HD : Hid (∀ (wr : World), Ext w wr → ∀ x : Iv, Calls Try.prog 102 (#[.agg #[.int .i64 x.it.level, .int .i64 x.it.n, .int .i64 x.it.turn, .bool x.it.shut, .slice x.A x.it.ws.length x.c]] ++ #[.pointer (some ⟨g2, 0, none⟩)]) wr fun e w' => e = .returned (.bool (late first x.it)) ∧ Ext wr w') :=
    fun wr hx x => drop1_any (ext_cell hx h1) (ext_cell hx h2) x
  clear h1 h2
  go_enter Try.func111, Try.ntmps111
  go_wp2
  go_loopw [8] (fun i wr => ∃ k : Nat, i = .int .i64 k ∧ k ≤ ys.length ∧ Ext w wr ∧ Hid (∀ j, (hj : j < k) → (hl : j < ys.length) → late first ys[j].it = false)) (fun i _ => ys.length - (intOf i).toNat)
  case atStart => exact ⟨0, rfl, Nat.zero_le _, Below.refl _ _, fun j hj => absurd hj (Nat.not_lt_zero _)⟩
  case round =>
    obtain ⟨k, rfl, hk, hx, HA⟩ := hrel
    by_cases hlt : k < ys.length
    · obtain ⟨ad, hA0, p0, p1, p2, p3, p4⟩ := RowsIv.get (RowsAt.ext hR hx) hlt
      have e0 : A = some ad := hA0
      subst e0
      have hcall := HD.out wr hx ys[k]
      obtain ⟨y, hy⟩ : ∃ y, y = ys[k] := ⟨_, rfl⟩
      rw [← hy] at p0 p1 p2 p3 p4 hcall
      have HY : Hid (∀ hl : k < ys.length, ys[k] = y) := fun _ => hy.symm
      clear hy hR
      obtain ⟨⟨level, n, turn, shut, ws⟩, Ax, cx⟩ := y
      dsimp only at p0 p1 p2 p3 p4 hcall
      cases hq : late first ⟨level, n, turn, shut, ws⟩ with
      | true =>
        rw [hq] at hcall
        have HQ := Lib.hid hq
        clear hq
        go_wp2_with (go_at_fn 102; refine hcall.mono ?_; rintro e w' ⟨rfl, hb'⟩)
        go_ret
        refine ⟨.inr ⟨k, hlt, rfl, by rw [HY.out hlt]; exact HQ.out, fun j hj => HA.out j hj _⟩, ext_trans hx hb'⟩
      | false =>
        rw [hq] at hcall
        have HQ := Lib.hid hq
        clear hq
        go_wp2_with (go_at_fn 102; refine hcall.mono ?_; rintro e w' ⟨rfl, hb'⟩)
        go_roundw
        case rel =>
          refine ⟨k + 1, by go_num, hlt, ext_trans hx hb', fun j hj hl' => ?_⟩
          by_cases e : j < k
          · exact HA.out j e hl'
          · obtain rfl : j = k := by omega
            rw [HY.out hlt]; exact HQ.out
        case measure => simp [intOf]; omega
    · obtain rfl : k = ys.length := by omega
      clear hR
      go_wp2
      go_ret
      refine ⟨.inl ⟨rfl, fun y hy => ?_⟩, hx⟩
      obtain ⟨i, hi, rfl⟩ := List.getElem_of_mem hy
      exact HA.out i hi hi
/-- The cells of a block read as items. -/
def Says (cur : Array Value) (L : List Iv) : Prop := ∀ (j : Nat) (u : Value), (flat Iv.cells L)[j]? = some u → cur[j]? = some u
theorem Says.get {cur : Array Value} {L : List Iv} (h : Says cur L) {k : Nat} (hk : k < L.length) :
    cur[k * 5]? = some (.int .i64 L[k].it.level) ∧ cur[k * 5 + 1]? = some (.int .i64 L[k].it.n) ∧ cur[k * 5 + 2]? = some (.int .i64 L[k].it.turn) ∧ cur[k * 5 + 3]? = some (.bool L[k].it.shut) ∧ cur[k * 5 + 4]? = some (.slice L[k].A L[k].it.ws.length L[k].c) := by
  have f := fun j (hj : j < 5) => flat_get (f := Iv.cells) (s := 5) Iv.cells_len L k hk j hj
  exact ⟨h _ _ ((f 0 (by omega)).trans rfl), h _ _ ((f 1 (by omega)).trans rfl), h _ _ ((f 2 (by omega)).trans rfl), h _ _ ((f 3 (by omega)).trans rfl), h _ _ ((f 4 (by omega)).trans rfl)⟩
def put5 (cur : Array Value) (o : Nat) (x : Iv) : Array Value := ((((cur.setIfInBounds o (.int .i64 x.it.level)).setIfInBounds (o + 1) (.int .i64 x.it.n)).setIfInBounds (o + 2) (.int .i64 x.it.turn)).setIfInBounds (o + 3) (.bool x.it.shut)).setIfInBounds (o + 4) (.slice x.A x.it.ws.length x.c)
theorem put5_size (cur : Array Value) (o : Nat) (x : Iv) : (put5 cur o x).size = cur.size := by simp [put5]
theorem put5_far {cur : Array Value} {o j : Nat} (x : Iv) (h : j < o ∨ o + 5 ≤ j) : (put5 cur o x)[j]? = cur[j]? := by
  unfold put5
  rw [Array.getElem?_setIfInBounds_ne (by omega), Array.getElem?_setIfInBounds_ne (by omega), Array.getElem?_setIfInBounds_ne (by omega), Array.getElem?_setIfInBounds_ne (by omega), Array.getElem?_setIfInBounds_ne (by omega)]
theorem put5_near {cur : Array Value} {o j : Nat} (x : Iv) (h : o + 5 ≤ cur.size) {u : Value} (hu : (Iv.cells x)[j]? = some u) : (put5 cur o x)[o + j]? = some u := by
  unfold put5
  match j, hu with
  | 0, hu =>
    simp only [Nat.add_zero]
    rw [Array.getElem?_setIfInBounds_ne (by omega), Array.getElem?_setIfInBounds_ne (by omega), Array.getElem?_setIfInBounds_ne (by omega), Array.getElem?_setIfInBounds_ne (by omega), Array.getElem?_setIfInBounds_self, if_pos (by omega)]
    simpa [Iv.cells] using hu
  | 1, hu =>
    rw [Array.getElem?_setIfInBounds_ne (by omega), Array.getElem?_setIfInBounds_ne (by omega), Array.getElem?_setIfInBounds_ne (by omega), Array.getElem?_setIfInBounds_self, if_pos (by simp; omega)]
    simpa [Iv.cells] using hu
  | 2, hu =>
    rw [Array.getElem?_setIfInBounds_ne (by omega), Array.getElem?_setIfInBounds_ne (by omega), Array.getElem?_setIfInBounds_self, if_pos (by simp; omega)]
    simpa [Iv.cells] using hu
  | 3, hu =>
    rw [Array.getElem?_setIfInBounds_ne (by omega), Array.getElem?_setIfInBounds_self, if_pos (by simp; omega)]
    simpa [Iv.cells] using hu
  | 4, hu =>
    rw [Array.getElem?_setIfInBounds_self, if_pos (by simp; omega)]
    simpa [Iv.cells] using hu
  | j + 5, hu => simp [Iv.cells] at hu
theorem Says.set {cur : Array Value} {L : List Iv} (h : Says cur L) {i : Nat} (hi : i < L.length) (hs : i * 5 + 5 ≤ cur.size) (x : Iv) : Says (put5 cur (i * 5) x) (L.set i x) := by
  unfold Says
  intro k u hk
  obtain ⟨a, b, ha, hb, rfl, hu⟩ := flat_split (f := Iv.cells) (s := 5) Iv.cells_len hk
  rw [List.length_set] at ha
  by_cases e : a = i
  · subst e
    rw [List.getElem_set_self] at hu
    exact put5_near x hs hu
  · rw [List.getElem_set_ne (fun hc => e hc.symm)] at hu
    rw [put5_far x (by omega)]
    refine h _ _ ?_
    rw [flat_get (f := Iv.cells) (s := 5) Iv.cells_len L a ha b hb]
    exact hu
theorem mods_at5 (w : World) (g o : Nat) (v0 v1 v2 v3 v4 : Value) :
    Mods (fun k => k = g) w (((((w.setCell ⟨g, o, none⟩ v0).setCell ⟨g, o + 1, none⟩ v1).setCell ⟨g, o + 2, none⟩ v2).setCell ⟨g, o + 3, none⟩ v3).setCell ⟨g, o + 4, none⟩ v4) :=
  ((((mods_setCell w ⟨g, o, none⟩ v0).trans (mods_setCell _ ⟨g, o + 1, none⟩ v1) (fun _ _ h => h)).trans (mods_setCell _ ⟨g, o + 2, none⟩ v2) (fun _ _ h => h)).trans (mods_setCell _ ⟨g, o + 3, none⟩ v3) (fun _ _ h => h)).trans (mods_setCell _ ⟨g, o + 4, none⟩ v4) (fun _ _ h => h)
/-- What is kept of the first j items. -/
def kept (first : Int) (ys : List Iv) (j : Nat) : List Iv := (ys.take j).filter fun y => !late first y.it
theorem kept_le (first : Int) (ys : List Iv) (j : Nat) : (kept first ys j).length ≤ j := Nat.le_trans (List.length_filter_le _ _) (by rw [List.length_take]; omega)
theorem kept_succ {first : Int} {ys : List Iv} {j : Nat} (hj : j < ys.length) : kept first ys (j + 1) = if late first (ys[j]).it = true then kept first ys j else kept first ys j ++ [ys[j]] := by
  unfold kept
  rw [List.take_succ_eq_append_getElem hj, List.filter_append]
  cases hq : late first (ys[j]).it <;> simp [hq]
theorem kept_row {first : Int} {ys : List Iv} {j : Nat} (hj : j < ys.length) : (kept first ys j ++ ys.drop (kept first ys j).length).length = ys.length := by
  have := kept_le first ys j
  rw [List.length_append, List.length_drop]
  omega
theorem kept_get {first : Int} {ys : List Iv} {j k : Nat} (hj : j < ys.length) (hk : k < ys.length) (hjk : (kept first ys j).length ≤ k) : (kept first ys j ++ ys.drop (kept first ys j).length)[k]'(by rw [kept_row hj]; exact hk) = ys[k] := by
  rw [List.getElem_append_right hjk, List.getElem_drop]
  congr 1
  omega
theorem kept_set {first : Int} {ys : List Iv} {j : Nat} (hj : j < ys.length) (hq : late first (ys[j]).it = false) :
    (kept first ys j ++ ys.drop (kept first ys j).length).set (kept first ys j).length ys[j] = kept first ys (j + 1) ++ ys.drop (kept first ys (j + 1)).length := by
  have h1 := kept_le first ys j
  rw [kept_succ hj, hq, if_neg Bool.false_ne_true, List.set_append_right _ _ (Nat.le_refl _), Nat.sub_self]
  rw [List.drop_eq_getElem_cons (show (kept first ys j).length < ys.length by omega), List.set_cons_zero, List.append_assoc, List.length_append]
  rfl
theorem zcells33 (k : Nat) : (Builtin.zeroCells (Value.cells (.agg #[.int .i64 0, .int .i64 0, .int .i64 0, .bool false, .slice none 0 0])) k).toList.length = k * 5 ∧
    ∀ u ∈ (Builtin.zeroCells (Value.cells (.agg #[.int .i64 0, .int .i64 0, .int .i64 0, .bool false, .slice none 0 0])) k).toList, u.oneCell' = true := by
  constructor
  · simp [Builtin.zeroCells, Value.cells]
  · intro u hu
    simp only [Builtin.zeroCells, Value.cells, Array.toList_map, List.mem_map] at hu
    obtain ⟨i, _, rfl⟩ := hu
    have h5 : i % 5 < 5 := Nat.mod_lt _ (by omega)
    show (#[Value.int .i64 0, .int .i64 0, .int .i64 0, .bool false, .slice none 0 0][i % 5]!).oneCell' = true
    generalize i % 5 = q at h5 ⊢
    obtain rfl | rfl | rfl | rfl | rfl : q = 0 ∨ q = 1 ∨ q = 2 ∨ q = 3 ∨ q = 4 := by omega
    all_goals rfl
/-- clear of the elements behind the first i. -/
theorem run_clear_tail {w : World} {g : Nat} {cur : Array Value} (hb : Blk w g 33 cur) {i k : Nat} (hs : (i + k) * 5 ≤ cur.size) (ty : TypeId) :
    ∃ w' cur', (∀ c, (Builtin.clear_ #[22] ty #[.slice (some ⟨g, i * 5, none⟩) k c]).run Try.prog w = .ok (.tuple #[]) w') ∧ Blk w' g 33 cur' ∧ cur'.size = cur.size ∧ (∀ j, j < i * 5 → cur'[j]? = cur[j]?) ∧ Mods (fun x => x = g) w w' := by
  cases k with
  | zero => exact ⟨w, cur, fun c => by simp [Builtin.clear_, run_underlying Try.underlying22, Result.andThen], hb, rfl, fun _ _ => rfl, Mods.refl _ _⟩
  | succ k =>
    obtain ⟨hz1, hz2⟩ := zcells33 (k + 1)
    have hst := run_storeCells_at Try.prog g (i * 5) 33 _ 0 cur w hb (by rw [hz1]; omega) hz2
    simp only [Nat.add_zero] at hst
    generalize hz : (Builtin.zeroCells (Value.cells (.agg #[.int .i64 0, .int .i64 0, .int .i64 0, .bool false, .slice none 0 0])) (k + 1)).toList = zz at hz1 hz2 hst
    refine ⟨_, _, fun c => ?_, setRow_heap w g cur (cur.toList.take (i * 5) ++ zz ++ cur.toList.drop (i * 5 + zz.length)).toArray 33 _ hb, ?_, fun j hj => ?_, ⟨rfl, rfl, rfl, by simp, fun k' _ hk => setRow_other w g k' _ (fun e => hk e)⟩⟩
    · simp [Builtin.clear_, run_underlying Try.underlying22, hz, hst]
    · simp only [List.size_toArray, List.length_append, List.length_take, List.length_drop, Array.length_toList]
      omega
    · rw [List.append_assoc, List.getElem?_toArray, List.getElem?_append_left (by rw [List.length_take, Array.length_toList]; omega), List.getElem?_take, if_pos hj, Array.getElem?_toList]
def DelPost (first : Int) (w : World) (base : Nat) (v : Value) (ys : List Iv) (e : Ending) (w' : World) : Prop :=
  ∃ v', e = .returned v' ∧ Off elIv w' base v' (ys.filter fun y => !late first y.it) ∧ Mods (fun k => v.ownBlock = some k) w w' ∧ (v'.ownBlock = v.ownBlock)
theorem kept_all (first : Int) (ys : List Iv) : kept first ys ys.length = ys.filter fun y => !late first y.it := by unfold kept; rw [List.take_length]
theorem kept_start {first : Int} {ys : List Iv} {k : Nat} (hk : k < ys.length) (hl : late first (ys[k]).it = true) (ha : ∀ j, (hj : j < k) → late first (ys[j]'(Nat.lt_trans hj hk)).it = false) : kept first ys (k + 1) = ys.take k := by
  rw [kept_succ hk, if_pos hl]
  unfold kept
  rw [List.filter_eq_self]
  intro y hy
  obtain ⟨i, hi, rfl⟩ := List.getElem_of_mem hy
  rw [List.getElem_take]
  rw [List.length_take] at hi
  rw [ha i (by omega)]; rfl
set_option maxRecDepth 100000 in
set_option maxHeartbeats 4000000 in
theorem deleteFunc_any {g2 ga base : Nat} {first : Int} (h1 : w.cell? ⟨g2, 0, none⟩ = some (.pointer (some ⟨ga, 0, none⟩))) (h2 : w.cell? ⟨ga, 7 + 10, none⟩ = some (.int .i64 first)) (hg2 : g2 < base) (hga : ga < base) (hbase : base ≤ w.heap.size) {A : Option Addr} {c : Nat} {ys : List Iv} (hO : Own elIv w base (.slice A ys.length c) ys) (hl : ys.length ≤ 1000000) :
    Calls Try.prog 101 #[.slice A ys.length c, .func (.func 102) #[] #[.pointer (some ⟨g2, 0, none⟩)]] w (DelPost first w base (.slice A ys.length c) ys) := by
  have eg : ∀ args w, (callFunc 102 args).run Try.prog w = .ok (.enter 102 args) w := enters_of Try.func102 (by kernel_rfl) rfl
  have hix := indexFunc_any (B := base) h1 h2 (hO.rows (B := base)) (c := c) (by omega)
  go_enter Try.func101, Try.ntmps101
  go_wp2_with fail
  refine hix.mono ?_
  clear hix
  rintro e w1 ⟨hcase, x1⟩
  rcases hcase with ⟨rfl, hno⟩ | ⟨k, hk, rfl, hkl, hkb⟩
  · have HF : Hid (Off elIv w1 base (.slice A ys.length c) (ys.filter fun y => !late first y.it) ∧ Mods (fun k => (Value.slice A ys.length c).ownBlock = some k) w w1) := by
      refine ⟨?_, Mods.of_below x1 _⟩
      rw [List.filter_eq_self.2 (fun y hy => by rw [hno y hy]; rfl)]
      exact (hO.ext x1).off
    clear hno hO h1 h2
    go_wp2
    go_ret
    exact ⟨_, rfl, HF.out.1, HF.out.2, rfl⟩
  · rcases hO.2 with ⟨hv, h0⟩ | ⟨g, cap, cur0, hv, hbg, hg0, hnc, hcm, hsz, htk⟩
    · omega
    injection hv with hA _ hc
    subst hA hc
    have hb1 : Blk w1 g 33 cur0 := (show Blk w g 33 cur0 from hg0).ext x1
    have hsay : Says cur0 ys := fun j u hj => by
      have h5 : cur0.toList.take (ys.length * 5) = flat Iv.cells ys := htk
      rw [← h5, List.getElem?_take] at hj
      split at hj
      · simpa using hj
      · cases hj
    have hsz5 : cur0.size = c * 5 := hsz
    have HD : Hid (∀ (wr : World), Below base w wr → ∀ x : Iv, Calls Try.prog 102 (#[.agg #[.int .i64 x.it.level, .int .i64 x.it.n, .int .i64 x.it.turn, .bool x.it.shut, .slice x.A x.it.ws.length x.c]] ++ #[.pointer (some ⟨g2, 0, none⟩)]) wr fun e w' => e = .returned (.bool (late first x.it)) ∧ Ext wr w') :=
      fun wr hx x => drop1_any ((hx.cell (p := ⟨g2, 0, none⟩) hg2).trans h1) ((hx.cell (p := ⟨ga, 7 + 10, none⟩) hga).trans h2) x
    have HK0 := Lib.hid (kept_start hk hkl hkb)
    have hb0 : Below base w w1 := x1.mono hbase
    have hm0 : Mods (fun q => g = q) w w1 := Mods.of_below x1 _
    have hgw : g < w.heap.size := (show Blk w g 33 cur0 from hg0).lt
    clear hkl hkb h1 h2 hO x1 hg0 htk hsz
    have hne1 : ((k : Int) == -1) = false := beq_eq_false_iff_ne.2 (by omega)
    go_wp2_with fail
    go_loopw [5, 6] (fun si sj wr => ∃ (j : Nat) (cur : Array Value), si = .int .i64 (kept first ys j).length ∧ sj = .int .i64 j ∧ j ≤ ys.length ∧ (kept first ys j).length < j ∧ Below base w wr ∧ Blk wr g 33 cur ∧ cur.size = c * 5 ∧ Hid (Says cur (kept first ys j ++ ys.drop (kept first ys j).length)) ∧ Mods (fun q => g = q) w wr) (fun _ sj _ => ys.length - (intOf sj).toNat)
    case atStart =>
      have hl1 : (kept first ys (k + 1)).length = k := by rw [HK0.out, List.length_take]; omega
      refine ⟨k + 1, cur0, by rw [hl1], by go_num, hk, by omega, hb0, hb1, hsz5, ?_, hm0⟩
      show Says _ _
      rw [hl1, HK0.out, List.take_append_drop]
      exact hsay
    case round =>
      clear hb1 hsay hsz5 HK0 hb0 hm0
      obtain ⟨j, cur, rfl, rfl, hj, hkj, hbel, hbr, hsr, HS, hmr⟩ := hrel
      by_cases hlt : j < ys.length
      · have hrl := kept_row (first := first) hlt
        have gj := HS.out.get (k := j) (by rw [hrl]; exact hlt)
        have gi := HS.out.get (k := (kept first ys j).length) (by rw [hrl]; omega)
        rw [kept_get hlt hlt (by omega)] at gj
        obtain ⟨y, hy⟩ : ∃ y, y = ys[j] := ⟨_, rfl⟩
        obtain ⟨z, hz⟩ : ∃ z, z = (kept first ys j ++ ys.drop (kept first ys j).length)[(kept first ys j).length]'(by rw [hrl]; omega) := ⟨_, rfl⟩
        rw [← hz] at gi
        rw [← hy] at gj
        have HY : Hid (∀ hl : j < ys.length, ys[j] = y) := fun _ => hy.symm
        clear hy hz
        obtain ⟨i, hi⟩ : ∃ i, i = (kept first ys j).length := ⟨_, rfl⟩
        rw [← hi] at gi hkj ⊢
        have HI := Lib.hid hi
        clear hi hrl
        obtain ⟨⟨level, n, turn, shut, ws⟩, Ax, cx⟩ := y
        dsimp only at gj
        obtain ⟨gj0, gj1, gj2, gj3, gj4⟩ := gj
        obtain ⟨gi0, gi1, gi2, gi3, gi4⟩ := gi
        have p0 := (hbr.cell (j * 5)).trans gj0
        have p1 := (hbr.cell (j * 5 + 1)).trans gj1
        have p2 := (hbr.cell (j * 5 + 2)).trans gj2
        have p3 := (hbr.cell (j * 5 + 3)).trans gj3
        have p4 := (hbr.cell (j * 5 + 4)).trans gj4
        clear gj0 gj1 gj2 gj3 gj4
        obtain ⟨V, hV⟩ : ∃ V, V = wr.alloc (.cells #[.int .i64 level, .int .i64 n, .int .i64 turn, .bool shut, .slice Ax ws.length cx] 33) := ⟨_, rfl⟩
        have xV : Ext wr V := by rw [hV]; exact ext_alloc _ _
        have bV : Blk V wr.heap.size 33 #[.int .i64 level, .int .i64 n, .int .i64 turn, .bool shut, .slice Ax ws.length cx] := by rw [hV]; exact Blk.new _ _ _
        have hcall := HD.out V (below_ext hbel hbase xV) ⟨⟨level, n, turn, shut, ws⟩, Ax, cx⟩
        rw [hV] at hcall
        go_wp2_with fail
        refine hcall.mono ?_
        rw [← hV]
        clear hV hcall p0 p1 p2 p3 p4
        rintro e w3 ⟨rfl, x3⟩
        have x13 := ext_trans xV x3
        have b3 := bV.ext x3
        have hb3 := hbr.ext x13
        have hbel3 := below_ext hbel hbase x13
        have hm3 := hmr.trans (Mods.of_below x13 (fun _ => False)) (fun _ _ e => e.elim)
        clear xV bV x3 hbr hbel hmr x13
        have hks := Lib.hid (kept_succ (first := first) hlt)
        cases hq : late first ⟨level, n, turn, shut, ws⟩
        · have hset := Lib.hid (HS.out.set (i := i) (by rw [kept_row hlt]; omega) (by rw [hsr]; omega) ⟨⟨level, n, turn, shut, ws⟩, Ax, cx⟩)
          have hks2 : Hid (kept first ys (j + 1) = kept first ys j ++ [⟨⟨level, n, turn, shut, ws⟩, Ax, cx⟩]) := by
            have := hks.out
            rw [HY.out hlt, hq] at this
            exact this
          have hsts := Lib.hid (kept_set (first := first) hlt (by rw [HY.out hlt]; exact hq))
          clear hq
          have q0 := (hb3.cell (i * 5)).trans gi0
          have q1 := (hb3.cell (i * 5 + 1)).trans gi1
          have q2 := (hb3.cell (i * 5 + 2)).trans gi2
          have q3 := (hb3.cell (i * 5 + 3)).trans gi3
          have q4 := (hb3.cell (i * 5 + 4)).trans gi4
          have fz := hb3.frozen
          have t0 := b3.cell 0
          have t1 := b3.cell 1
          have t2 := b3.cell 2
          have t3 := b3.cell 3
          have t4 := b3.cell 4
          simp only [List.getElem?_toArray, List.getElem?_cons_zero, List.getElem?_cons_succ] at t0 t1 t2 t3 t4
          go_wp2_with fail
          go_roundw
          case rel =>
            have hl1 : (kept first ys (j + 1)).length = i + 1 := by rw [hks2.out, List.length_append, ← HI.out]; rfl
            have hmm := mods_at5 w3 g (i * 5) (.int .i64 level) (.int .i64 n) (.int .i64 turn) (.bool shut) (.slice Ax ws.length cx)
            refine ⟨j + 1, put5 cur (i * 5) ⟨⟨level, n, turn, shut, ws⟩, Ax, cx⟩, by rw [hl1]; go_num, by go_num, hlt, by omega, ?_, ?_, by rw [put5_size]; exact hsr, ?_, hm3.trans hmm (fun _ _ e => e.symm)⟩
            · exact hbel3.trans (hmm.below (Nat.le_trans hbase hbel3.size) (fun q e => by rw [e]; exact hbg))
            · exact ((((hb3.set_ (i * 5) _).set_ (i * 5 + 1) _).set_ (i * 5 + 2) _).set_ (i * 5 + 3) _).set_ (i * 5 + 4) _
            · have h1 := hset.out
              have h2 := hsts.out
              rw [HY.out hlt, ← HI.out] at h2
              rw [← HI.out, h2] at h1
              exact h1
          case measure => simp [intOf]; omega
        · have hks2 : Hid (kept first ys (j + 1) = kept first ys j) := by
            have := hks.out
            rw [HY.out hlt, hq] at this
            exact this
          clear hq gi0 gi1 gi2 gi3 gi4
          go_wp2_with fail
          go_roundw
          case rel =>
            refine ⟨j + 1, cur, by rw [hks2.out, HI.out], by go_num, hlt, by rw [hks2.out, ← HI.out]; omega, hbel3, hb3, hsr, ?_, hm3⟩
            rw [hks2.out]; exact HS
          case measure => simp [intOf]; omega
      · obtain rfl : j = ys.length := by omega
        rw [kept_all] at HS hkj ⊢
        obtain ⟨L, hL⟩ : ∃ L, L = ys.filter fun y => !late first y.it := ⟨_, rfl⟩
        rw [← hL] at HS hkj ⊢
        have HL := Lib.hid hL
        clear hL HD
        obtain ⟨w5, cur5, hclr, hb5, hs5, hc5, hm5⟩ := run_clear_tail hbr (i := L.length) (k := ys.length - L.length) (by rw [hsr]; omega) 0
        have hii : (ys.length : Int) - (L.length : Int) = ((ys.length - L.length : Nat) : Int) := by omega
        have HF : Hid (Off elIv w5 base (.slice (some ⟨g, 0, none⟩) L.length c) L ∧ Mods (fun q => (Value.slice (some ⟨g, 0, none⟩) ys.length c).ownBlock = some q) w w5) := by
          refine ⟨.inr ⟨g, 0, c, cur5, rfl, hbg, hb5, by omega, hcm, ?_, fun j u hj => ?_⟩, ?_⟩
          · show 0 + c * 5 ≤ cur5.size
            omega
          · have hlen : (flat Iv.cells L).length = L.length * 5 := flat_length Iv.cells_len
            have hj5 : j < L.length * 5 := by rw [← hlen]; exact (List.getElem?_eq_some_iff.1 hj).1
            rw [Nat.zero_add, hc5 j hj5]
            refine HS.out j u ?_
            rw [flat_append, List.getElem?_append_left (by rw [hlen]; exact hj5)]
            exact hj
          · exact (hmr.trans hm5 (fun _ _ e => e.symm)).mono fun q e => by rw [← e]; rfl
        clear HS hbr hb5 hs5 hc5 hm5 hmr hbel
        go_wp2_with fail
        go_ret
        exact ⟨_, rfl, by rw [← HL.out]; exact HF.out.1, HF.out.2, rfl⟩
end
end Go.Proofs.Ytdknkbpgkkakhaa
