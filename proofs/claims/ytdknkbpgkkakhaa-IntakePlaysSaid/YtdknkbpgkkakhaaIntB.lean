/- Layer 20: slices.IndexFunc and slices.DeleteFunc at items, with the closure of Drop. -/
import Derived.Test.YtdknkbpgkkakhaaIntA
import Derived.Shelf.Abstract
import Derived.Deep.WholeRow
namespace Go.Proofs.Ytdknkbpgkkakhaa
open Go.RowKit Go.Maps
open Go.ChangeMaps (setBlock)

section
variable {w w' : World} {B : Nat}
def late (first : Int) (x : It) : Bool := decide (x.turn < first)
set_option maxRecDepth 100000 in
set_option maxHeartbeats 2000000 in
/-- The closure: is the item of a turn before the first one? -/
theorem drop1_any {g2 ga : Nat} {first : Int} (h1 : w.cell? ⟨g2, 0, none⟩ = some (.pointer (some ⟨ga, 0, none⟩))) (h2 : w.cell? ⟨ga, 7 + 10, none⟩ = some (.int .i64 first)) (x : Iv) :
    Calls Try.prog 102 (#[.agg #[.int .i64 x.it.level, .int .i64 x.it.n, .int .i64 x.it.turn, .bool x.it.shut, .slice x.A x.it.ws.length x.c]] ++ #[.pointer (some ⟨g2, 0, none⟩)]) w fun e w' => e = .returned (.bool (late first x.it)) ∧ Ext w w' := by
  obtain ⟨⟨level, n, turn, shut, ws⟩, Ax, cx⟩ := x
  dsimp only
  show Calls Try.prog 102 #[.agg #[.int .i64 level, .int .i64 n, .int .i64 turn, .bool shut, .slice Ax ws.length cx], .pointer (some ⟨g2, 0, none⟩)] w _
  obtain ⟨W, hW⟩ : ∃ W, W = w.alloc (.cells #[.int .i64 level, .int .i64 n, .int .i64 turn, .bool shut, .slice Ax ws.length cx] 33) := ⟨_, rfl⟩
  have x0 : Ext w W := by rw [hW]; exact ext_alloc _ _
  have b0 : Blk W w.heap.size 33 #[.int .i64 level, .int .i64 n, .int .i64 turn, .bool shut, .slice Ax ws.length cx] := by rw [hW]; exact Blk.new _ _ _
  have f0 := b0.cell 2
  have f1 := ext_cell x0 h1
  have f2 := ext_cell x0 h2
  have HW := Lib.hid hW
  simp only [List.getElem?_toArray, List.getElem?_cons_zero, List.getElem?_cons_succ] at f0
  have y0 := fun x' (hx : Ext W x') => ext_cell hx f0
  have y1 := fun x' (hx : Ext W x') => ext_cell hx f1
  have y2 := fun x' (hx : Ext W x') => ext_cell hx f2
  clear hW h1 h2 b0 f0 f1 f2
  go_enter Try.func102, Try.ntmps102
  go_upto_region 1 with fail
  rw [← HW.out]
  clear HW
  refine wp_region_planH3 (.reads 0 (.reads 1 (.reads 2 (.reads 3 (.reads 4 (.reads 5 (.reads 6 (.reads 7 (.done))))))))) (by kernel_rfl) (by kernel_rfl) (fun x' => Ext W x') (ext_drewN W 1) (fun ops HOPS => ?_)
  (refine segH_pure _ _ _ _ _ _ (hid_get HOPS 0 _ rfl) rfl wanted_none (fun _ _ _ _ h => h) ?_; intro K hK; go_big_quiet_op; go_big_quiet_on)
  (refine segH_load _ _ _ _ _ _ _ _ _ (hid_get HOPS 1 _ rfl) wanted_none rfl (fun _ _ _ _ h => h) (fun y hy => by go_simp; try with_reducible rfl) ?_; simp only [Act.put, List.setIfInBounds_toArray, List.set_cons_zero, List.set_cons_succ])
  (refine segH_load _ _ _ _ _ _ _ _ _ (hid_get HOPS 2 _ rfl) wanted_none rfl (fun _ _ _ _ h => h) (fun y hy => by go_simp; try with_reducible rfl) ?_; simp only [Act.put, List.setIfInBounds_toArray, List.set_cons_zero, List.set_cons_succ])
  (refine segH_nil _ _ _ _ _ _ _ (hid_get HOPS 3 _ rfl) wanted_none rfl (fun _ _ _ _ h => h) ?_; simp only [Act.put, List.setIfInBounds_toArray, List.set_cons_zero, List.set_cons_succ])
  (refine segH_pure _ _ _ _ _ _ (hid_get HOPS 4 _ rfl) rfl wanted_none (fun _ _ _ _ h => h) ?_; intro K hK; go_big_quiet_op; go_big_quiet_on)
  (refine segH_load _ _ _ _ _ _ _ _ _ (hid_get HOPS 5 _ rfl) wanted_none rfl (fun _ _ _ _ h => h) (fun y hy => by go_simp; try with_reducible rfl) ?_; simp only [Act.put, List.setIfInBounds_toArray, List.set_cons_zero, List.set_cons_succ])
  (refine segH_pure _ _ _ _ _ _ (hid_get HOPS 6 _ rfl) rfl wanted_none (fun _ _ _ _ h => h) ?_; intro K hK; go_big_quiet_op; go_big_quiet_on)
  (refine segH_pure _ _ _ _ _ _ (hid_get HOPS 7 _ rfl) rfl wanted_none (fun _ _ _ _ h => h) ?_; intro K hK; go_big_quiet_op; go_big_quiet_on)
  refine seg_done ?_
  clear HOPS
  clear y0 y1 y2
  go_wp2
  go_ret
  exact ⟨rfl, ext_trans x0 (ext_drewN W 1)⟩
def FirstPost (first : Int) (w : World) (ys : List Iv) (e : Ending) (w' : World) : Prop :=
  ((e = .returned (.int .i64 (-1)) ∧ ∀ y ∈ ys, late first y.it = false) ∨
    ∃ k, ∃ hk : k < ys.length, e = .returned (.int .i64 (k : Int)) ∧ late first (ys[k]).it = true ∧ ∀ j, (hj : j < k) → late first (ys[j]'(Nat.lt_trans hj hk)).it = false) ∧ Ext w w'
set_option maxRecDepth 100000 in
set_option maxHeartbeats 2000000 in
theorem indexFunc_any {g2 ga : Nat} {first : Int} (h1 : w.cell? ⟨g2, 0, none⟩ = some (.pointer (some ⟨ga, 0, none⟩))) (h2 : w.cell? ⟨ga, 7 + 10, none⟩ = some (.int .i64 first)) {A : Option Addr} {c : Nat} {ys : List Iv} (hR : RowsIv w B A ys) (hl : ys.length ≤ 9223372036854775807) :
    Calls Try.prog 111 #[.slice A ys.length c, .func (.func 102) #[] #[.pointer (some ⟨g2, 0, none⟩)]] w (FirstPost first w ys) := by
  have eg : ∀ args w, (callFunc 102 args).run Try.prog w = .ok (.enter 102 args) w := enters_of Try.func102 (by kernel_rfl) rfl
  have HD : Hid (∀ (wr : World), Ext w wr → ∀ x : Iv, Calls Try.prog 102 (#[.agg #[.int .i64 x.it.level, .int .i64 x.it.n, .int .i64 x.it.turn, .bool x.it.shut, .slice x.A x.it.ws.length x.c]] ++ #[.pointer (some ⟨g2, 0, none⟩)]) wr fun e w' => e = .returned (.bool (late first x.it)) ∧ Ext wr w') :=
    fun wr hx x => drop1_any (ext_cell hx h1) (ext_cell hx h2) x
  clear h1 h2
  go_enter Try.func111, Try.ntmps111
  go_wp2
  go_loopw [8] (fun i wr => ∃ k : Nat, i = .int .i64 k ∧ k ≤ ys.length ∧ Ext w wr ∧ Hid (∀ j, (hj : j < k) → (hl : j < ys.length) → late first ys[j].it = false)) (fun i _ => ys.length - (intOf i).toNat)
  case atStart => exact ⟨0, rfl, Nat.zero_le _, Below.refl _ _, fun j hj => absurd hj (Nat.not_lt_zero _)⟩
  case round =>
    obtain ⟨k, rfl, hk, hx, HA⟩ := hrel
    by_cases hlt : k < ys.length
    · obtain ⟨ad, hA0, p0, p1, p2, p3, p4⟩ := RowsIv.get (RowsAt.ext hR hx) hlt
      have e0 : A = some ad := hA0
      subst e0
      have hcall := HD.out wr hx ys[k]
      obtain ⟨y, hy⟩ : ∃ y, y = ys[k] := ⟨_, rfl⟩
      rw [← hy] at p0 p1 p2 p3 p4 hcall
      have HY : Hid (∀ hl : k < ys.length, ys[k] = y) := fun _ => hy.symm
      clear hy hR
      obtain ⟨⟨level, n, turn, shut, ws⟩, Ax, cx⟩ := y
      dsimp only at p0 p1 p2 p3 p4 hcall
      cases hq : late first ⟨level, n, turn, shut, ws⟩ with
      | true =>
        rw [hq] at hcall
        have HQ := Lib.hid hq
        clear hq
        go_wp2_with (go_at_fn 102; refine hcall.mono ?_; rintro e w' ⟨rfl, hb'⟩)
        go_ret
        refine ⟨.inr ⟨k, hlt, rfl, by rw [HY.out hlt]; exact HQ.out, fun j hj => HA.out j hj _⟩, ext_trans hx hb'⟩
      | false =>
        rw [hq] at hcall
        have HQ := Lib.hid hq
        clear hq
        go_wp2_with (go_at_fn 102; refine hcall.mono ?_; rintro e w' ⟨rfl, hb'⟩)
        go_roundw
        case rel =>
          refine ⟨k + 1, by go_num, hlt, ext_trans hx hb', fun j hj hl' => ?_⟩
          by_cases e : j < k
          · exact HA.out j e hl'
          · obtain rfl : j = k := by omega
            rw [HY.out hlt]; exact HQ.out
        case measure => simp [intOf]; omega
    · obtain rfl : k = ys.length := by omega
      clear hR
      go_wp2
      go_ret
      refine ⟨.inl ⟨rfl, fun y hy => ?_⟩, hx⟩
      obtain ⟨i, hi, rfl⟩ := List.getElem_of_mem hy
      exact HA.out i hi hi
/-- The cells of a block read as items. -/
def Says (cur : Array Value) (L : List Iv) : Prop := ∀ (j : Nat) (u : Value), (flat Iv.cells L)[j]? = some u → cur[j]? = some u
theorem Says.get {cur : Array Value} {L : List Iv} (h : Says cur L) {k : Nat} (hk : k < L.length) :
    cur[k * 5]? = some (.int .i64 L[k].it.level) ∧ cur[k * 5 + 1]? = some (.int .i64 L[k].it.n) ∧ cur[k * 5 + 2]? = some (.int .i64 L[k].it.turn) ∧ cur[k * 5 + 3]? = some (.bool L[k].it.shut) ∧ cur[k * 5 + 4]? = some (.slice L[k].A L[k].it.ws.length L[k].c) := by
  have f := fun j (hj : j < 5) => flat_get (f := Iv.cells) (s := 5) Iv.cells_len L k hk j hj
  exact ⟨h _ _ ((f 0 (by omega)).trans rfl), h _ _ ((f 1 (by omega)).trans rfl), h _ _ ((f 2 (by omega)).trans rfl), h _ _ ((f 3 (by omega)).trans rfl), h _ _ ((f 4 (by omega)).trans rfl)⟩
def put5 (cur : Array Value) (o : Nat) (x : Iv) : Array Value := ((((cur.setIfInBounds o (.int .i64 x.it.level)).setIfInBounds (o + 1) (.int .i64 x.it.n)).setIfInBounds (o + 2) (.int .i64 x.it.turn)).setIfInBounds (o + 3) (.bool x.it.shut)).setIfInBounds (o + 4) (.slice x.A x.it.ws.length x.c)
theorem put5_size (cur : Array Value) (o : Nat) (x : Iv) : (put5 cur o x).size = cur.size := by simp [put5]
theorem put5_far {cur : Array Value} {o j : Nat} (x : Iv) (h : j < o ∨ o + 5 ≤ j) : (put5 cur o x)[j]? = cur[j]? := by
  unfold put5
  rw [Array.getElem?_setIfInBounds_ne (by omega), Array.getElem?_setIfInBounds_ne (by omega), Array.getElem?_setIfInBounds_ne (by omega), Array.getElem?_setIfInBounds_ne (by omega), Array.getElem?_setIfInBounds_ne (by omega)]
theorem put5_near {cur : Array Value} {o j : Nat} (x : Iv) (h : o + 5 ≤ cur.size) {u : Value} (hu : (Iv.cells x)[j]? = some u) : (put5 cur o x)[o + j]? = some u := by
  unfold put5
  match j, hu with
  | 0, hu =>
    simp only [Nat.add_zero]
    rw [Array.getElem?_setIfInBounds_ne (by omega), Array.getElem?_setIfInBounds_ne (by omega), Array.getElem?_setIfInBounds_ne (by omega), Array.getElem?_setIfInBounds_ne (by omega), Array.getElem?_setIfInBounds_self, if_pos (by omega)]
    simpa [Iv.cells] using hu
  | 1, hu =>
    rw [Array.getElem?_setIfInBounds_ne (by omega), Array.getElem?_setIfInBounds_ne (by omega), Array.getElem?_setIfInBounds_ne (by omega), Array.getElem?_setIfInBounds_self, if_pos (by simp; omega)]
    simpa [Iv.cells] using hu
  | 2, hu =>
    rw [Array.getElem?_setIfInBounds_ne (by omega), Array.getElem?_setIfInBounds_ne (by omega), Array.getElem?_setIfInBounds_self, if_pos (by simp; omega)]
    simpa [Iv.cells] using hu
  | 3, hu =>
    rw [Array.getElem?_setIfInBounds_ne (by omega), Array.getElem?_setIfInBounds_self, if_pos (by simp; omega)]
    simpa [Iv.cells] using hu
  | 4, hu =>
    rw [Array.getElem?_setIfInBounds_self, if_pos (by simp; omega)]
    simpa [Iv.cells] using hu
  | j + 5, hu => simp [Iv.cells] at hu
theorem Says.set {cur : Array Value} {L : List Iv} (h : Says cur L) {i : Nat} (hi : i < L.length) (hs : i * 5 + 5 ≤ cur.size) (x : Iv) : Says (put5 cur (i * 5) x) (L.set i x) := by
  unfold Says
  intro k u hk
  obtain ⟨a, b, ha, hb, rfl, hu⟩ := flat_split (f := Iv.cells) (s := 5) Iv.cells_len hk
  rw [List.length_set] at ha
  by_cases e : a = i
  · subst e
    rw [List.getElem_set_self] at hu
    exact put5_near x hs hu
  · rw [List.getElem_set_ne (fun hc => e hc.symm)] at hu
    rw [put5_far x (by omega)]
    refine h _ _ ?_
    rw [flat_get (f := Iv.cells) (s := 5) Iv.cells_len L a ha b hb]
    exact hu
theorem mods_at5 (w : World) (g o : Nat) (v0 v1 v2 v3 v4 : Value) :
    Mods (fun k => k = g) w (((((w.setCell ⟨g, o, none⟩ v0).setCell ⟨g, o + 1, none⟩ v1).setCell ⟨g, o + 2, none⟩ v2).setCell ⟨g, o + 3, none⟩ v3).setCell ⟨g, o + 4, none⟩ v4) :=
  ((((mods_setCell w ⟨g, o, none⟩ v0).trans (mods_setCell _ ⟨g, o + 1, none⟩ v1) (fun _ _ h => h)).trans (mods_setCell _ ⟨g, o + 2, none⟩ v2) (fun _ _ h => h)).trans (mods_setCell _ ⟨g, o + 3, none⟩ v3) (fun _ _ h => h)).trans (mods_setCell _ ⟨g, o + 4, none⟩ v4) (fun _ _ h => h)
/-- What is kept of the first j items. -/
def kept (first : Int) (ys : List Iv) (j : Nat) : List Iv := (ys.take j).filter fun y => !late first y.it
theorem kept_le (first : Int) (ys : List Iv) (j : Nat) : (kept first ys j).length ≤ j := Nat.le_trans (List.length_filter_le _ _) (by rw [List.length_take]; omega)
theorem kept_succ {first : Int} {ys : List Iv} {j : Nat} (hj : j < ys.length) : kept first ys (j + 1) = if late first (ys[j]).it = true then kept first ys j else kept first ys j ++ [ys[j]] := by
  unfold kept
  rw [List.take_succ_eq_append_getElem hj, List.filter_append]
  cases hq : late first (ys[j]).it <;> simp [hq]
theorem kept_row {first : Int} {ys : List Iv} {j : Nat} (hj : j < ys.length) : (kept first ys j ++ ys.drop (kept first ys j).length).length = ys.length := by
  have := kept_le first ys j
  rw [List.length_append, List.length_drop]
  omega
theorem kept_get {first : Int} {ys : List Iv} {j k : Nat} (hj : j < ys.length) (hk : k < ys.length) (hjk : (kept first ys j).length ≤ k) : (kept first ys j ++ ys.drop (kept first ys j).length)[k]'(by rw [kept_row hj]; exact hk) = ys[k] := by
  rw [List.getElem_append_right hjk, List.getElem_drop]
  congr 1
  omega
theorem kept_set {first : Int} {ys : List Iv} {j : Nat} (hj : j < ys.length) (hq : late first (ys[j]).it = false) :
    (kept first ys j ++ ys.drop (kept first ys j).length).set (kept first ys j).length ys[j] = kept first ys (j + 1) ++ ys.drop (kept first ys (j + 1)).length := by
  have h1 := kept_le first ys j
  rw [kept_succ hj, hq, if_neg Bool.false_ne_true, List.set_append_right _ _ (Nat.le_refl _), Nat.sub_self]
  rw [List.drop_eq_getElem_cons (show (kept first ys j).length < ys.length by omega), List.set_cons_zero, List.append_assoc, List.length_append]
  rfl
theorem zcells33 (k : Nat) : (Builtin.zeroCells (Value.cells (.agg #[.int .i64 0, .int .i64 0, .int .i64 0, .bool false, .slice none 0 0])) k).toList.length = k * 5 ∧
    ∀ u ∈ (Builtin.zeroCells (Value.cells (.agg #[.int .i64 0, .int .i64 0, .int .i64 0, .bool false, .slice none 0 0])) k).toList, u.oneCell' = true := by
  constructor
  · simp [Builtin.zeroCells, Value.cells]
  · intro u hu
    simp only [Builtin.zeroCells, Value.cells, Array.toList_map, List.mem_map] at hu
    obtain ⟨i, _, rfl⟩ := hu
    have h5 : i % 5 < 5 := Nat.mod_lt _ (by omega)
    show (#[Value.int .i64 0, .int .i64 0, .int .i64 0, .bool false, .slice none 0 0][i % 5]!).oneCell' = true
    generalize i % 5 = q at h5 ⊢
    obtain rfl | rfl | rfl | rfl | rfl : q = 0 ∨ q = 1 ∨ q = 2 ∨ q = 3 ∨ q = 4 := by omega
    all_goals rfl
/-- clear of the elements behind the first i. -/
theorem run_clear_tail {w : World} {g : Nat} {cur : Array Value} (hb : Blk w g 33 cur) {i k : Nat} (hs : (i + k) * 5 ≤ cur.size) (ty : TypeId) :
    ∃ w' cur', (∀ c, (Builtin.clear_ #[22] ty #[.slice (some ⟨g, i * 5, none⟩) k c]).run Try.prog w = .ok (.tuple #[]) w') ∧ Blk w' g 33 cur' ∧ cur'.size = cur.size ∧ (∀ j, j < i * 5 → cur'[j]? = cur[j]?) ∧ Mods (fun x => x = g) w w' := by
  cases k with
  | zero => exact ⟨w, cur, fun c => by simp [Builtin.clear_, run_underlying Try.underlying22, Result.andThen], hb, rfl, fun _ _ => rfl, Mods.refl _ _⟩
  | succ k =>
    obtain ⟨hz1, hz2⟩ := zcells33 (k + 1)
    have hst := run_storeCells_at Try.prog g (i * 5) 33 _ 0 cur w hb (by rw [hz1]; omega) hz2
    simp only [Nat.add_zero] at hst
    generalize hz : (Builtin.zeroCells (Value.cells (.agg #[.int .i64 0, .int .i64 0, .int .i64 0, .bool false, .slice none 0 0])) (k + 1)).toList = zz at hz1 hz2 hst
    refine ⟨_, _, fun c => ?_, setRow_heap w g cur (cur.toList.take (i * 5) ++ zz ++ cur.toList.drop (i * 5 + zz.length)).toArray 33 _ hb, ?_, fun j hj => ?_, ⟨rfl, rfl, rfl, by simp, fun k' _ hk => setRow_other w g k' _ (fun e => hk e)⟩⟩
    · simp [Builtin.clear_, run_underlying Try.underlying22, hz, hst]
    · simp only [List.size_toArray, List.length_append, List.length_take, List.length_drop, Array.length_toList]
      omega
    · rw [List.append_assoc, List.getElem?_toArray, List.getElem?_append_left (by rw [List.length_take, Array.length_toList]; omega), List.getElem?_take, if_pos hj, Array.getElem?_toList]
def DelPost (first : Int) (w : World) (base : Nat) (v : Value) (ys : List Iv) (e : Ending) (w' : World) : Prop :=
  ∃ v', e = .returned v' ∧ Off elIv w' base v' (ys.filter fun y => !late first y.it) ∧ Mods (fun k => v.ownBlock = some k) w w' ∧ (v'.ownBlock = v.ownBlock)
theorem kept_all (first : Int) (ys : List Iv) : kept first ys ys.length = ys.filter fun y => !late first y.it := by unfold kept; rw [List.take_length]
theorem kept_start {first : Int} {ys : List Iv} {k : Nat} (hk : k < ys.length) (hl : late first (ys[k]).it = true) (ha : ∀ j, (hj : j < k) → late first (ys[j]'(Nat.lt_trans hj hk)).it = false) : kept first ys (k + 1) = ys.take k := by
  rw [kept_succ hk, if_pos hl]
  unfold kept
  rw [List.filter_eq_self]
  intro y hy
  obtain ⟨i, hi, rfl⟩ := List.getElem_of_mem hy
  rw [List.getElem_take]
  rw [List.length_take] at hi
  rw [ha i (by omega)]; rfl
set_option maxRecDepth 100000 in
set_option maxHeartbeats 4000000 in
theorem deleteFunc_any {g2 ga base : Nat} {first : Int} (h1 : w.cell? ⟨g2, 0, none⟩ = some (.pointer (some ⟨ga, 0, none⟩))) (h2 : w.cell? ⟨ga, 7 + 10, none⟩ = some (.int .i64 first)) (hg2 : g2 < base) (hga : ga < base) (hbase : base ≤ w.heap.size) {A : Option Addr} {c : Nat} {ys : List Iv} (hO : Own elIv w base (.slice A ys.length c) ys) (hl : ys.length ≤ 1000000) :
    Calls Try.prog 101 #[.slice A ys.length c, .func (.func 102) #[] #[.pointer (some ⟨g2, 0, none⟩)]] w (DelPost first w base (.slice A ys.length c) ys) := by
  have eg : ∀ args w, (callFunc 102 args).run Try.prog w = .ok (.enter 102 args) w := enters_of Try.func102 (by kernel_rfl) rfl
  have hix := indexFunc_any (B := base) h1 h2 (hO.rows (B := base)) (c := c) (by omega)
  go_enter Try.func101, Try.ntmps101
  go_wp2_with fail
  refine hix.mono ?_
  clear hix
  rintro e w1 ⟨hcase, x1⟩
  rcases hcase with ⟨rfl, hno⟩ | ⟨k, hk, rfl, hkl, hkb⟩
  · have HF : Hid (Off elIv w1 base (.slice A ys.length c) (ys.filter fun y => !late first y.it) ∧ Mods (fun k => (Value.slice A ys.length c).ownBlock = some k) w w1) := by
      refine ⟨?_, Mods.of_below x1 _⟩
      rw [List.filter_eq_self.2 (fun y hy => by rw [hno y hy]; rfl)]
      exact (hO.ext x1).off
    clear hno hO h1 h2
    go_wp2
    go_ret
    exact ⟨_, rfl, HF.out.1, HF.out.2, rfl⟩
  · rcases hO.2 with ⟨hv, h0⟩ | ⟨g, cap, cur0, hv, hbg, hg0, hnc, hcm, hsz, htk⟩
    · omega
    injection hv with hA _ hc
    subst hA hc
    have hb1 : Blk w1 g 33 cur0 := (show Blk w g 33 cur0 from hg0).ext x1
    have hsay : Says cur0 ys := fun j u hj => by
      have h5 : cur0.toList.take (ys.length * 5) = flat Iv.cells ys := htk
      rw [← h5, List.getElem?_take] at hj
      split at hj
      · simpa using hj
      · cases hj
    have hsz5 : cur0.size = c * 5 := hsz
    have HD : Hid (∀ (wr : World), Below base w wr → ∀ x : Iv, Calls Try.prog 102 (#[.agg #[.int .i64 x.it.level, .int .i64 x.it.n, .int .i64 x.it.turn, .bool x.it.shut, .slice x.A x.it.ws.length x.c]] ++ #[.pointer (some ⟨g2, 0, none⟩)]) wr fun e w' => e = .returned (.bool (late first x.it)) ∧ Ext wr w') :=
      fun wr hx x => drop1_any ((hx.cell (p := ⟨g2, 0, none⟩) hg2).trans h1) ((hx.cell (p := ⟨ga, 7 + 10, none⟩) hga).trans h2) x
    have HK0 := Lib.hid (kept_start hk hkl hkb)
    have hb0 : Below base w w1 := x1.mono hbase
    have hm0 : Mods (fun q => g = q) w w1 := Mods.of_below x1 _
    have hgw : g < w.heap.size := (show Blk w g 33 cur0 from hg0).lt
    clear hkl hkb h1 h2 hO x1 hg0 htk hsz
    have hne1 : ((k : Int) == -1) = false := beq_eq_false_iff_ne.2 (by omega)
    go_wp2_with fail
    go_loopw [5, 6] (fun si sj wr => ∃ (j : Nat) (cur : Array Value), si = .int .i64 (kept first ys j).length ∧ sj = .int .i64 j ∧ j ≤ ys.length ∧ (kept first ys j).length < j ∧ Below base w wr ∧ Blk wr g 33 cur ∧ cur.size = c * 5 ∧ Hid (Says cur (kept first ys j ++ ys.drop (kept first ys j).length)) ∧ Mods (fun q => g = q) w wr) (fun _ sj _ => ys.length - (intOf sj).toNat)
    case atStart =>
      have hl1 : (kept first ys (k + 1)).length = k := by rw [HK0.out, List.length_take]; omega
      refine ⟨k + 1, cur0, by rw [hl1], by go_num, hk, by omega, hb0, hb1, hsz5, ?_, hm0⟩
      show Says _ _
      rw [hl1, HK0.out, List.take_append_drop]
      exact hsay
    case round =>
      clear hb1 hsay hsz5 HK0 hb0 hm0
      obtain ⟨j, cur, rfl, rfl, hj, hkj, hbel, hbr, hsr, HS, hmr⟩ := hrel
      by_cases hlt : j < ys.length
      · have hrl := kept_row (first := first) hlt
        have gj := HS.out.get (k := j) (by rw [hrl]; exact hlt)
        have gi := HS.out.get (k := (kept first ys j).length) (by rw [hrl]; omega)
        rw [kept_get hlt hlt (by omega)] at gj
        obtain ⟨y, hy⟩ : ∃ y, y = ys[j] := ⟨_, rfl⟩
        obtain ⟨z, hz⟩ : ∃ z, z = (kept first ys j ++ ys.drop (kept first ys j).length)[(kept first ys j).length]'(by rw [hrl]; omega) := ⟨_, rfl⟩
        rw [← hz] at gi
        rw [← hy] at gj
        have HY : Hid (∀ hl : j < ys.length, ys[j] = y) := fun _ => hy.symm
        clear hy hz
        obtain ⟨i, hi⟩ : ∃ i, i = (kept first ys j).length := ⟨_, rfl⟩
        rw [← hi] at gi hkj ⊢
        have HI := Lib.hid hi
        clear hi hrl
        obtain ⟨⟨level, n, turn, shut, ws⟩, Ax, cx⟩ := y
        dsimp only at gj
        obtain ⟨gj0, gj1, gj2, gj3, gj4⟩ := gj
        obtain ⟨gi0, gi1, gi2, gi3, gi4⟩ := gi
        have p0 := (hbr.cell (j * 5)).trans gj0
        have p1 := (hbr.cell (j * 5 + 1)).trans gj1
        have p2 := (hbr.cell (j * 5 + 2)).trans gj2
        have p3 := (hbr.cell (j * 5 + 3)).trans gj3
        have p4 := (hbr.cell (j * 5 + 4)).trans gj4
        clear gj0 gj1 gj2 gj3 gj4
        obtain ⟨V, hV⟩ : ∃ V, V = wr.alloc (.cells #[.int .i64 level, .int .i64 n, .int .i64 turn, .bool shut, .slice Ax ws.length cx] 33) := ⟨_, rfl⟩
        have xV : Ext wr V := by rw [hV]; exact ext_alloc _ _
        have bV : Blk V wr.heap.size 33 #[.int .i64 level, .int .i64 n, .int .i64 turn, .bool shut, .slice Ax ws.length cx] := by rw [hV]; exact Blk.new _ _ _
        have hcall := HD.out V (below_ext hbel hbase xV) ⟨⟨level, n, turn, shut, ws⟩, Ax, cx⟩
        rw [hV] at hcall
        go_wp2_with fail
        refine hcall.mono ?_
        rw [← hV]
        clear hV hcall p0 p1 p2 p3 p4
        rintro e w3 ⟨rfl, x3⟩
        have x13 := ext_trans xV x3
        have b3 := bV.ext x3
        have hb3 := hbr.ext x13
        have hbel3 := below_ext hbel hbase x13
        have hm3 := hmr.trans (Mods.of_below x13 (fun _ => False)) (fun _ _ e => e.elim)
        clear xV bV x3 hbr hbel hmr x13
        have hks := Lib.hid (kept_succ (first := first) hlt)
        cases hq : late first ⟨level, n, turn, shut, ws⟩
        · have hset := Lib.hid (HS.out.set (i := i) (by rw [kept_row hlt]; omega) (by rw [hsr]; omega) ⟨⟨level, n, turn, shut, ws⟩, Ax, cx⟩)
          have hks2 : Hid (kept first ys (j + 1) = kept first ys j ++ [⟨⟨level, n, turn, shut, ws⟩, Ax, cx⟩]) := by
            have := hks.out
            rw [HY.out hlt, hq] at this
            exact this
          have hsts := Lib.hid (kept_set (first := first) hlt (by rw [HY.out hlt]; exact hq))
          clear hq
          have q0 := (hb3.cell (i * 5)).trans gi0
          have q1 := (hb3.cell (i * 5 + 1)).trans gi1
          have q2 := (hb3.cell (i * 5 + 2)).trans gi2
          have q3 := (hb3.cell (i * 5 + 3)).trans gi3
          have q4 := (hb3.cell (i * 5 + 4)).trans gi4
          have fz := hb3.frozen
          have t0 := b3.cell 0
          have t1 := b3.cell 1
          have t2 := b3.cell 2
          have t3 := b3.cell 3
          have t4 := b3.cell 4
          simp only [List.getElem?_toArray, List.getElem?_cons_zero, List.getElem?_cons_succ] at t0 t1 t2 t3 t4
          go_wp2_with fail
          go_roundw
          case rel =>
            have hl1 : (kept first ys (j + 1)).length = i + 1 := by rw [hks2.out, List.length_append, ← HI.out]; rfl
            have hmm := mods_at5 w3 g (i * 5) (.int .i64 level) (.int .i64 n) (.int .i64 turn) (.bool shut) (.slice Ax ws.length cx)
            refine ⟨j + 1, put5 cur (i * 5) ⟨⟨level, n, turn, shut, ws⟩, Ax, cx⟩, by rw [hl1]; go_num, by go_num, hlt, by omega, ?_, ?_, by rw [put5_size]; exact hsr, ?_, hm3.trans hmm (fun _ _ e => e.symm)⟩
            · exact hbel3.trans (hmm.below (Nat.le_trans hbase hbel3.size) (fun q e => by rw [e]; exact hbg))
            · exact ((((hb3.set_ (i * 5) _).set_ (i * 5 + 1) _).set_ (i * 5 + 2) _).set_ (i * 5 + 3) _).set_ (i * 5 + 4) _
            · have h1 := hset.out
              have h2 := hsts.out
              rw [HY.out hlt, ← HI.out] at h2
              rw [← HI.out, h2] at h1
              exact h1
          case measure => simp [intOf]; omega
        · have hks2 : Hid (kept first ys (j + 1) = kept first ys j) := by
            have := hks.out
            rw [HY.out hlt, hq] at this
            exact this
          clear hq gi0 gi1 gi2 gi3 gi4
          go_wp2_with fail
          go_roundw
          case rel =>
            refine ⟨j + 1, cur, by rw [hks2.out, HI.out], by go_num, hlt, by rw [hks2.out, ← HI.out]; omega, hbel3, hb3, hsr, ?_, hm3⟩
            rw [hks2.out]; exact HS
          case measure => simp [intOf]; omega
      · obtain rfl : j = ys.length := by omega
        rw [kept_all] at HS hkj ⊢
        obtain ⟨L, hL⟩ : ∃ L, L = ys.filter fun y => !late first y.it := ⟨_, rfl⟩
        rw [← hL] at HS hkj ⊢
        have HL := Lib.hid hL
        clear hL HD
        obtain ⟨w5, cur5, hclr, hb5, hs5, hc5, hm5⟩ := run_clear_tail hbr (i := L.length) (k := ys.length - L.length) (by rw [hsr]; omega) 0
        have hii : (ys.length : Int) - (L.length : Int) = ((ys.length - L.length : Nat) : Int) := by omega
        have HF : Hid (Off elIv w5 base (.slice (some ⟨g, 0, none⟩) L.length c) L ∧ Mods (fun q => (Value.slice (some ⟨g, 0, none⟩) ys.length c).ownBlock = some q) w w5) := by
          refine ⟨.inr ⟨g, 0, c, cur5, rfl, hbg, hb5, by omega, hcm, ?_, fun j u hj => ?_⟩, ?_⟩
          · show 0 + c * 5 ≤ cur5.size
            omega
          · have hlen : (flat Iv.cells L).length = L.length * 5 := flat_length Iv.cells_len
            have hj5 : j < L.length * 5 := by rw [← hlen]; exact (List.getElem?_eq_some_iff.1 hj).1
            rw [Nat.zero_add, hc5 j hj5]
            refine HS.out j u ?_
            rw [flat_append, List.getElem?_append_left (by rw [hlen]; exact hj5)]
            exact hj
          · exact (hmr.trans hm5 (fun _ _ e => e.symm)).mono fun q e => by rw [← e]; rfl
        clear HS hbr hb5 hs5 hc5 hm5 hmr hbel
        go_wp2_with fail
        go_ret
        exact ⟨_, rfl, by rw [← HL.out]; exact HF.out.1, HF.out.2, rfl⟩
end
end Go.Proofs.Ytdknkbpgkkakhaa

/- Layer 20: Drop. -/
namespace Go.Proofs.Ytdknkbpgkkakhaa
open Go.RowKit Go.Maps
open Go.ChangeMaps (setBlock)

section
variable {P : Program} {ops : Array Oper} {Q : Exit → Act → World → Prop} {S : World → Prop} {i : Nat} {p : Plan} {a : Act} {w : World}
/-- A closure that captures one variable is made. -/
theorem segH_func (dst : Option Tmp) (fn : FuncId) (x : Operand) (ty : TypeId) (pos : String) (after : Array Edge) (guard : Option (Nat × Bool)) (v : Value) (ho : ops[i]? = some ⟨dst, .makeFunc (.func fn) #[] #[x], ty, pos, after, guard⟩) (hw : Region.wanted ⟨dst, .makeFunc (.func fn) #[] #[x], ty, pos, after, guard⟩ (yielded ops a.tmps) = true)
    (hx : a.eval x = v) (hQ : ∀ v c a w, Q (.panic c) (a.put dst v) w → Q (.panic c) a w)
    (h : wpSeg P ops Q p S (a.put dst (.func (.func fn) #[] #[v])) w) : wpSeg P ops Q (.reads i p) S a w := by
  refine ⟨_, _, ho, .inl ⟨hw, fun y hy => ?_⟩, hQ _, h⟩
  subst hx
  have hmf : ∀ (f : Fn) (first cap : Array Value) (w : World), (Instr.makeFunc f first cap).run P w = .ok (.func f first cap) w := fun _ _ _ _ => rfl
  simp [execOp, hmf, Result.andThen]
end
section
variable {w w' : World} {B : Nat}
variable {A : Option Addr} {c : Nat} {rs : List Rw} {lev : Int} {m : IntMem} {s : IntSt}
def dropFirst (s : IntSt) (t : Int) : Int := if s.first < (if 1000000 < t then 1000000 else t) + 1 then (if 1000000 < t then 1000000 else t) + 1 else s.first
def dropSt (s : IntSt) (t : Int) : IntSt := { s with first := dropFirst s t, came := s.came.filter fun x => !late (dropFirst s t) x }
theorem its_filter (f : It → Bool) (ys : List Iv) : its (ys.filter fun y => f y.it) = (its ys).filter f := by
  unfold its
  induction ys with
  | nil => rfl
  | cons y ys ih =>
    simp only [List.filter_cons, List.map_cons]
    split <;> simp [ih]
set_option maxRecDepth 100000 in
set_option maxHeartbeats 4000000 in
theorem intDrop_any (h : IntAt w B A c rs lev m s) (t : Int) (ht : -9223372036854775808 ≤ t ∧ t ≤ 9223372036854775807) (hf : 0 ≤ s.first ∧ s.first ≤ 1000001) :
    Calls Try.prog 76 #[.pointer (some ⟨m.ga, 0, none⟩), .int .i64 t] w
      fun e w' => e = .returned (.tuple #[]) ∧ ∃ m', IntAt w' B A c rs lev m' (dropSt s t) ∧ IntGo B w m w' m' := by
  have hB := h.base_le
  obtain ⟨W, hW⟩ : ∃ W, W = w.alloc (.cells #[.pointer (some ⟨m.ga, 0, none⟩)] 97) := ⟨_, rfl⟩
  have x0 : Ext w W := by rw [hW]; exact ext_alloc _ _
  have b0 : Blk W w.heap.size 97 #[.pointer (some ⟨m.ga, 0, none⟩)] := by rw [hW]; exact Blk.new _ _ _
  have HI := h.ext x0
  have hgo : IntGo B w m W m := .of_ext x0 hB m
  have hne : w.heap.size ≠ m.ga := fun e => by have := h.blk.lt; omega
  have HW := Lib.hid hW
  clear hW h x0
  go_enter Try.func76, Try.ntmps76
  go_upto_region 1 with fail
  rw [← HW.out]
  clear HW
  obtain ⟨gx, hgx⟩ : ∃ gx, gx = w.heap.size := ⟨_, rfl⟩
  rw [← hgx] at b0 hne ⊢
  have HGX : Hid (w.heap.size ≤ gx) := Nat.le_of_eq hgx.symm
  clear hgx
  have r0 := b0.cell 0
  have r1 := HI.blk.cell 17
  rw [HI.firc] at r1
  simp only [List.getElem?_toArray, List.getElem?_cons_zero, List.getElem?_cons_succ] at r0
  have y0 := fun x' (hx : Ext W x') => ext_cell hx r0
  have y1 := fun x' (hx : Ext W x') => ext_cell hx r1
  have fz := HI.blk.frozen
  have fzd := (HI.blk.ext (ext_drewN W 1)).frozen
  have q1 := y1 W.drew (ext_drewN W 1)
  have hwr : IntKind.i64.wrap (min t 1000000 + 1) = min t 1000000 + 1 := IntWalk.i64_in _ (by omega)
  clear r0 r1
  refine wp_region_planH3 (.reads 0 (.reads 1 (.reads 2 (.reads 3 (.reads 4 (.reads 5 (.reads 6 (.reads 7 (.reads 8 (.reads 9 (.reads 10 (.turns 11 (.done))))))))))))) (by kernel_rfl) (by kernel_rfl) (fun x' => Ext W x') (ext_drewN W 1) (fun ops HOPS => ?_)
  (refine segH_load _ _ _ _ _ _ _ _ _ (hid_get HOPS 0 _ rfl) wanted_none rfl (fun _ _ _ _ h => h) (fun y hy => by go_simp; try with_reducible rfl) ?_; simp only [Act.put, List.setIfInBounds_toArray, List.set_cons_zero, List.set_cons_succ])
  (refine segH_load _ _ _ _ _ _ _ _ _ (hid_get HOPS 1 _ rfl) wanted_none rfl (fun _ _ _ _ h => h) (fun y hy => by go_simp; try with_reducible rfl) ?_; simp only [Act.put, List.setIfInBounds_toArray, List.set_cons_zero, List.set_cons_succ])
  (refine segH_nil _ _ _ _ _ _ _ (hid_get HOPS 2 _ rfl) wanted_none rfl (fun _ _ _ _ h => h) ?_; simp only [Act.put, List.setIfInBounds_toArray, List.set_cons_zero, List.set_cons_succ])
  (refine segH_pure _ _ _ _ _ _ (hid_get HOPS 3 _ rfl) rfl wanted_none (fun _ _ _ _ h => h) ?_; intro K hK; go_big_quiet_op; go_big_quiet_on)
  (refine segH_load _ _ _ _ _ _ _ _ _ (hid_get HOPS 4 _ rfl) wanted_none rfl (fun _ _ _ _ h => h) (fun y hy => by go_simp; try with_reducible rfl) ?_; simp only [Act.put, List.setIfInBounds_toArray, List.set_cons_zero, List.set_cons_succ])
  (refine segH_pure _ _ _ _ _ _ (hid_get HOPS 5 _ rfl) rfl wanted_none (fun _ _ _ _ h => h) ?_; intro K hK; go_big_quiet_op; go_big_quiet_on)
  (refine segH_pure _ _ _ _ _ _ (hid_get HOPS 6 _ rfl) rfl wanted_none (fun _ _ _ _ h => h) ?_; intro K hK; go_big_quiet_op; go_big_quiet_on)
  (refine segH_pure _ _ _ _ _ _ (hid_get HOPS 7 _ rfl) rfl wanted_none (fun _ _ _ _ h => h) ?_; intro K hK; go_big_quiet_op; go_big_quiet_on)
  (refine segH_pure _ _ _ _ _ _ (hid_get HOPS 8 _ rfl) rfl wanted_none (fun _ _ _ _ h => h) ?_; intro K hK; go_big_quiet_op; go_big_quiet_on)
  (refine segH_nil _ _ _ _ _ _ _ (hid_get HOPS 9 _ rfl) wanted_none rfl (fun _ _ _ _ h => h) ?_; simp only [Act.put, List.setIfInBounds_toArray, List.set_cons_zero, List.set_cons_succ])
  (refine segH_pure _ _ _ _ _ _ (hid_get HOPS 10 _ rfl) rfl wanted_none (fun _ _ _ _ h => h) ?_; intro K hK; go_big_quiet_op; go_big_quiet_on)
  refine segH_turns _ _ _ _ _ _ (hid_get HOPS 11 _ rfl) wanted_none (fun K hK => ?_)
  go_big_op
  refine hK _ _ (fun _ => True) trivial ?_
  clear hK
  refine seg_done ?_
  clear HOPS
  clear y0 y1 fz fzd q1 hwr
  obtain ⟨nf, hnf⟩ : ∃ nf, nf = if s.first < (if 1000000 < t then 1000000 else t) + 1 then (if 1000000 < t then 1000000 else t) + 1 else s.first := ⟨_, rfl⟩
  rw [← hnf]
  have hnd : dropFirst s t = nf := hnf.symm
  have xd : Ext (W.setCell ⟨m.ga, 17, none⟩ (.int .i64 nf)) (W.setCell ⟨m.ga, 17, none⟩ (.int .i64 nf)).drew := ext_drewN _ 1
  obtain ⟨p1, p2⟩ := HI.put 17 (.int .i64 nf) { s with first := nf } (by omega) (fun a ha => by rw [get_set_ne (by omega)]; exact HI.hav a ha) (fun a ha => by rw [get_set_ne (by omega)]; exact HI.ovr a ha) (by rw [get_set_eq (by rw [HI.size]; omega)]) ⟨rfl, rfl, rfl⟩
  replace p1 := p1.ext xd
  have b1 := (b0.mods (mods_setCell W ⟨m.ga, 17, none⟩ (.int .i64 nf)) hne).ext xd
  have hgo2 := (hgo.trans p2).ext hB xd
  obtain ⟨W2, hW2⟩ : ∃ W2, W2 = (W.setCell ⟨m.ga, 17, none⟩ (.int .i64 nf)).drew := ⟨_, rfl⟩
  rw [← hW2] at p1 b1 hgo2 ⊢
  clear hW2 xd p2 hgo HI b0 hnf
  generalize (if (1000000 : Int) < t then 1000000 else t) = mt
  obtain ⟨ys, hO, hys, hok⟩ := p1.came
  obtain ⟨A0, c0, hv⟩ := hO.form
  have r0 := b1.cell 0
  have r1 := p1.blk.cell 16
  have r2 := p1.blk.cell 17
  rw [p1.camc] at r1
  rw [p1.firc] at r2
  dsimp only at hv hO r1 r2
  rw [hv] at r1 hO
  simp only [List.getElem?_toArray, List.getElem?_cons_zero] at r0
  have y0 := fun x' (hx : Ext W2 x') => ext_cell hx r0
  have y1 := fun x' (hx : Ext W2 x') => ext_cell hx r1
  have y2 := fun x' (hx : Ext W2 x') => ext_cell hx r2
  have hcl : ys.length ≤ 1000000 := by
    rw [← its_length, hys]; exact p1.camelen
  have HP := Lib.hid p1
  have HGO := Lib.hid hgo2
  have HYS : Hid (its ys = s.came) := hys
  have HOK := Lib.hid hok
  have HR : Hid (RowsIv W2 B A0 ys) := hO.rows (B := B)
  have HLT : Hid (gx < W2.heap.size ∧ m.ga < W2.heap.size) := ⟨b1.lt, p1.blk.lt⟩
  clear p1 hgo2 hys hok hO r0 r1 r2 hv b1
  go_upto_region 2 with fail
  refine wp_region_planH3 (.reads 0 (.reads 1 (.reads 2 (.reads 3 (.reads 4 (.reads 6 (.makes 5 (.makes 7 (.reads 8 (.reads 9 (.turns 10 (.done)))))))))))) (by kernel_rfl) (by kernel_rfl) (fun x' => Ext W2 x') (ext_drewN W2 1) (fun ops HOPS => ?_)
  (refine segH_load _ _ _ _ _ _ _ _ _ (hid_get HOPS 0 _ rfl) wanted_none rfl (fun _ _ _ _ h => h) (fun y hy => by go_simp; try with_reducible rfl) ?_; simp only [Act.put, List.setIfInBounds_toArray, List.set_cons_zero, List.set_cons_succ])
  (refine segH_load _ _ _ _ _ _ _ _ _ (hid_get HOPS 1 _ rfl) wanted_none rfl (fun _ _ _ _ h => h) (fun y hy => by go_simp; try with_reducible rfl) ?_; simp only [Act.put, List.setIfInBounds_toArray, List.set_cons_zero, List.set_cons_succ])
  (refine segH_nil _ _ _ _ _ _ _ (hid_get HOPS 2 _ rfl) wanted_none rfl (fun _ _ _ _ h => h) ?_; simp only [Act.put, List.setIfInBounds_toArray, List.set_cons_zero, List.set_cons_succ])
  (refine segH_pure _ _ _ _ _ _ (hid_get HOPS 3 _ rfl) rfl wanted_none (fun _ _ _ _ h => h) ?_; intro K hK; go_big_quiet_op; go_big_quiet_on)
  (refine segH_load _ _ _ _ _ _ _ _ _ (hid_get HOPS 4 _ rfl) wanted_none rfl (fun _ _ _ _ h => h) (fun y hy => by go_simp; try with_reducible rfl) ?_; simp only [Act.put, List.setIfInBounds_toArray, List.set_cons_zero, List.set_cons_succ])
  (refine segH_func _ _ _ _ _ _ _ _ (hid_get HOPS 6 _ rfl) wanted_none rfl (fun _ _ _ _ h => h) ?_; simp only [Act.put, List.setIfInBounds_toArray, List.set_cons_zero, List.set_cons_succ])
  refine segH_makes _ _ _ _ _ _ (hid_get HOPS 5 _ rfl) wanted_none (fun K hK => ?_)
  go_big_op
  refine (cloneIts_any A0 c0 ys _ B (RowsAt.ext HR.out (ext_drewN W2 1)) (by omega)).mono ?_
  rintro e w3 ⟨v3, rfl, hown, x3⟩
  have P3 : Ext W2 w3 := ext_trans (ext_drewN W2 1) x3
  replace hown : Own elIv w3 W2.heap.size v3 ys := hown
  obtain ⟨A3, c3, rfl⟩ := hown.form
  refine hK _ _ (fun x' => Ext W2 x') P3 (fun _ h => h) ?_
  clear hK
  refine segH_makes _ _ _ _ _ _ (hid_get HOPS 7 _ rfl) wanted_none (fun K hK => ?_)
  go_big_op
  refine (deleteFunc_any (y0 w3 P3) (y2 w3 P3) HLT.out.1 HLT.out.2 P3.size hown hcl).mono ?_
  rintro e w4 ⟨v4, rfl, hoff, hm4, hvb⟩
  have P4 : Ext W2 w4 := P3.trans (hm4.below P3.size (fun k e => (hown.typed e).1))
  have hnew : ∀ b, v4.ownBlock = some b → m.vc.ownBlock = some b ∨ W2.heap.size ≤ b := fun b hb => by
    rw [hvb] at hb
    exact .inr (hown.typed hb).1
  obtain ⟨A4, c4, hv4⟩ := hoff.form
  subst hv4
  have hits : its (ys.filter fun y => !late nf y.it) = s.came.filter fun x => !late nf x := by rw [its_filter (fun x => !late nf x), HYS.out]
  obtain ⟨p1, p2⟩ := HP.out.storeCame (w3 := w4) (Mods.of_below P4 _) (hoff.le (Nat.le_trans hB HGO.out.below.size)) (fun y hy => (HOK.out y (List.mem_filter.1 hy).1).ext P4) (Nat.le_trans (List.length_filter_le _ _) hcl) hnew (dropSt s t) ⟨rfl, rfl, rfl, rfl, hnd⟩ (by rw [hits]; unfold dropSt; rw [hnd])
  have hgo := HGO.out.trans p2
  have hyq : Ext W2 w4 := P4
  have fz := (HP.out.blk.ext P4).frozen
  have q1 := y1 w4 P4
  obtain ⟨L, hL⟩ : ∃ L, L = ys.filter fun y => !late nf y.it := ⟨_, rfl⟩
  rw [← hL] at p1 hgo ⊢
  clear p2 hnew hoff hL hits
  refine hK _ _ (fun x' => Ext W2 x') P4 (fun _ h => h) ?_
  clear hK
  (refine segH_nil _ _ _ _ _ _ _ (hid_get HOPS 8 _ rfl) wanted_none rfl (fun _ _ _ _ h => h) ?_; simp only [Act.put, List.setIfInBounds_toArray, List.set_cons_zero, List.set_cons_succ])
  (refine segH_pure _ _ _ _ _ _ (hid_get HOPS 9 _ rfl) rfl wanted_none (fun _ _ _ _ h => h) ?_; intro K hK; go_big_quiet_op; go_big_quiet_on)
  refine segH_turns _ _ _ _ _ _ (hid_get HOPS 10 _ rfl) wanted_none (fun K hK => ?_)
  go_big_op
  refine hK _ _ (fun _ => True) trivial ?_
  clear hK
  refine seg_done ?_
  clear HOPS
  have HF := Lib.hid (And.intro p1 hgo)
  clear p1 hgo y0 y1 y2 fz q1
  go_wp2
  (try simp only [Exit.inBlock, Exit.then])
  refine bodyPost_end (results_none rfl _ _ _) rfl ?_
  exact ⟨rfl, _, HF.out⟩
end
end Go.Proofs.Ytdknkbpgkkakhaa

/- Layer 20: maps.Clone, an intake's cells written out, ranging its map. -/
namespace Go.Proofs.Ytdknkbpgkkakhaa
open Go.RowKit Go.Maps
open Go.ChangeMaps (setBlock)

section
variable {P : Program} (w : World)
theorem run_equalIn_map_nil (d : Nat) (t k e : TypeId) (p : Option Nat) (h : P.underlying t = some (.map k e)) :
    (Op.equalIn (d + 1) t (.map p) (.map none)).run P w = .ok p.isNone w := by
  cases p <;> simp [Op.equalIn, run_underlying h]
theorem run_eql_map_nil (t k e : TypeId) (p : Option Nat) (h : P.underlying t = some (.map k e)) :
    (binOp .eql t (.map p) (.map none)).run P w = .ok (.bool p.isNone) w := by
  simp only [binOp]
  simp [show Op.equal t (.map p) (.map none) = Op.equalIn (9999 + 1) t (.map p) (.map none) from rfl, run_equalIn_map_nil w 9999 t k e p h]
theorem run_typeAssert_map (t xT k e : TypeId) (v : Value) (h : P.underlying t = some (.map k e)) : (Instr.typeAssert (.iface t v) xT t false).run P w = .ok v w := by
  simp [Instr.typeAssert, run_underlying h, go_sem, Result.andThen]
theorem run_maps_clone {r : Nat} {es : Array MapEntry} {clock : Nat} (t : TypeId) (hb : w.heap[r]? = some (.map es clock)) :
    (Extern.MapsClone.clone #[.iface t (.map (some r))]).run P w = .ok (.iface t (.map (some w.heap.size))) (w.alloc (.map es clock)) := by
  have e : Extern.MapsClone.clone #[.iface t (.map (some r))] = (getObj r >>= fun o => match o with
      | .map entries clock => (newObj (.map entries clock) >>= fun n => pure (.iface t (.map (some n))))
      | _ => stuck "maps.clone: a map expected") := rfl
  rw [e]
  simp [MapKept.run_getObj_map hb, Result.andThen, go_sem]
end
set_option maxRecDepth 100000 in
set_option maxHeartbeats 2000000 in
theorem mapsClone_any {w : World} {b : Nat} {es : Array MapEntry} {clock : Nat} (hb : w.heap[b]? = some (.map es clock)) :
    Calls Try.prog 100 #[.map (some b)] w fun e w' => e = .returned (.map (some w.heap.size)) ∧ w' = w.alloc (.map es clock) := by
  have hq := fun w => run_eql_map_nil (P := Try.prog) w 137 _ _ (some b) ul137
  go_enter Try.func100, Try.ntmps100
  go_wp2
  have h110 : Try.prog.funcs[110]? = some Try.f110 := by kernel_rfl
  rw [run_callFunc_extern h110 (by kernel_rfl) (by kernel_rfl) (by kernel_rfl) (e := Extern.MapsClone.clone) (by kernel_rfl), run_maps_clone w 137 hb]
  simp only [Result.andThen]
  rw [Oper.upon_value]
  go_wp2
  rw [run_typeAssert_map _ 137 20 _ _ _ ul137]
  simp only [Result.andThen]
  rw [Oper.upon_value]
  go_wp2
  go_ret
  exact ⟨rfl, rfl⟩

section
variable {w w' : World} {B : Nat} {A : Option Addr} {c : Nat} {rs : List Rw} {lev : Int} {m : IntMem} {s : IntSt}
def intCs (A : Option Addr) (n c : Nat) (lev : Int) (s : IntSt) (mo pc : Nat) (vc : Value) : Array Value :=
  #[.slice A n c, .int .i64 lev, .int .i64 (s.have_ 0), .int .i64 (s.have_ 1), .int .i64 (s.have_ 2), .int .i64 (s.have_ 3), .int .i64 (s.have_ 4), .int .i64 (s.have_ 5), .int .i64 (s.over 0), .int .i64 (s.over 1), .int .i64 (s.over 2), .int .i64 (s.over 3), .int .i64 (s.over 4), .int .i64 (s.over 5), .map (some mo), .chan (some pc), vc, .int .i64 s.first]
theorem IntAt.cs_eq (h : IntAt w B A c rs lev m s) : m.cs = intCs A rs.length c lev s m.mo m.pc m.vc := by
  apply Array.ext
  · rw [h.size]; rfl
  · intro i h1 h2
    have e : ∀ v, m.cs[i]? = some v → m.cs[i] = v := fun v hv => by rw [Array.getElem?_eq_getElem h1] at hv; exact Option.some.inj hv
    have h18 : i < 18 := by rw [h.size] at h1; exact h1
    obtain rfl | rfl | rfl | rfl | rfl | rfl | rfl | rfl | rfl | rfl | rfl | rfl | rfl | rfl | rfl | rfl | rfl | rfl : i = 0 ∨ i = 1 ∨ i = 2 ∨ i = 3 ∨ i = 4 ∨ i = 5 ∨ i = 6 ∨ i = 7 ∨ i = 8 ∨ i = 9 ∨ i = 10 ∨ i = 11 ∨ i = 12 ∨ i = 13 ∨ i = 14 ∨ i = 15 ∨ i = 16 ∨ i = 17 := by omega
    · exact e _ h.lat
    · exact e _ h.lev_
    · exact e _ (h.hav 0 (by omega))
    · exact e _ (h.hav 1 (by omega))
    · exact e _ (h.hav 2 (by omega))
    · exact e _ (h.hav 3 (by omega))
    · exact e _ (h.hav 4 (by omega))
    · exact e _ (h.hav 5 (by omega))
    · exact e _ (h.ovr 0 (by omega))
    · exact e _ (h.ovr 1 (by omega))
    · exact e _ (h.ovr 2 (by omega))
    · exact e _ (h.ovr 3 (by omega))
    · exact e _ (h.ovr 4 (by omega))
    · exact e _ (h.ovr 5 (by omega))
    · exact e _ h.mapc
    · exact e _ h.chac
    · exact e _ h.camc
    · exact e _ h.firc
/-- An intake out of its parts. -/
theorem IntAt.of_parts {ga mo pc : Nat} {fh : Int × Int → Option Value} {vc : Value} (hb : B ≤ ga ∧ B ≤ mo ∧ B ≤ pc) (hne : mo ≠ pc) (h1 : Blk w ga 140 (intCs A rs.length c lev s mo pc vc)) (h2 : MapN Try.prog 143 wayV w mo s.cnt fh) (h3 : ChanIs w pc 40 s.cnt)
    (hh : ∀ x, HeldOk w B (fh x) (s.held x)) {ys : List Iv} (hO : Off elIv w B vc ys) (hys : its ys = s.came) (hok : ∀ y ∈ ys, IvOk w B y) (hM : MatAt w B A rs) (hf : s.cnt ≤ 40) (hl : s.came.length ≤ 1000000) :
    IntAt w B A c rs lev ⟨ga, mo, pc, fh, intCs A rs.length c lev s mo pc vc, vc⟩ s where
  base := hb
  apart := hne
  blk := h1
  size := rfl
  lat := rfl
  lev_ := rfl
  hav a ha := by
    obtain rfl | rfl | rfl | rfl | rfl | rfl : a = 0 ∨ a = 1 ∨ a = 2 ∨ a = 3 ∨ a = 4 ∨ a = 5 := by omega
    all_goals rfl
  ovr a ha := by
    obtain rfl | rfl | rfl | rfl | rfl | rfl : a = 0 ∨ a = 1 ∨ a = 2 ∨ a = 3 ∨ a = 4 ∨ a = 5 := by omega
    all_goals rfl
  mapc := rfl
  chac := rfl
  camc := rfl
  firc := rfl
  map := h2
  chan := h3
  helds := hh
  came := ⟨ys, hO, hys, hok⟩
  mat := hM
  few := hf
  camelen := hl
end

/-- Of entries apart by their stamps, one less is left behind each step. -/
theorem filter_one {l : List MapEntry} (hp : l.Pairwise fun x y => x.born ≠ y.born) {e : MapEntry} (he : e ∈ l) (q : MapEntry → Bool) (hq : q e = true) :
    (l.filter fun x => q x && !(x.born == e.born)).length + 1 = (l.filter q).length := by
  induction l with
  | nil => cases he
  | cons a l ih =>
    obtain ⟨h1, h2⟩ := List.pairwise_cons.1 hp
    rcases List.mem_cons.1 he with rfl | he'
    · have e1 : (l.filter fun x => q x && !(x.born == e.born)) = l.filter q := by
        apply List.filter_congr
        intro x hx
        have : (x.born == e.born) = false := by
          rw [beq_eq_false_iff_ne]
          exact fun hc => h1 x hx hc.symm
        rw [this]; simp
      simp [List.filter_cons, hq, e1]
    · have hne : (a.born == e.born) = false := beq_eq_false_iff_ne.2 (h1 e he')
      have := ih h2 he'
      simp only [List.filter_cons, hne, Bool.not_false, Bool.and_true]
      split <;> simp_all
theorem left_step {es : Array MapEntry} (hp : es.toList.Pairwise fun x y => x.born ≠ y.born) {seen : Array Nat} {e : MapEntry} (he : e ∈ (leftOf es seen).toList) : (leftOf es (seen.push e.born)).size + 1 = (leftOf es seen).size := by
  have hm : e ∈ es.toList ∧ (!seen.contains e.born) = true := by
    have := he
    simp only [leftOf, Array.toList_filter, List.mem_filter] at this
    exact this
  have h1 := filter_one hp hm.1 (fun x => !seen.contains x.born) hm.2
  rw [← Array.length_toList, ← Array.length_toList]
  simp only [leftOf, Array.toList_filter]
  rw [← h1]
  congr 2
  apply List.filter_congr
  intro x _
  by_cases h : x.born = e.born
  · simp [h]
  · simp [h]
end Go.Proofs.Ytdknkbpgkkakhaa

/- Layer 20: Copy. -/
namespace Go.Proofs.Ytdknkbpgkkakhaa
open Go.RowKit Go.Maps
open Go.ChangeMaps (setBlock)

section
open Go.Conc
variable {P : Program} {ops : Array Oper} {Q : Exit → Act → World → Prop} {a : Act} {w w' : World} {i : Nat} {rest : List Nat} {o : Oper}
theorem sem_skip (ho : ops[i]? = some o) (hg : o.guard = none) (hr : (execOp a.eval o).run P w = .ok .skip w')
    (h' : SemOps P ops Q rest (a.put o.dst undef) w') : SemOps P ops Q (i :: rest) a w :=
  sem_step undef ho (fun b k cs => step_lone_go (by
    rw [stepG_op ho (by simp [Region.wanted, hg])]
    simp [stepG.apply, hr])) h'
theorem run_load_op {t : TypeId} {dst : Option Tmp} {x : Operand} {ty : TypeId} {pos : String} {after : Array Edge} {guard : Option (Nat × Bool)} {ad : Addr} {v : Value} (hx : a.eval x = .pointer (some ad)) (h : (Instr.loadAt t (.pointer (some ad))).run P w = .ok v w) :
    (execOp a.eval ⟨dst, .load t x, ty, pos, after, guard⟩).run P w = .ok (.value v) w := by
  simp only [execOp, hx, Sem.run_bind, h, Result.andThen_ok, Sem.run_pure]
theorem run_store_op {t : TypeId} {dst : Option Tmp} {x y : Operand} {ty : TypeId} {pos : String} {after : Array Edge} {guard : Option (Nat × Bool)} {ad : Addr} {v : Value} (hx : a.eval x = .pointer (some ad)) (hy : a.eval y = v) (h : (Instr.storeAt t (.pointer (some ad)) v).run P w = .ok () w') :
    (execOp a.eval ⟨dst, .store t x y, ty, pos, after, guard⟩).run P w = .ok .skip w' := by
  simp only [execOp, hx, hy, Sem.run_bind, h, Result.andThen_ok, Sem.run_pure]
end
theorem agg140 (w : World) : (isAgg 140).run Try.prog w = .ok true w := by kernel_rfl
theorem size140 (w : World) : (sizeOf 140).run Try.prog w = .ok 18 w := by kernel_rfl
section
variable {w w' : World} {B : Nat} {A : Option Addr} {c : Nat} {rs : List Rw} {lev : Int} {m : IntMem} {s : IntSt}
def CopyPost (w : World) (B : Nat) (A : Option Addr) (c : Nat) (rs : List Rw) (lev : Int) (s : IntSt) (e : Ending) (w' : World) : Prop :=
  ∃ m', e = .returned (.pointer (some ⟨m'.ga, 0, none⟩)) ∧ IntAt w' B A c rs lev m' s ∧ Ext w w' ∧ ∀ g, IntOwn m' g → w.heap.size ≤ g
theorem intCs_map (A : Option Addr) (n c : Nat) (lev : Int) (s : IntSt) (mo pc mo' : Nat) (vc v' : Value) : ((intCs A n c lev s mo pc vc).setIfInBounds 14 (.map (some mo'))).setIfInBounds 16 v' = intCs A n c lev s mo' pc v' := by simp [intCs]
theorem intCs_chan (A : Option Addr) (n c : Nat) (lev : Int) (s : IntSt) (mo pc pc' : Nat) (vc : Value) : (intCs A n c lev s mo pc vc).setIfInBounds 15 (.chan (some pc')) = intCs A n c lev s mo pc' vc := by simp [intCs]
set_option maxRecDepth 100000 in
set_option maxHeartbeats 4000000 in
theorem intCopy_any (h : IntAt w B A c rs lev m s) :
    Calls Try.prog 75 #[.pointer (some ⟨m.ga, 0, none⟩)] w (CopyPost w B A c rs lev s) := by
  have hB := h.base_le
  obtain ⟨ys, hO, hys, hok⟩ := h.came
  obtain ⟨A0, c0, hv⟩ := hO.form
  have hb := h.blk
  rw [h.cs_eq, hv] at hb
  have hcl : ys.length ≤ 1000000 := by rw [← its_length, hys]; exact h.camelen
  have hR0 : RowsIv w B A0 ys := by
    rw [hv] at hO
    exact hO.rows (B := B)
  obtain ⟨cs, hcs⟩ : ∃ cs, cs = intCs A rs.length c lev s m.mo m.pc (.slice A0 ys.length c0) := ⟨_, rfl⟩
  have hc18 : cs.size = 18 := by rw [hcs]; rfl
  have hone : cs.all (·.oneCell') = true := by rw [hcs]; simp [intCs, Value.oneCell']
  rw [← hcs] at hb
  obtain ⟨W, hW⟩ : ∃ W, W = w.alloc (.cells cs 140) := ⟨_, rfl⟩
  have x0 : Ext w W := by rw [hW]; exact ext_alloc _ _
  have b0 : Blk W w.heap.size 140 cs := by rw [hW]; exact Blk.new _ _ _
  have HH := Lib.hid h
  have hld : (Instr.loadAt 140 (.pointer (some ⟨m.ga, 0, none⟩))).run Try.prog w = .ok (.agg cs) w := by
    have := run_loadCells_list (P := Try.prog) w ⟨m.ga, 0, none⟩ cs.toList (fun j v hv => by rw [Addr.add_lit, hb.cell]; simpa using hv)
    rw [Array.length_toList, hc18] at this
    simp only [Instr.loadAt, Instr.sureAddr, Sem.run_bind, Sem.run_pure, Result.andThen, loadVar, agg140, size140, this, if_true]
  have hst : (Instr.storeAt 140 (.pointer (some ⟨w.heap.size, 0, none⟩)) (.agg cs)).run Try.prog (w.alloc (.cells #[.slice none 0 0, .int .i64 0, .int .i64 0, .int .i64 0, .int .i64 0, .int .i64 0, .int .i64 0, .int .i64 0, .int .i64 0, .int .i64 0, .int .i64 0, .int .i64 0, .int .i64 0, .int .i64 0, .map none, .chan none, .slice none 0 0, .int .i64 0] 140)) = .ok () W := by
    rw [hW]
    exact run_storeAt_new w 140 _ cs (by rw [hc18]; kernel_rfl) (by rw [hc18]; rfl) hone
  have HC := Lib.hid hcs
  have HC18 := Lib.hid hc18
  clear hW h hv hone hcs hc18
  go_enter Try.func75, Try.ntmps75
  go_upto_region 1 with fail
  refine sem_region ?_
  show SemOps _ _ _ [0, 1, 2, 3, 4] _ _
  refine sem_value (w' := w) (.pointer (some ⟨m.ga, 0, none⟩)) rfl rfl (by kernel_rfl) ?_
  refine sem_value (w' := w) (.pointer (some ⟨m.ga, 0, none⟩)) rfl rfl (by kernel_rfl) ?_
  refine sem_value (w' := w) (.agg cs) rfl rfl (run_load_op rfl hld) ?_
  refine sem_value (w' := w.alloc (.cells #[.slice none 0 0, .int .i64 0, .int .i64 0, .int .i64 0, .int .i64 0, .int .i64 0, .int .i64 0, .int .i64 0, .int .i64 0, .int .i64 0, .int .i64 0, .int .i64 0, .int .i64 0, .int .i64 0, .map none, .chan none, .slice none 0 0, .int .i64 0] 140)) (.pointer (some ⟨w.heap.size, 0, none⟩)) rfl rfl (by kernel_rfl) ?_
  refine sem_skip (w' := W) rfl rfl (run_store_op rfl rfl hst) ?_
  refine semOps_drop 5 ?_
  simp only [List.drop_succ_cons, List.drop_zero, Act.put, List.getElem_toArray, List.getElem_cons_zero, List.getElem_cons_succ, List.setIfInBounds_toArray, List.set_cons_zero, List.set_cons_succ]
  clear hld hst
  go_wp2_with fail
  rw [HC.out] at b0 hb
  obtain ⟨gn, hgn⟩ : ∃ gn, gn = w.heap.size := ⟨_, rfl⟩
  rw [← hgn] at b0 ⊢
  have HGN : Hid (w.heap.size ≤ gn) := Nat.le_of_eq hgn.symm
  have hgl : gn < W.heap.size := b0.lt
  clear hgn
  have f0 := (hb.ext x0).cell 14
  have f1 := (hb.ext x0).cell 16
  simp only [intCs, List.getElem?_toArray, List.getElem?_cons_zero, List.getElem?_cons_succ] at f0 f1
  have hne : m.ga ≠ gn := fun e => by have := hb.lt; have := HGN.out; omega
  have yg : ∀ x', Mods (fun k => k = gn) W x' → ∀ i, x'.cell? ⟨m.ga, i, none⟩ = W.cell? ⟨m.ga, i, none⟩ := fun x' hx i => by rw [((hb.ext x0).mods hx hne).cell, (hb.ext x0).cell]
  have y0 := fun x' hx => (yg x' hx 14).trans f0
  have y1 := fun x' hx => (yg x' hx 16).trans f1
  obtain ⟨es, clock, hmap0, hsz, hE⟩ := (HH.out.map.ext x0).ext (ext_drewN W 1)
  have hmap : W.drew.heap[m.mo]? = some (.map es clock) := hmap0
  clear hmap0
  have HR : Hid (RowsIv W B A0 ys) := RowsAt.ext hR0 x0
  clear f0 f1 yg
  refine wp_region_planH3 (.reads 0 (.reads 1 (.reads 2 (.reads 3 (.reads 5 (.reads 6 (.reads 7 (.reads 8 (.makes 4 (.makes 9 (.reads 10 (.makes 11 (.reads 12 (.turns 13 (.done))))))))))))))) (by kernel_rfl) (by kernel_rfl) (fun x' => Mods (fun k => k = gn) W x') (Mods.of_below (ext_drewN W 1) _) (fun ops HOPS => ?_)
  (refine segH_pure _ _ _ _ _ _ (hid_get HOPS 0 _ rfl) rfl wanted_none (fun _ _ _ _ h => h) ?_; intro K hK; go_big_quiet_op; go_big_quiet_on)
  (refine segH_nil _ _ _ _ _ _ _ (hid_get HOPS 1 _ rfl) wanted_none rfl (fun _ _ _ _ h => h) ?_; simp only [Act.put, List.setIfInBounds_toArray, List.set_cons_zero, List.set_cons_succ])
  (refine segH_pure _ _ _ _ _ _ (hid_get HOPS 2 _ rfl) rfl wanted_none (fun _ _ _ _ h => h) ?_; intro K hK; go_big_quiet_op; go_big_quiet_on)
  (refine segH_load _ _ _ _ _ _ _ _ _ (hid_get HOPS 3 _ rfl) wanted_none rfl (fun _ _ _ _ h => h) (fun y hy => by go_simp; try with_reducible rfl) ?_; simp only [Act.put, List.setIfInBounds_toArray, List.set_cons_zero, List.set_cons_succ])
  (refine segH_pure _ _ _ _ _ _ (hid_get HOPS 5 _ rfl) rfl wanted_none (fun _ _ _ _ h => h) ?_; intro K hK; go_big_quiet_op; go_big_quiet_on)
  (refine segH_nil _ _ _ _ _ _ _ (hid_get HOPS 6 _ rfl) wanted_none rfl (fun _ _ _ _ h => h) ?_; simp only [Act.put, List.setIfInBounds_toArray, List.set_cons_zero, List.set_cons_succ])
  (refine segH_pure _ _ _ _ _ _ (hid_get HOPS 7 _ rfl) rfl wanted_none (fun _ _ _ _ h => h) ?_; intro K hK; go_big_quiet_op; go_big_quiet_on)
  (refine segH_load _ _ _ _ _ _ _ _ _ (hid_get HOPS 8 _ rfl) wanted_none rfl (fun _ _ _ _ h => h) (fun y hy => by go_simp; try with_reducible rfl) ?_; simp only [Act.put, List.setIfInBounds_toArray, List.set_cons_zero, List.set_cons_succ])
  refine segH_makes _ _ _ _ _ _ (hid_get HOPS 4 _ rfl) wanted_none (fun K hK => ?_)
  go_big_op
  refine (mapsClone_any hmap).mono ?_
  rintro e w2 ⟨rfl, rfl⟩
  obtain ⟨mo, hmo⟩ : ∃ mo, mo = W.drew.heap.size := ⟨_, rfl⟩
  rw [← hmo]
  have P2 : Ext W (W.drew.alloc (.map es clock)) := ext_trans (ext_drewN W 1) (ext_alloc _ _)
  have hmN : MapN Try.prog 143 wayV (W.drew.alloc (.map es clock)) mo s.cnt m.fh := ⟨es, clock, by rw [hmo]; exact (MapKept.heap_alloc W.drew _).1, hsz, hE⟩
  obtain ⟨W2, hW2⟩ : ∃ W2, W2 = W.drew.alloc (.map es clock) := ⟨_, rfl⟩
  have hgmo : W.heap.size ≤ mo := Nat.le_of_eq hmo.symm
  rw [← hW2] at P2 hmN ⊢
  clear hW2 hmo
  refine hK _ _ (fun x' => Mods (fun k => k = gn) W x') (Mods.of_below P2 _) (fun _ h => h) ?_
  clear hK
  refine segH_makes _ _ _ _ _ _ (hid_get HOPS 9 _ rfl) wanted_none (fun K hK => ?_)
  go_big_op
  refine (cloneIts_any A0 c0 ys _ B (RowsAt.ext HR.out P2) (by omega)).mono ?_
  rintro e w3 ⟨v3, rfl, hown, x3⟩
  have P3 : Ext W w3 := ext_trans P2 x3
  replace hown : Own elIv w3 W2.heap.size v3 ys := hown
  obtain ⟨A3, c3, rfl⟩ := hown.form
  have gb := b0.ext P3
  have k14 := gb.cell 14
  have k16 := gb.cell 16
  have fz := gb.frozen
  simp only [intCs, List.getElem?_toArray, List.getElem?_cons_zero, List.getElem?_cons_succ] at k14 k16
  refine hK _ _ (fun x' => Mods (fun k => k = gn) W x') (Mods.of_below P3 _) (fun _ h => h) ?_
  clear hK
  (refine segH_pure _ _ _ _ _ _ (hid_get HOPS 10 _ rfl) rfl wanted_none (fun _ _ _ _ h => h) ?_; intro K hK; go_big_quiet_op; go_big_quiet_on)
  refine segH_makes _ _ _ _ _ _ (hid_get HOPS 11 _ rfl) wanted_none (fun K hK => ?_)
  go_big_op
  have M4 : Mods (fun k => k = gn) W (w3.setCell ⟨gn, 14, none⟩ (.map (some mo))) := (Mods.of_below P3 _).trans (mods_setCell w3 ⟨gn, 14, none⟩ _) (fun _ _ e => e)
  refine hK _ _ (fun x' => Mods (fun k => k = gn) W x') M4 (fun _ h => h) ?_
  clear hK
  (refine segH_pure _ _ _ _ _ _ (hid_get HOPS 12 _ rfl) rfl wanted_none (fun _ _ _ _ h => h) ?_; intro K hK; go_big_quiet_op; go_big_quiet_on)
  refine segH_turns _ _ _ _ _ _ (hid_get HOPS 13 _ rfl) wanted_none (fun K hK => ?_)
  go_big_op
  refine hK _ _ (fun _ => True) trivial ?_
  clear hK
  refine seg_done ?_
  clear HOPS
  have M5 : Mods (fun k => k = gn) W ((w3.setCell ⟨gn, 14, none⟩ (.map (some mo))).setCell ⟨gn, 16, none⟩ (.slice A3 ys.length c3)) := M4.trans (mods_setCell _ ⟨gn, 16, none⟩ _) (fun _ _ e => e)
  have mk : Mods (fun k => k = gn) w3 ((w3.setCell ⟨gn, 14, none⟩ (.map (some mo))).setCell ⟨gn, 16, none⟩ (.slice A3 ys.length c3)) := (mods_setCell w3 ⟨gn, 14, none⟩ _).trans (mods_setCell _ ⟨gn, 16, none⟩ _) (fun _ _ e => e)
  have gb5 : Blk ((w3.setCell ⟨gn, 14, none⟩ (.map (some mo))).setCell ⟨gn, 16, none⟩ (.slice A3 ys.length c3)) gn 140 (intCs A rs.length c lev s mo m.pc (.slice A3 ys.length c3)) := by
    have := (gb.set_ 14 (.map (some mo))).set_ 16 (.slice A3 ys.length c3)
    rwa [intCs_map] at this
  obtain ⟨w5, hw5⟩ : ∃ w5, w5 = (w3.setCell ⟨gn, 14, none⟩ (.map (some mo))).setCell ⟨gn, 16, none⟩ (.slice A3 ys.length c3) := ⟨_, rfl⟩
  rw [← hw5] at M5 mk gb5 ⊢
  have hmN5 := (hmN.ext x3).mods mk (fun e => by omega)
  have hown5 := hown.mods mk (fun b hb e => by have := (hown.typed hb).1; have := P2.size; omega)
  have X5 : Ext w w5 := x0.trans (M5.below x0.size (fun k e => by rw [e]; exact HGN.out))
  have hs25 : W2.heap.size ≤ w5.heap.size := Nat.le_trans x3.size mk.size
  clear hw5 M4 mk hmN hown k14 k16 fz gb P3 x3 y0 y1 HR hR0
  have hmc := run_chan40 w5
  have gb5a := gb5.ext (ext_alloc w5 (.chan 40 #[] false 0 0 false))
  have l15 := gb5a.cell 15
  have fz5 := gb5a.frozen
  simp only [intCs, List.getElem?_toArray, List.getElem?_cons_zero, List.getElem?_cons_succ] at l15
  go_upto_region 4 with fail
  obtain ⟨pc, hpc⟩ : ∃ pc, pc = w5.heap.size := ⟨_, rfl⟩
  have hch0 : ChanIs ((w5.alloc (.chan 40 #[] false 0 0 false)).setCell ⟨gn, 15, none⟩ (.chan (some w5.heap.size))) w5.heap.size 40 0 := (ChanIs.new w5 40).mods (mods_setCell _ ⟨gn, 15, none⟩ _) (fun e => by have h9 := gb5.lt; have e' : w5.heap.size = gn := e; omega)
  have gb6 : Blk ((w5.alloc (.chan 40 #[] false 0 0 false)).setCell ⟨gn, 15, none⟩ (.chan (some w5.heap.size))) gn 140 (intCs A rs.length c lev s mo w5.heap.size (.slice A3 ys.length c3)) := by
    have := gb5a.set_ 15 (.chan (some w5.heap.size))
    rwa [intCs_chan] at this
  have mk6 : Mods (fun k => k = gn) w5 ((w5.alloc (.chan 40 #[] false 0 0 false)).setCell ⟨gn, 15, none⟩ (.chan (some w5.heap.size))) := (Mods.of_below (ext_alloc w5 _) _).trans (mods_setCell _ ⟨gn, 15, none⟩ _) (fun _ _ e => e)
  rw [← hpc] at hch0 gb6 mk6 ⊢
  obtain ⟨w6, hw6⟩ : ∃ w6, w6 = (w5.alloc (.chan 40 #[] false 0 0 false)).setCell ⟨gn, 15, none⟩ (.chan (some pc)) := ⟨_, rfl⟩
  rw [← hw6] at hch0 gb6 mk6 ⊢
  have hmN6 := hmN5.mods mk6 (fun e => by omega)
  have hown6 := hown5.mods mk6 (fun b hb e => by have := (hown5.typed hb).1; have := P2.size; omega)
  have X6 : Ext w w6 := X5.trans (mk6.below X5.size (fun k e => by rw [e]; exact HGN.out))
  have hpc1 : W2.heap.size ≤ pc ∧ gn ≠ pc ∧ mo ≠ pc := by
    have h1 := hmN5.lt
    have h2 := gb5.lt
    exact ⟨by omega, by omega, by omega⟩
  clear hw6 hmc fz5 l15 gb5a gb5 mk6 hmN5 hown5 X5 hpc hs25
  obtain ⟨es', clock', hmap6, hsz6, hE6⟩ := hmN6
  have hrg := run_range_map (P := Try.prog) w6 137 143 33 mo es' clock' ul137 hmap6
  have l14 := gb6.cell 14
  simp only [intCs, List.getElem?_toArray, List.getElem?_cons_zero, List.getElem?_cons_succ] at l14
  go_wp2_with fail
  obtain ⟨V, hV⟩ : ∃ V, V = w6.alloc (.mapIter (some mo) clock' #[] clock') := ⟨_, rfl⟩
  have xV : Ext w6 V := by rw [hV]; exact ext_alloc _ _
  have hit : V.heap[w6.heap.size]? = some (.mapIter (some mo) clock' #[] clock') := by rw [hV]; exact (MapKept.heap_alloc w6 _).1
  rw [← hV]
  have gbV := gb6.ext xV
  have hmapV : V.heap[mo]? = some (.map es' clock') := (xV.block mo (Array.getElem?_eq_some_iff.1 hmap6).1).trans hmap6
  have hchV := hch0.ext xV
  have hownV := hown6.ext xV
  have hXV := ext_trans X6 xV
  obtain ⟨r, hr⟩ : ∃ r, r = w6.heap.size := ⟨_, rfl⟩
  rw [← hr] at hit ⊢
  have hrn : r ≠ gn ∧ r ≠ mo ∧ r ≠ pc ∧ w.heap.size ≤ r ∧ r < V.heap.size := by
    have h1 := gb6.lt
    have h2 := (Array.getElem?_eq_some_iff.1 hmap6).1
    have h3 := hch0.lt
    have h4 := (Array.getElem?_eq_some_iff.1 hit).1
    have h5 := X6.size
    exact ⟨by omega, by omega, by omega, by omega, h4⟩
  have hownr : ∀ b, (Value.slice A3 ys.length c3).ownBlock = some b → b ≠ r := fun b hb => by
    have := (hown6.blk' hb).2
    omega
  have hownp : ∀ b, (Value.slice A3 ys.length c3).ownBlock = some b → b ≠ pc ∧ W2.heap.size ≤ b := fun b hb => by
    refine ⟨fun e => ?_, (hown6.typed hb).1⟩
    subst e
    obtain ⟨buf, s1, r1, h1, _⟩ := hch0
    rcases hown6.2 with ⟨h2, _⟩ | ⟨g, cap, cur, h2, _, h3, _⟩
    · rw [h2] at hb; cases hb
    · rw [h2] at hb
      have h4 : g = b := by simpa [Value.ownBlock] using hb
      subst h4
      rw [h1] at h3
      cases h3
  have hfew := HH.out.few
  clear hrg l14 hV hr xV gb6 hmap6 hch0 hown6 X6 w6
  go_loopw [25] (fun _ wr => ∃ (seen : Array Nat) (q0 k : Nat), Mods (fun g => g = r ∨ g = pc) V wr ∧ wr.heap[r]? = some (.mapIter (some mo) clock' seen q0) ∧ clock' ≤ q0 ∧ (leftOf es' seen).size + k = es'.size ∧ ChanIs wr pc 40 k) (fun _ wr => match wr.heap[r]? with | some (.mapIter _ _ seen _) => (leftOf es' seen).size | _ => 0)
  case atStart => exact ⟨#[], clock', 0, Mods.refl _ _, hit, Nat.le_refl _, by simp [leftOf], hchV⟩
  case round =>
    obtain ⟨seen, q0, k, hm, hri, hq, hlk, hch⟩ := hrel
    have hmr : wr.heap[mo]? = some (.map es' clock') := (hm.block mo (Array.getElem?_eq_some_iff.1 hmapV).1 (fun e => e.elim hrn.2.1.symm hpc1.2.2)).trans hmapV
    rcases run_next_at (P := Try.prog) wr 0 r mo clock' q0 seen es' clock' hri hmr hE6.old hq with ⟨h0, hnx⟩ | ⟨e, he, w1, hw1, hnx⟩
    · have hks : k = s.cnt := by rw [← hsz6]; omega
      have hXr : Ext w wr := hXV.trans (hm.below hXV.size (fun g e => by
        rcases e with rfl | rfl
        · exact hrn.2.2.2.1
        · have := x0.size; have := P2.size; omega))
      have hF : Hid (∃ m' : IntMem, m'.ga = gn ∧ IntAt wr B A c rs lev m' s ∧ Ext w wr ∧ ∀ g, IntOwn m' g → w.heap.size ≤ g) := by
        have hx0 := x0.size
        have hp2 := P2.size
        have hgn := HGN.out
        refine ⟨⟨gn, mo, pc, m.fh, intCs A rs.length c lev s mo pc (.slice A3 ys.length c3), .slice A3 ys.length c3⟩, rfl, IntAt.of_parts (ys := ys) ⟨by omega, by omega, by omega⟩ hpc1.2.2 (gbV.mods hm (fun e => e.elim (fun e => hrn.1 e.symm) hpc1.2.1)) ⟨es', clock', hmr, hsz6, hE6⟩ (by rw [← hks]; exact hch) (fun x => (HH.out.helds x).ext hXr) ((hownV.mods hm (fun b hb e => e.elim (hownr b hb) (hownp b hb).1)).off.le (by omega)) hys (fun y hy => (hok y hy).ext hXr) (HH.out.mat.ext hXr) hfew HH.out.camelen, hXr, ?_⟩
        rintro g (hg | hg | hg | hg)
        · have hg' : g = gn := hg
          omega
        · have hg' : g = mo := hg
          omega
        · have hg' : g = pc := hg
          omega
        · have := (hownp g hg).2
          omega
      clear hm hri hq hlk hch hmr gbV hmapV hchV hownV hit hXV hok hO hys hE6 hXr hks
      go_wp2_with fail
      go_ret
      obtain ⟨m', h1, h2⟩ := hF.out
      exact ⟨m', by rw [h1]; rfl, h2⟩
    · have hmem : e ∈ es'.toList := by
        have := he
        simp only [leftOf, Array.toList_filter, List.mem_filter] at this
        exact this.1
      obtain ⟨x, hxk, hxv⟩ := hE6.said e hmem
      have hls := left_step hE6.born he
      have hw1e : Ext wr w1 := by
        rcases hw1 with rfl | rfl
        · exact Below.refl _ _
        · exact ext_drewN wr 1
      obtain ⟨w2, hw2⟩ : ∃ w2, w2 = setBlock w1 r (.mapIter (some mo) clock' (seen.push e.born) clock') := ⟨_, rfl⟩
      rw [← hw2] at hnx
      have m2 : Mods (fun g => g = r) wr w2 := by rw [hw2]; exact (Mods.of_below hw1e _).trans (mods_setBlock _ _ _) (fun _ _ e => e)
      have hri2 : w2.heap[r]? = some (.mapIter (some mo) clock' (seen.push e.born) clock') := by
        have h1 := (Array.getElem?_eq_some_iff.1 hri).1
        have h2 := hw1e.size
        rw [hw2]
        simp [setBlock, Nat.lt_of_lt_of_le h1 h2]
      have hmr2 : w2.heap[mo]? = some (.map es' clock') := (m2.block mo (Array.getElem?_eq_some_iff.1 hmr).1 (fun e => hrn.2.1 e.symm)).trans hmr
      have hen := run_entry_at (P := Try.prog) w2 r mo clock' seen es' clock' e hri2 hmr2 hmem (by
        rw [List.Nodup, List.pairwise_map]
        exact hE6.born)
      rw [hxk] at hnx hen
      unfold wayV at hnx hen
      have gb2 := (gbV.mods hm (fun e => e.elim (fun e => hrn.1 e.symm) hpc1.2.1)).mods m2 (fun e => hrn.1 e.symm)
      have hch2 := hch.mods m2 (fun e => hrn.2.2.1 e.symm)
      have hm2 : Mods (fun g => g = r ∨ g = pc) V w2 := hm.trans m2 (fun _ _ e => .inl e)
      have hbw : Hid (e.born = e.born) := rfl
      have HRI := Lib.hid hri
      clear hw2 hw1 hw1e hm hri hq hmr gbV hmapV hchV hownV hit hXV hok hO hys hch m2
      go_upto_region 7 with fail
      clear hnx hen
      obtain ⟨w4, hw4⟩ : ∃ w4, w4 = w2.alloc (.cells #[.int .i64 x.1, .int .i64 x.2] 143) := ⟨_, rfl⟩
      have x4 : Ext w2 w4 := by rw [hw4]; exact ext_alloc _ _
      have b4 : Blk w4 w2.heap.size 143 #[.int .i64 x.1, .int .i64 x.2] := by rw [hw4]; exact Blk.new _ _ _
      rw [← hw4]
      clear hw4
      have gb4 := gb2.ext x4
      obtain ⟨buf, s1, r1, hbuf, hbsz⟩ := hch2.ext x4
      have hm4 : Mods (fun g => g = r ∨ g = pc) V w4 := hm2.trans (Mods.of_below x4 (fun _ => False)) (fun _ _ e => e.elim)
      have hri4 : w4.heap[r]? = some (.mapIter (some mo) clock' (seen.push e.born) clock') := (x4.block r (Array.getElem?_eq_some_iff.1 hri2).1).trans hri2
      have c0' := gb4.cell 15
      have c1' := b4.cell 0
      have c2' := b4.cell 1
      simp only [intCs, List.getElem?_toArray, List.getElem?_cons_zero, List.getElem?_cons_succ] at c0' c1' c2'
      have hroom : buf.size < 40 := by rw [hbsz]; omega
      clear hch2 hm2 hri2 gb2
      refine sem_region ?_
      show SemOps _ _ _ [0, 1, 2, 3] _ _
      refine sem_value (w' := w4) (.pointer (some ⟨gn, 15, none⟩)) rfl rfl (by kernel_rfl) ?_
      refine sem_value (w' := w4) (.chan (some pc)) rfl rfl (run_load_op rfl ?_) ?_
      · go_simp
      refine sem_value (w' := w4) (.agg #[.int .i64 x.1, .int .i64 x.2]) rfl rfl (run_load_op (ad := ⟨w2.heap.size, 0, none⟩) rfl ?_) ?_
      · go_simp
      refine sem_send (v := .agg #[.int .i64 x.1, .int .i64 x.2]) (z := undef) rfl rfl (by kernel_rfl) hbuf hroom ?_
      refine semOps_drop 4 ?_
      simp only [List.drop_succ_cons, List.drop_zero, Act.put, List.getElem_toArray, List.getElem_cons_zero, List.getElem_cons_succ, List.setIfInBounds_toArray, List.set_cons_zero, List.set_cons_succ]
      have kc := mods_setChan w4 pc 40 (buf.push (.agg #[.int .i64 x.1, .int .i64 x.2])) (s1 + 1) r1
      have hcF : ChanIs (w4.setChan pc 40 (buf.push (.agg #[.int .i64 x.1, .int .i64 x.2])) false (s1 + 1) r1 false) pc 40 (k + 1) := by
        have := chan_set w4 (Array.getElem?_eq_some_iff.1 hbuf).1 40 (buf.push (.agg #[.int .i64 x.1, .int .i64 x.2])) (s1 + 1) r1
        rw [Array.size_push, hbsz] at this
        exact this
      obtain ⟨w5, hw5⟩ : ∃ w5, w5 = w4.setChan pc 40 (buf.push (.agg #[.int .i64 x.1, .int .i64 x.2])) false (s1 + 1) r1 false := ⟨_, rfl⟩
      rw [← hw5] at kc hcF ⊢
      have hri5 : w5.heap[r]? = some (.mapIter (some mo) clock' (seen.push e.born) clock') := (kc.block r (Array.getElem?_eq_some_iff.1 hri4).1 (fun e => hrn.2.2.1 e)).trans hri4
      have hm5 := hm4.trans kc (fun _ _ e => .inr e)
      clear hw5 hbuf hbsz kc hri4 hm4 gb4 b4 c0' c1' c2'
      go_wp2_with fail
      go_roundw
      case rel => exact ⟨seen.push e.born, clock', k + 1, hm5, hri5, Nat.le_refl _, by omega, hcF⟩
      case measure =>
        rw [hri5, HRI.out]
        dsimp only
        omega
end
end Go.Proofs.Ytdknkbpgkkakhaa
