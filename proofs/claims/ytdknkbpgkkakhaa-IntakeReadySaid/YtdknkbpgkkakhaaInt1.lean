/- Layer 20: an intake in memory; New. -/
import Derived.Test.YtdknkbpgkkakhaaMap2
import Derived.Test.YtdknkbpgkkakhaaComm1
import Derived.Test.YtdknkbpgkkakhaaOff1
import Derived.Test.YtdknkbpgkkakhaaStr3
import Derived.Test.YtdknkbpgkkakhaaLat14
import Derived.Test.YtdknkbpgkkakhaaPlan3
namespace Go.Proofs.Ytdknkbpgkkakhaa
open Go.RowKit Go.Maps
open Go.ChangeMaps (setBlock)

theorem ul137 : Try.prog.underlying 137 = some (.map 143 33) := by kernel_rfl
theorem row143 : 143 < Try.prog.types.size := of_decide_eq_true (by kernel_rfl)
theorem wide143 : (match Try.prog.underlying 143 with | some (.array _ _) | some (.struct _) => true | _ => false) = true := by kernel_rfl
set_option maxRecDepth 100000 in
theorem keyed143 : Keyed Try.prog 143 := Keyed.of_law (deep_law_laid laid135 (m := 2) (by omega) row143 (by kernel_rfl) wide143)
theorem cells143 : Try.prog.cellsOf 143 = 2 := by kernel_rfl
theorem keyType143 : Try.prog.keyType 143 = true := by kernel_rfl
def wf64 (x : Int) : Prop := (Lit.int .i64 x).wf = true
theorem key143 {x : Int × Int} (h1 : wf64 x.1) (h2 : wf64 x.2) : ∃ l, keyOf Try.prog 143 (wayV x) = some l := by
  obtain ⟨m, hm⟩ : ∃ m, Try.prog.types.size = m + 1 := Nat.exists_eq_succ_of_ne_zero (by have := row143; omega)
  have hf : (wayV x).formed Try.prog 143 = true := by simp [wayV, Value.formed, Try.underlying143, cells143]
  have hk : Try.prog.keyLits (Try.prog.types.size + 1) 143 (wayV x).cells.toList = some [.int .i64 x.1, .int .i64 x.2] := by
    rw [hm]
    unfold Program.keyLits
    rw [Try.underlying143]
    simp [wayV, Value.cells, cells143, cells3, keyLits3, (show (Lit.int .i64 x.1).wf = true from h1), (show (Lit.int .i64 x.2).wf = true from h2)]
  unfold keyOf
  rw [Try.underlying143]
  simp only [keyType143, hf, hk, Bool.and_self, if_true, Option.map_some]
  exact ⟨_, rfl⟩
theorem zero33i (w : World) : (zeroValue 33).run Try.prog w = .ok (.agg #[.int .i64 0, .int .i64 0, .int .i64 0, .bool false, .slice none 0 0]) w := by kernel_rfl

/-- What an intake tells. -/
structure IntSt where
  have_ : Nat → Int
  over : Nat → Int
  held : Int × Int → Option It
  cnt : Nat
  came : List It
  first : Int
def IntSt.new : IntSt := ⟨fun _ => 0, fun _ => 0, fun _ => none, 0, [], 0⟩
/-- Where it lies. -/
structure IntMem where
  ga : Nat
  mo : Nat
  pc : Nat
  fh : Int × Int → Option Value
  cs : Array Value
  vc : Value
def HeldOk (w : World) (B : Nat) (v : Option Value) (x : Option It) : Prop := (v = none ∧ x = none) ∨ ∃ y : Iv, v = some (.agg y.cells.toArray) ∧ x = some y.it ∧ IvOk w B y
structure IntAt (w : World) (B : Nat) (A : Option Addr) (c : Nat) (rs : List Rw) (lev : Int) (m : IntMem) (s : IntSt) : Prop where
  base : B ≤ m.ga ∧ B ≤ m.mo ∧ B ≤ m.pc
  apart : m.mo ≠ m.pc
  blk : Blk w m.ga 140 m.cs
  size : m.cs.size = 18
  lat : m.cs[0]? = some (.slice A rs.length c)
  lev_ : m.cs[1]? = some (.int .i64 lev)
  hav : ∀ a : Nat, a < 6 → m.cs[2 + a]? = some (.int .i64 (s.have_ a))
  ovr : ∀ a : Nat, a < 6 → m.cs[8 + a]? = some (.int .i64 (s.over a))
  mapc : m.cs[14]? = some (.map (some m.mo))
  chac : m.cs[15]? = some (.chan (some m.pc))
  camc : m.cs[16]? = some m.vc
  firc : m.cs[17]? = some (.int .i64 s.first)
  map : MapN Try.prog 143 wayV w m.mo s.cnt m.fh
  chan : ChanIs w m.pc 40 s.cnt
  helds : ∀ x, HeldOk w B (m.fh x) (s.held x)
  came : ∃ ys : List Iv, Off elIv w B m.vc ys ∧ its ys = s.came ∧ ∀ y ∈ ys, IvOk w B y
  mat : MatAt w B A rs
  few : s.cnt ≤ 40
  camelen : s.came.length ≤ 1000000
section
variable {w w' : World} {B : Nat} {A : Option Addr} {c : Nat} {rs : List Rw} {lev : Int} {m : IntMem} {s : IntSt}
theorem HeldOk.ext {v : Option Value} {x : Option It} (h : HeldOk w B v x) (k : Ext w w') : HeldOk w' B v x := by
  rcases h with h | ⟨y, h1, h2, h3⟩
  · exact .inl h
  · exact .inr ⟨y, h1, h2, h3.ext k⟩
theorem HeldOk.keeps {T : List TypeId} {v : Option Value} {x : Option It} (h : HeldOk w B v x) (k : Keeps B T w w') (hT : 47 ∉ T) : HeldOk w' B v x := by
  rcases h with h | ⟨y, h1, h2, h3⟩
  · exact .inl h
  · exact .inr ⟨y, h1, h2, h3.keeps k hT⟩
theorem IntAt.ext (h : IntAt w B A c rs lev m s) (k : Ext w w') : IntAt w' B A c rs lev m s where
  base := h.base
  apart := h.apart
  blk := h.blk.ext k
  size := h.size
  lat := h.lat
  lev_ := h.lev_
  hav := h.hav
  ovr := h.ovr
  mapc := h.mapc
  chac := h.chac
  camc := h.camc
  firc := h.firc
  map := h.map.ext k
  chan := h.chan.ext k
  helds x := (h.helds x).ext k
  came := by
    obtain ⟨ys, h1, h2, h3⟩ := h.came
    exact ⟨ys, h1.ext k, h2, fun y hy => (h3 y hy).ext k⟩
  mat := h.mat.ext k
  few := h.few
  camelen := h.camelen
theorem IntAt.base_le (h : IntAt w B A c rs lev m s) : B ≤ w.heap.size := Nat.le_trans h.base.1 (Nat.le_of_lt h.blk.lt)

def lv6 (f : Nat → Int) (l : Int) : Int := if 0 ≤ l ∧ l < 6 then f l.toNat else 0
set_option maxRecDepth 100000 in
set_option maxHeartbeats 2000000 in
/-- of: a level's number of some, in an array of six. -/
theorem intOf_any {w : World} {g o : Nat} {cs : Array Value} (hb : Blk w g 140 cs) {f : Nat → Int} (hf : ∀ a : Nat, a < 6 → cs[o + a]? = some (.int .i64 (f a))) (l : Int) :
    Calls Try.prog 105 #[.pointer (some ⟨g, o, none⟩), .int .i64 l] w fun e w' => e = .returned (.int .i64 (lv6 f l)) ∧ w = w' := by
  unfold lv6
  by_cases h : 0 ≤ l ∧ l < 6
  · rw [if_pos h]
    obtain ⟨h0, h1⟩ := h
    obtain ⟨a, rfl⟩ := Int.eq_ofNat_of_zero_le h0
    have p := hb.cell (o + a)
    rw [hf a (by omega)] at p
    rw [show ((a : Int)).toNat = a from rfl]
    clear hf hb
    go_enter Try.func105, Try.ntmps105
    go_wp2
    go_ret
    exact ⟨rfl, rfl⟩
  · rw [if_neg h]
    clear hf hb
    by_cases h0 : l < 0
    · clear h
      go_enter Try.func105, Try.ntmps105
      go_wp2
      go_ret
      exact ⟨rfl, rfl⟩
    · have h6 : 6 ≤ l := by omega
      clear h
      go_enter Try.func105, Try.ntmps105
      go_wp2
      go_ret
      exact ⟨rfl, rfl⟩

set_option maxRecDepth 100000 in
set_option maxHeartbeats 2000000 in
theorem intHave_any (h : IntAt w B A c rs lev m s) (l : Int) :
    Calls Try.prog 79 #[.pointer (some ⟨m.ga, 0, none⟩), .int .i64 l] w fun e w' => e = .returned (.int .i64 (lv6 s.have_ l)) ∧ w = w' := by
  go_enter Try.func79, Try.ntmps79
  go_wp2_with fail
  refine (intOf_any h.blk (o := 2) h.hav l).mono ?_
  rintro e w1 ⟨rfl, rfl⟩
  go_wp2
  go_ret
  exact ⟨rfl, rfl⟩
set_option maxRecDepth 100000 in
set_option maxHeartbeats 2000000 in
theorem intOver_any (h : IntAt w B A c rs lev m s) (l : Int) :
    Calls Try.prog 80 #[.pointer (some ⟨m.ga, 0, none⟩), .int .i64 l] w fun e w' => e = .returned (.int .i64 (lv6 s.over l)) ∧ w = w' := by
  go_enter Try.func80, Try.ntmps80
  go_wp2_with fail
  refine (intOf_any h.blk (o := 8) h.ovr l).mono ?_
  rintro e w1 ⟨rfl, rfl⟩
  go_wp2
  go_ret
  exact ⟨rfl, rfl⟩
set_option maxRecDepth 100000 in
set_option maxHeartbeats 2000000 in
theorem intHeld_any (h : IntAt w B A c rs lev m s) :
    Calls Try.prog 82 #[.pointer (some ⟨m.ga, 0, none⟩)] w fun e w' => e = .returned (.int .i64 (s.cnt : Int)) ∧ w = w' := by
  have p := h.blk.cell 14
  rw [h.mapc] at p
  have hrun := fun ty => h.map.len (ty := ty) ul137
  clear h
  go_enter Try.func82, Try.ntmps82
  go_wp2
  go_ret
  exact ⟨rfl, rfl⟩

/-- New. -/
def int18 (A : Option Addr) (n c : Nat) (lev : Int) (mo pc : Nat) : Array Value := #[.slice A n c, .int .i64 lev, .int .i64 0, .int .i64 0, .int .i64 0, .int .i64 0, .int .i64 0, .int .i64 0, .int .i64 0, .int .i64 0, .int .i64 0, .int .i64 0, .int .i64 0, .int .i64 0, .map (some mo), .chan (some pc), .slice none 0 0, .int .i64 0]
def IntMem.new (A : Option Addr) (n c : Nat) (lev : Int) (ga mo pc : Nat) : IntMem := ⟨ga, mo, pc, fun _ => none, int18 A n c lev mo pc, .slice none 0 0⟩
theorem IntAt.new {ga mo pc : Nat} (hb : B ≤ ga ∧ B ≤ mo ∧ B ≤ pc) (hne : mo ≠ pc) (h1 : Blk w ga 140 (int18 A rs.length c lev mo pc)) (h2 : MapN Try.prog 143 wayV w mo 0 fun _ => none) (h3 : ChanIs w pc 40 0) (hM : MatAt w B A rs) :
    IntAt w B A c rs lev (IntMem.new A rs.length c lev ga mo pc) IntSt.new where
  base := hb
  apart := hne
  blk := h1
  size := rfl
  lat := rfl
  lev_ := rfl
  hav a ha := by
    obtain rfl | rfl | rfl | rfl | rfl | rfl : a = 0 ∨ a = 1 ∨ a = 2 ∨ a = 3 ∨ a = 4 ∨ a = 5 := by omega
    all_goals rfl
  ovr a ha := by
    obtain rfl | rfl | rfl | rfl | rfl | rfl : a = 0 ∨ a = 1 ∨ a = 2 ∨ a = 3 ∨ a = 4 ∨ a = 5 := by omega
    all_goals rfl
  mapc := rfl
  chac := rfl
  camc := rfl
  firc := rfl
  map := h2
  chan := h3
  helds _ := .inl ⟨rfl, rfl⟩
  came := ⟨[], Off.nil _ _, rfl, by simp⟩
  mat := hM
  few := Nat.zero_le _
  camelen := Nat.zero_le _
theorem run_chan40 (w : World) : (Instr.makeChan 138 (.int .i64 40)).run Try.prog w = .ok (.chan (some w.heap.size)) (w.alloc (.chan 40 #[] false 0 0 false)) := by kernel_rfl
set_option maxRecDepth 100000 in
set_option maxHeartbeats 4000000 in
theorem intNew_any (A : Option Addr) (c : Nat) (rs : List Rw) (lev : Int) (w : World) (hM : MatAt w w.heap.size A rs) :
    Calls Try.prog 74 #[.agg #[.slice A rs.length c], .int .i64 lev] w fun e w' => ∃ m, e = .returned (.pointer (some ⟨m.ga, 0, none⟩)) ∧ IntAt w' w.heap.size A c rs lev m IntSt.new ∧ Ext w w' := by
  go_enter Try.func74, Try.ntmps74
  go_upto_region 1 with fail
  obtain ⟨W, hW⟩ : ∃ W, W = w.alloc (.cells #[.slice A rs.length c] 53) := ⟨_, rfl⟩
  have HW : Hid (Ext w W) := by rw [hW]; exact ext_alloc _ _
  have q0 : W.cell? ⟨w.heap.size, 0, none⟩ = some (.slice A rs.length c) := by rw [hW]; exact (Blk.new w 53 _).cell 0
  rw [← hW]
  clear hW
  have d0 := fun x (hx : Ext W x) => ext_cell hx q0
  have hmm := @Go.RowKit.run_makeMap Try.prog
  have hmc := run_chan40
  refine wp_region_planH3 (.reads 0 (.reads 1 (.fork 2 (.makes 3 (.reads 4 (.makes 5 (.reads 6 (.done))))) 3 (.makes 2 (.reads 4 (.makes 5 (.reads 6 (.done)))))))) (by kernel_rfl) (by kernel_rfl) (fun x' => Ext W x') (ext_drewN W 1) (fun ops HOPS => ?_)
  (refine segH_load _ _ _ _ _ _ _ _ _ (hid_get HOPS 0 _ rfl) wanted_none rfl (fun _ _ _ _ h => h) (fun y hy => by go_simp; try with_reducible rfl) ?_; simp only [Act.put, List.setIfInBounds_toArray, List.set_cons_zero, List.set_cons_succ])
  (refine segH_pure _ _ _ _ _ _ (hid_get HOPS 1 _ rfl) rfl wanted_none (fun _ _ _ _ h => h) ?_; intro K hK; go_big_quiet_op; go_big_quiet_on)
  refine segH_fork _ _ _ _ _ _ _ _ _ _ _ _ (hid_get HOPS 2 _ rfl) (hid_get HOPS 3 _ rfl) wanted_none wanted_none (fun K hK => ?_) (fun K hK => ?_)
  · go_big_op
    have P1 : Ext W (W.alloc (.map #[] 0)).drew := ext_trans (ext_alloc _ _) (ext_drewN _ 1)
    refine hK _ _ (fun x' => Ext W x') P1 (fun _ h => h) ?_
    clear hK
    refine segH_makes _ _ _ _ _ _ (hid_get HOPS 3 _ rfl) wanted_none (fun K hK => ?_)
    go_big_op
    have P2 : Ext W ((W.alloc (.map #[] 0)).alloc (.chan 40 #[] false 0 0 false)).drew := ext_trans (ext_trans (ext_alloc _ _) (ext_alloc _ _)) (ext_drewN _ 1)
    refine hK _ _ (fun x' => Ext W x') P2 (fun _ h => h) ?_
    clear hK
    (refine segH_pure _ _ _ _ _ _ (hid_get HOPS 4 _ rfl) rfl wanted_none (fun _ _ _ _ h => h) ?_; intro K hK; go_big_quiet_op; go_big_quiet_on)
    refine segH_makes _ _ _ _ _ _ (hid_get HOPS 5 _ rfl) wanted_none (fun K hK => ?_)
    go_big_op
    have P3 : Ext W (((W.alloc (.map #[] 0)).alloc (.chan 40 #[] false 0 0 false)).alloc (.cells (int18 A rs.length c lev W.heap.size (W.heap.size + 1)) 140)) := ext_trans (ext_trans (ext_alloc _ _) (ext_alloc _ _)) (ext_alloc _ _)
    have hs : ((W.alloc (.map #[] 0)).alloc (.chan 40 #[] false 0 0 false)).heap.size = W.heap.size + 2 := by simp
    have HF : Hid (∃ m : IntMem, m.ga = W.heap.size + 2 ∧ IntAt (((W.alloc (.map #[] 0)).alloc (.chan 40 #[] false 0 0 false)).alloc (.cells (int18 A rs.length c lev W.heap.size (W.heap.size + 1)) 140)).drew w.heap.size A c rs lev m IntSt.new ∧ Ext w (((W.alloc (.map #[] 0)).alloc (.chan 40 #[] false 0 0 false)).alloc (.cells (int18 A rs.length c lev W.heap.size (W.heap.size + 1)) 140)).drew) := by
      have hsz := HW.out.size
      have hbk := Blk.new ((W.alloc (.map #[] 0)).alloc (.chan 40 #[] false 0 0 false)) 140 (int18 A rs.length c lev W.heap.size (W.heap.size + 1))
      rw [hs] at hbk
      have hm : MapN Try.prog 143 wayV (((W.alloc (.map #[] 0)).alloc (.chan 40 #[] false 0 0 false)).alloc (.cells (int18 A rs.length c lev W.heap.size (W.heap.size + 1)) 140)) W.heap.size 0 (fun _ => none) := ((MapN.new (P := Try.prog) (k := 143) (kv := wayV) W).ext (ext_alloc _ _)).ext (ext_alloc _ _)
      have hc : ChanIs (((W.alloc (.map #[] 0)).alloc (.chan 40 #[] false 0 0 false)).alloc (.cells (int18 A rs.length c lev W.heap.size (W.heap.size + 1)) 140)) (W.heap.size + 1) 40 0 := (by have := (ChanIs.new (W.alloc (.map #[] 0)) 40).ext (ext_alloc _ (.cells (int18 A rs.length c lev W.heap.size (W.heap.size + 1)) 140)); simpa using this)
      exact ⟨IntMem.new A rs.length c lev (W.heap.size + 2) W.heap.size (W.heap.size + 1), rfl, (IntAt.new ⟨by omega, by omega, by omega⟩ (by omega) hbk hm hc (hM.ext (ext_trans HW.out P3))).ext (ext_drewN _ 1), ext_trans (ext_trans HW.out P3) (ext_drewN _ 1)⟩
    refine hK _ _ (fun x' => Ext W x') (ext_trans P3 (ext_drewN _ 1)) (fun _ h => h) ?_
    clear hK
    (refine segH_pure _ _ _ _ _ _ (hid_get HOPS 6 _ rfl) rfl wanted_none (fun _ _ _ _ h => h) ?_; intro K hK; go_big_quiet_op; go_big_quiet_on)
    refine seg_done ?_
    clear HOPS
    go_wp2
    go_ret
    obtain ⟨m, hm, h⟩ := HF.out
    exact ⟨m, by rw [hm]; rfl, h⟩
  · go_big_op
    have P1 : Ext W (W.alloc (.chan 40 #[] false 0 0 false)).drew := ext_trans (ext_alloc _ _) (ext_drewN _ 1)
    refine hK _ _ (fun x' => Ext W x') P1 (fun _ h => h) ?_
    clear hK
    refine segH_makes _ _ _ _ _ _ (hid_get HOPS 2 _ rfl) wanted_none (fun K hK => ?_)
    go_big_op
    have P2 : Ext W ((W.alloc (.chan 40 #[] false 0 0 false)).alloc (.map #[] 0)).drew := ext_trans (ext_trans (ext_alloc _ _) (ext_alloc _ _)) (ext_drewN _ 1)
    refine hK _ _ (fun x' => Ext W x') P2 (fun _ h => h) ?_
    clear hK
    (refine segH_pure _ _ _ _ _ _ (hid_get HOPS 4 _ rfl) rfl wanted_none (fun _ _ _ _ h => h) ?_; intro K hK; go_big_quiet_op; go_big_quiet_on)
    refine segH_makes _ _ _ _ _ _ (hid_get HOPS 5 _ rfl) wanted_none (fun K hK => ?_)
    go_big_op
    have P3 : Ext W (((W.alloc (.chan 40 #[] false 0 0 false)).alloc (.map #[] 0)).alloc (.cells (int18 A rs.length c lev (W.heap.size + 1) W.heap.size) 140)) := ext_trans (ext_trans (ext_alloc _ _) (ext_alloc _ _)) (ext_alloc _ _)
    have hs : ((W.alloc (.chan 40 #[] false 0 0 false)).alloc (.map #[] 0)).heap.size = W.heap.size + 2 := by simp
    have HF : Hid (∃ m : IntMem, m.ga = W.heap.size + 2 ∧ IntAt (((W.alloc (.chan 40 #[] false 0 0 false)).alloc (.map #[] 0)).alloc (.cells (int18 A rs.length c lev (W.heap.size + 1) W.heap.size) 140)).drew w.heap.size A c rs lev m IntSt.new ∧ Ext w (((W.alloc (.chan 40 #[] false 0 0 false)).alloc (.map #[] 0)).alloc (.cells (int18 A rs.length c lev (W.heap.size + 1) W.heap.size) 140)).drew) := by
      have hsz := HW.out.size
      have hbk := Blk.new ((W.alloc (.chan 40 #[] false 0 0 false)).alloc (.map #[] 0)) 140 (int18 A rs.length c lev (W.heap.size + 1) W.heap.size)
      rw [hs] at hbk
      have hm : MapN Try.prog 143 wayV (((W.alloc (.chan 40 #[] false 0 0 false)).alloc (.map #[] 0)).alloc (.cells (int18 A rs.length c lev (W.heap.size + 1) W.heap.size) 140)) (W.heap.size + 1) 0 (fun _ => none) := (by have := (MapN.new (P := Try.prog) (k := 143) (kv := wayV) (W.alloc (.chan 40 #[] false 0 0 false))).ext (ext_alloc _ (.cells (int18 A rs.length c lev (W.heap.size + 1) W.heap.size) 140)); simpa using this)
      have hc : ChanIs (((W.alloc (.chan 40 #[] false 0 0 false)).alloc (.map #[] 0)).alloc (.cells (int18 A rs.length c lev (W.heap.size + 1) W.heap.size) 140)) W.heap.size 40 0 := ((ChanIs.new W 40).ext (ext_alloc _ _)).ext (ext_alloc _ _)
      exact ⟨IntMem.new A rs.length c lev (W.heap.size + 2) (W.heap.size + 1) W.heap.size, rfl, (IntAt.new ⟨by omega, by omega, by omega⟩ (by omega) hbk hm hc (hM.ext (ext_trans HW.out P3))).ext (ext_drewN _ 1), ext_trans (ext_trans HW.out P3) (ext_drewN _ 1)⟩
    refine hK _ _ (fun x' => Ext W x') (ext_trans P3 (ext_drewN _ 1)) (fun _ h => h) ?_
    clear hK
    (refine segH_pure _ _ _ _ _ _ (hid_get HOPS 6 _ rfl) rfl wanted_none (fun _ _ _ _ h => h) ?_; intro K hK; go_big_quiet_op; go_big_quiet_on)
    refine seg_done ?_
    clear HOPS
    go_wp2
    go_ret
    obtain ⟨m, hm, h⟩ := HF.out
    exact ⟨m, by rw [hm]; rfl, h⟩
end
end Go.Proofs.Ytdknkbpgkkakhaa
