/- Layer 20: an intake in memory; New. -/
import Derived.Test.YtdknkbpgkkakhaaMap2
import Derived.Test.YtdknkbpgkkakhaaComm1
import Derived.Test.YtdknkbpgkkakhaaOff1
import Derived.Test.YtdknkbpgkkakhaaStr3
import Derived.Test.YtdknkbpgkkakhaaLat14
import Derived.Test.YtdknkbpgkkakhaaPlan3
namespace Go.Proofs.Ytdknkbpgkkakhaa
open Go.RowKit Go.Maps
open Go.ChangeMaps (setBlock)

theorem ul137 : Try.prog.underlying 137 = some (.map 143 33) := by kernel_rfl
theorem row143 : 143 < Try.prog.types.size := of_decide_eq_true (by kernel_rfl)
theorem wide143 : (match Try.prog.underlying 143 with | some (.array _ _) | some (.struct _) => true | _ => false) = true := by kernel_rfl
set_option maxRecDepth 100000 in
theorem keyed143 : Keyed Try.prog 143 := Keyed.of_law (deep_law_laid laid135 (m := 2) (by omega) row143 (by kernel_rfl) wide143)
theorem cells143 : Try.prog.cellsOf 143 = 2 := by kernel_rfl
theorem keyType143 : Try.prog.keyType 143 = true := by kernel_rfl
def wf64 (x : Int) : Prop := (Lit.int .i64 x).wf = true
theorem key143 {x : Int × Int} (h1 : wf64 x.1) (h2 : wf64 x.2) : ∃ l, keyOf Try.prog 143 (wayV x) = some l := by
  obtain ⟨m, hm⟩ : ∃ m, Try.prog.types.size = m + 1 := Nat.exists_eq_succ_of_ne_zero (by have := row143; omega)
  have hf : (wayV x).formed Try.prog 143 = true := by simp [wayV, Value.formed, Try.underlying143, cells143]
  have hk : Try.prog.keyLits (Try.prog.types.size + 1) 143 (wayV x).cells.toList = some [.int .i64 x.1, .int .i64 x.2] := by
    rw [hm]
    unfold Program.keyLits
    rw [Try.underlying143]
    simp [wayV, Value.cells, cells143, cells3, keyLits3, (show (Lit.int .i64 x.1).wf = true from h1), (show (Lit.int .i64 x.2).wf = true from h2)]
  unfold keyOf
  rw [Try.underlying143]
  simp only [keyType143, hf, hk, Bool.and_self, if_true, Option.map_some]
  exact ⟨_, rfl⟩
theorem zero33i (w : World) : (zeroValue 33).run Try.prog w = .ok (.agg #[.int .i64 0, .int .i64 0, .int .i64 0, .bool false, .slice none 0 0]) w := by kernel_rfl

/-- What an intake tells. -/
structure IntSt where
  have_ : Nat → Int
  over : Nat → Int
  held : Int × Int → Option It
  cnt : Nat
  came : List It
  first : Int
def IntSt.new : IntSt := ⟨fun _ => 0, fun _ => 0, fun _ => none, 0, [], 0⟩
/-- Where it lies. -/
structure IntMem where
  ga : Nat
  mo : Nat
  pc : Nat
  fh : Int × Int → Option Value
  cs : Array Value
  vc : Value
def HeldOk (w : World) (B : Nat) (v : Option Value) (x : Option It) : Prop := (v = none ∧ x = none) ∨ ∃ y : Iv, v = some (.agg y.cells.toArray) ∧ x = some y.it ∧ IvOk w B y
structure IntAt (w : World) (B : Nat) (A : Option Addr) (c : Nat) (rs : List Rw) (lev : Int) (m : IntMem) (s : IntSt) : Prop where
  base : B ≤ m.ga ∧ B ≤ m.mo ∧ B ≤ m.pc
  apart : m.mo ≠ m.pc
  blk : Blk w m.ga 140 m.cs
  size : m.cs.size = 18
  lat : m.cs[0]? = some (.slice A rs.length c)
  lev_ : m.cs[1]? = some (.int .i64 lev)
  hav : ∀ a : Nat, a < 6 → m.cs[2 + a]? = some (.int .i64 (s.have_ a))
  ovr : ∀ a : Nat, a < 6 → m.cs[8 + a]? = some (.int .i64 (s.over a))
  mapc : m.cs[14]? = some (.map (some m.mo))
  chac : m.cs[15]? = some (.chan (some m.pc))
  camc : m.cs[16]? = some m.vc
  firc : m.cs[17]? = some (.int .i64 s.first)
  map : MapN Try.prog 143 wayV w m.mo s.cnt m.fh
  chan : ChanIs w m.pc 40 s.cnt
  helds : ∀ x, HeldOk w B (m.fh x) (s.held x)
  came : ∃ ys : List Iv, Off elIv w B m.vc ys ∧ its ys = s.came ∧ ∀ y ∈ ys, IvOk w B y
  mat : MatAt w B A rs
  few : s.cnt ≤ 40
  camelen : s.came.length ≤ 1000000
section
variable {w w' : World} {B : Nat} {A : Option Addr} {c : Nat} {rs : List Rw} {lev : Int} {m : IntMem} {s : IntSt}
theorem HeldOk.ext {v : Option Value} {x : Option It} (h : HeldOk w B v x) (k : Ext w w') : HeldOk w' B v x := by
  rcases h with h | ⟨y, h1, h2, h3⟩
  · exact .inl h
  · exact .inr ⟨y, h1, h2, h3.ext k⟩
theorem HeldOk.keeps {T : List TypeId} {v : Option Value} {x : Option It} (h : HeldOk w B v x) (k : Keeps B T w w') (hT : 47 ∉ T) : HeldOk w' B v x := by
  rcases h with h | ⟨y, h1, h2, h3⟩
  · exact .inl h
  · exact .inr ⟨y, h1, h2, h3.keeps k hT⟩
theorem IntAt.ext (h : IntAt w B A c rs lev m s) (k : Ext w w') : IntAt w' B A c rs lev m s where
  base := h.base
  apart := h.apart
  blk := h.blk.ext k
  size := h.size
  lat := h.lat
  lev_ := h.lev_
  hav := h.hav
  ovr := h.ovr
  mapc := h.mapc
  chac := h.chac
  camc := h.camc
  firc := h.firc
  map := h.map.ext k
  chan := h.chan.ext k
  helds x := (h.helds x).ext k
  came := by
    obtain ⟨ys, h1, h2, h3⟩ := h.came
    exact ⟨ys, h1.ext k, h2, fun y hy => (h3 y hy).ext k⟩
  mat := h.mat.ext k
  few := h.few
  camelen := h.camelen
theorem IntAt.base_le (h : IntAt w B A c rs lev m s) : B ≤ w.heap.size := Nat.le_trans h.base.1 (Nat.le_of_lt h.blk.lt)

def lv6 (f : Nat → Int) (l : Int) : Int := if 0 ≤ l ∧ l < 6 then f l.toNat else 0
set_option maxRecDepth 100000 in
set_option maxHeartbeats 2000000 in
/-- of: a level's number of some, in an array of six. -/
theorem intOf_any {w : World} {g o : Nat} {cs : Array Value} (hb : Blk w g 140 cs) {f : Nat → Int} (hf : ∀ a : Nat, a < 6 → cs[o + a]? = some (.int .i64 (f a))) (l : Int) :
    Calls Try.prog 105 #[.pointer (some ⟨g, o, none⟩), .int .i64 l] w fun e w' => e = .returned (.int .i64 (lv6 f l)) ∧ w = w' := by
  unfold lv6
  by_cases h : 0 ≤ l ∧ l < 6
  · rw [if_pos h]
    obtain ⟨h0, h1⟩ := h
    obtain ⟨a, rfl⟩ := Int.eq_ofNat_of_zero_le h0
    have p := hb.cell (o + a)
    rw [hf a (by omega)] at p
    rw [show ((a : Int)).toNat = a from rfl]
    clear hf hb
    go_enter Try.func105, Try.ntmps105
    go_wp2
    go_ret
    exact ⟨rfl, rfl⟩
  · rw [if_neg h]
    clear hf hb
    by_cases h0 : l < 0
    · clear h
      go_enter Try.func105, Try.ntmps105
      go_wp2
      go_ret
      exact ⟨rfl, rfl⟩
    · have h6 : 6 ≤ l := by omega
      clear h
      go_enter Try.func105, Try.ntmps105
      go_wp2
      go_ret
      exact ⟨rfl, rfl⟩

set_option maxRecDepth 100000 in
set_option maxHeartbeats 2000000 in
theorem intHave_any (h : IntAt w B A c rs lev m s) (l : Int) :
    Calls Try.prog 79 #[.pointer (some ⟨m.ga, 0, none⟩), .int .i64 l] w fun e w' => e = .returned (.int .i64 (lv6 s.have_ l)) ∧ w = w' := by
  go_enter Try.func79, Try.ntmps79
  go_wp2_with fail
  refine (intOf_any h.blk (o := 2) h.hav l).mono ?_
  rintro e w1 ⟨rfl, rfl⟩
  go_wp2
  go_ret
  exact ⟨rfl, rfl⟩
set_option maxRecDepth 100000 in
set_option maxHeartbeats 2000000 in
theorem intOver_any (h : IntAt w B A c rs lev m s) (l : Int) :
    Calls Try.prog 80 #[.pointer (some ⟨m.ga, 0, none⟩), .int .i64 l] w fun e w' => e = .returned (.int .i64 (lv6 s.over l)) ∧ w = w' := by
  go_enter Try.func80, Try.ntmps80
  go_wp2_with fail
  refine (intOf_any h.blk (o := 8) h.ovr l).mono ?_
  rintro e w1 ⟨rfl, rfl⟩
  go_wp2
  go_ret
  exact ⟨rfl, rfl⟩
set_option maxRecDepth 100000 in
set_option maxHeartbeats 2000000 in
theorem intHeld_any (h : IntAt w B A c rs lev m s) :
    Calls Try.prog 82 #[.pointer (some ⟨m.ga, 0, none⟩)] w fun e w' => e = .returned (.int .i64 (s.cnt : Int)) ∧ w = w' := by
  have p := h.blk.cell 14
  rw [h.mapc] at p
  have hrun := fun ty => h.map.len (ty := ty) ul137
  clear h
  go_enter Try.func82, Try.ntmps82
  go_wp2
  go_ret
  exact ⟨rfl, rfl⟩

/-- New. -/
def int18 (A : Option Addr) (n c : Nat) (lev : Int) (mo pc : Nat) : Array Value := #[.slice A n c, .int .i64 lev, .int .i64 0, .int .i64 0, .int .i64 0, .int .i64 0, .int .i64 0, .int .i64 0, .int .i64 0, .int .i64 0, .int .i64 0, .int .i64 0, .int .i64 0, .int .i64 0, .map (some mo), .chan (some pc), .slice none 0 0, .int .i64 0]
def IntMem.new (A : Option Addr) (n c : Nat) (lev : Int) (ga mo pc : Nat) : IntMem := ⟨ga, mo, pc, fun _ => none, int18 A n c lev mo pc, .slice none 0 0⟩
theorem IntAt.new {ga mo pc : Nat} (hb : B ≤ ga ∧ B ≤ mo ∧ B ≤ pc) (hne : mo ≠ pc) (h1 : Blk w ga 140 (int18 A rs.length c lev mo pc)) (h2 : MapN Try.prog 143 wayV w mo 0 fun _ => none) (h3 : ChanIs w pc 40 0) (hM : MatAt w B A rs) :
    IntAt w B A c rs lev (IntMem.new A rs.length c lev ga mo pc) IntSt.new where
  base := hb
  apart := hne
  blk := h1
  size := rfl
  lat := rfl
  lev_ := rfl
  hav a ha := by
    obtain rfl | rfl | rfl | rfl | rfl | rfl : a = 0 ∨ a = 1 ∨ a = 2 ∨ a = 3 ∨ a = 4 ∨ a = 5 := by omega
    all_goals rfl
  ovr a ha := by
    obtain rfl | rfl | rfl | rfl | rfl | rfl : a = 0 ∨ a = 1 ∨ a = 2 ∨ a = 3 ∨ a = 4 ∨ a = 5 := by omega
    all_goals rfl
  mapc := rfl
  chac := rfl
  camc := rfl
  firc := rfl
  map := h2
  chan := h3
  helds _ := .inl ⟨rfl, rfl⟩
  came := ⟨[], Off.nil _ _, rfl, by simp⟩
  mat := hM
  few := Nat.zero_le _
  camelen := Nat.zero_le _
theorem run_chan40 (w : World) : (Instr.makeChan 138 (.int .i64 40)).run Try.prog w = .ok (.chan (some w.heap.size)) (w.alloc (.chan 40 #[] false 0 0 false)) := by kernel_rfl
set_option maxRecDepth 100000 in
set_option maxHeartbeats 4000000 in
theorem intNew_any (A : Option Addr) (c : Nat) (rs : List Rw) (lev : Int) (w : World) (hM : MatAt w w.heap.size A rs) :
    Calls Try.prog 74 #[.agg #[.slice A rs.length c], .int .i64 lev] w fun e w' => ∃ m, e = .returned (.pointer (some ⟨m.ga, 0, none⟩)) ∧ IntAt w' w.heap.size A c rs lev m IntSt.new ∧ Ext w w' := by
  go_enter Try.func74, Try.ntmps74
  go_upto_region 1 with fail
  obtain ⟨W, hW⟩ : ∃ W, W = w.alloc (.cells #[.slice A rs.length c] 53) := ⟨_, rfl⟩
  have HW : Hid (Ext w W) := by rw [hW]; exact ext_alloc _ _
  have q0 : W.cell? ⟨w.heap.size, 0, none⟩ = some (.slice A rs.length c) := by rw [hW]; exact (Blk.new w 53 _).cell 0
  rw [← hW]
  clear hW
  have d0 := fun x (hx : Ext W x) => ext_cell hx q0
  have hmm := @Go.RowKit.run_makeMap Try.prog
  have hmc := run_chan40
  refine wp_region_planH3 (.reads 0 (.reads 1 (.fork 2 (.makes 3 (.reads 4 (.makes 5 (.reads 6 (.done))))) 3 (.makes 2 (.reads 4 (.makes 5 (.reads 6 (.done)))))))) (by kernel_rfl) (by kernel_rfl) (fun x' => Ext W x') (ext_drewN W 1) (fun ops HOPS => ?_)
  (refine segH_load _ _ _ _ _ _ _ _ _ (hid_get HOPS 0 _ rfl) wanted_none rfl (fun _ _ _ _ h => h) (fun y hy => by go_simp; try with_reducible rfl) ?_; simp only [Act.put, List.setIfInBounds_toArray, List.set_cons_zero, List.set_cons_succ])
  (refine segH_pure _ _ _ _ _ _ (hid_get HOPS 1 _ rfl) rfl wanted_none (fun _ _ _ _ h => h) ?_; intro K hK; go_big_quiet_op; go_big_quiet_on)
  refine segH_fork _ _ _ _ _ _ _ _ _ _ _ _ (hid_get HOPS 2 _ rfl) (hid_get HOPS 3 _ rfl) wanted_none wanted_none (fun K hK => ?_) (fun K hK => ?_)
  · go_big_op
    have P1 : Ext W (W.alloc (.map #[] 0)).drew := ext_trans (ext_alloc _ _) (ext_drewN _ 1)
    refine hK _ _ (fun x' => Ext W x') P1 (fun _ h => h) ?_
    clear hK
    refine segH_makes _ _ _ _ _ _ (hid_get HOPS 3 _ rfl) wanted_none (fun K hK => ?_)
    go_big_op
    have P2 : Ext W ((W.alloc (.map #[] 0)).alloc (.chan 40 #[] false 0 0 false)).drew := ext_trans (ext_trans (ext_alloc _ _) (ext_alloc _ _)) (ext_drewN _ 1)
    refine hK _ _ (fun x' => Ext W x') P2 (fun _ h => h) ?_
    clear hK
    (refine segH_pure _ _ _ _ _ _ (hid_get HOPS 4 _ rfl) rfl wanted_none (fun _ _ _ _ h => h) ?_; intro K hK; go_big_quiet_op; go_big_quiet_on)
    refine segH_makes _ _ _ _ _ _ (hid_get HOPS 5 _ rfl) wanted_none (fun K hK => ?_)
    go_big_op
    have P3 : Ext W (((W.alloc (.map #[] 0)).alloc (.chan 40 #[] false 0 0 false)).alloc (.cells (int18 A rs.length c lev W.heap.size (W.heap.size + 1)) 140)) := ext_trans (ext_trans (ext_alloc _ _) (ext_alloc _ _)) (ext_alloc _ _)
    have hs : ((W.alloc (.map #[] 0)).alloc (.chan 40 #[] false 0 0 false)).heap.size = W.heap.size + 2 := by simp
    have HF : Hid (∃ m : IntMem, m.ga = W.heap.size + 2 ∧ IntAt (((W.alloc (.map #[] 0)).alloc (.chan 40 #[] false 0 0 false)).alloc (.cells (int18 A rs.length c lev W.heap.size (W.heap.size + 1)) 140)).drew w.heap.size A c rs lev m IntSt.new ∧ Ext w (((W.alloc (.map #[] 0)).alloc (.chan 40 #[] false 0 0 false)).alloc (.cells (int18 A rs.length c lev W.heap.size (W.heap.size + 1)) 140)).drew) := by
      have hsz := HW.out.size
      have hbk := Blk.new ((W.alloc (.map #[] 0)).alloc (.chan 40 #[] false 0 0 false)) 140 (int18 A rs.length c lev W.heap.size (W.heap.size + 1))
      rw [hs] at hbk
      have hm : MapN Try.prog 143 wayV (((W.alloc (.map #[] 0)).alloc (.chan 40 #[] false 0 0 false)).alloc (.cells (int18 A rs.length c lev W.heap.size (W.heap.size + 1)) 140)) W.heap.size 0 (fun _ => none) := ((MapN.new (P := Try.prog) (k := 143) (kv := wayV) W).ext (ext_alloc _ _)).ext (ext_alloc _ _)
      have hc : ChanIs (((W.alloc (.map #[] 0)).alloc (.chan 40 #[] false 0 0 false)).alloc (.cells (int18 A rs.length c lev W.heap.size (W.heap.size + 1)) 140)) (W.heap.size + 1) 40 0 := (by have := (ChanIs.new (W.alloc (.map #[] 0)) 40).ext (ext_alloc _ (.cells (int18 A rs.length c lev W.heap.size (W.heap.size + 1)) 140)); simpa using this)
      exact ⟨IntMem.new A rs.length c lev (W.heap.size + 2) W.heap.size (W.heap.size + 1), rfl, (IntAt.new ⟨by omega, by omega, by omega⟩ (by omega) hbk hm hc (hM.ext (ext_trans HW.out P3))).ext (ext_drewN _ 1), ext_trans (ext_trans HW.out P3) (ext_drewN _ 1)⟩
    refine hK _ _ (fun x' => Ext W x') (ext_trans P3 (ext_drewN _ 1)) (fun _ h => h) ?_
    clear hK
    (refine segH_pure _ _ _ _ _ _ (hid_get HOPS 6 _ rfl) rfl wanted_none (fun _ _ _ _ h => h) ?_; intro K hK; go_big_quiet_op; go_big_quiet_on)
    refine seg_done ?_
    clear HOPS
    go_wp2
    go_ret
    obtain ⟨m, hm, h⟩ := HF.out
    exact ⟨m, by rw [hm]; rfl, h⟩
  · go_big_op
    have P1 : Ext W (W.alloc (.chan 40 #[] false 0 0 false)).drew := ext_trans (ext_alloc _ _) (ext_drewN _ 1)
    refine hK _ _ (fun x' => Ext W x') P1 (fun _ h => h) ?_
    clear hK
    refine segH_makes _ _ _ _ _ _ (hid_get HOPS 2 _ rfl) wanted_none (fun K hK => ?_)
    go_big_op
    have P2 : Ext W ((W.alloc (.chan 40 #[] false 0 0 false)).alloc (.map #[] 0)).drew := ext_trans (ext_trans (ext_alloc _ _) (ext_alloc _ _)) (ext_drewN _ 1)
    refine hK _ _ (fun x' => Ext W x') P2 (fun _ h => h) ?_
    clear hK
    (refine segH_pure _ _ _ _ _ _ (hid_get HOPS 4 _ rfl) rfl wanted_none (fun _ _ _ _ h => h) ?_; intro K hK; go_big_quiet_op; go_big_quiet_on)
    refine segH_makes _ _ _ _ _ _ (hid_get HOPS 5 _ rfl) wanted_none (fun K hK => ?_)
    go_big_op
    have P3 : Ext W (((W.alloc (.chan 40 #[] false 0 0 false)).alloc (.map #[] 0)).alloc (.cells (int18 A rs.length c lev (W.heap.size + 1) W.heap.size) 140)) := ext_trans (ext_trans (ext_alloc _ _) (ext_alloc _ _)) (ext_alloc _ _)
    have hs : ((W.alloc (.chan 40 #[] false 0 0 false)).alloc (.map #[] 0)).heap.size = W.heap.size + 2 := by simp
    have HF : Hid (∃ m : IntMem, m.ga = W.heap.size + 2 ∧ IntAt (((W.alloc (.chan 40 #[] false 0 0 false)).alloc (.map #[] 0)).alloc (.cells (int18 A rs.length c lev (W.heap.size + 1) W.heap.size) 140)).drew w.heap.size A c rs lev m IntSt.new ∧ Ext w (((W.alloc (.chan 40 #[] false 0 0 false)).alloc (.map #[] 0)).alloc (.cells (int18 A rs.length c lev (W.heap.size + 1) W.heap.size) 140)).drew) := by
      have hsz := HW.out.size
      have hbk := Blk.new ((W.alloc (.chan 40 #[] false 0 0 false)).alloc (.map #[] 0)) 140 (int18 A rs.length c lev (W.heap.size + 1) W.heap.size)
      rw [hs] at hbk
      have hm : MapN Try.prog 143 wayV (((W.alloc (.chan 40 #[] false 0 0 false)).alloc (.map #[] 0)).alloc (.cells (int18 A rs.length c lev (W.heap.size + 1) W.heap.size) 140)) (W.heap.size + 1) 0 (fun _ => none) := (by have := (MapN.new (P := Try.prog) (k := 143) (kv := wayV) (W.alloc (.chan 40 #[] false 0 0 false))).ext (ext_alloc _ (.cells (int18 A rs.length c lev (W.heap.size + 1) W.heap.size) 140)); simpa using this)
      have hc : ChanIs (((W.alloc (.chan 40 #[] false 0 0 false)).alloc (.map #[] 0)).alloc (.cells (int18 A rs.length c lev (W.heap.size + 1) W.heap.size) 140)) W.heap.size 40 0 := ((ChanIs.new W 40).ext (ext_alloc _ _)).ext (ext_alloc _ _)
      exact ⟨IntMem.new A rs.length c lev (W.heap.size + 2) (W.heap.size + 1) W.heap.size, rfl, (IntAt.new ⟨by omega, by omega, by omega⟩ (by omega) hbk hm hc (hM.ext (ext_trans HW.out P3))).ext (ext_drewN _ 1), ext_trans (ext_trans HW.out P3) (ext_drewN _ 1)⟩
    refine hK _ _ (fun x' => Ext W x') (ext_trans P3 (ext_drewN _ 1)) (fun _ h => h) ?_
    clear hK
    (refine segH_pure _ _ _ _ _ _ (hid_get HOPS 6 _ rfl) rfl wanted_none (fun _ _ _ _ h => h) ?_; intro K hK; go_big_quiet_op; go_big_quiet_on)
    refine seg_done ?_
    clear HOPS
    go_wp2
    go_ret
    obtain ⟨m, hm, h⟩ := HF.out
    exact ⟨m, by rw [hm]; rfl, h⟩
end
end Go.Proofs.Ytdknkbpgkkakhaa

/- Layer 20: Ready, Of. -/
namespace Go.Proofs.Ytdknkbpgkkakhaa
open Go.RowKit Go.Maps

section
variable {w w' : World} {B : Nat} {A : Option Addr} {c : Nat} {rs : List Rw} {lev : Int} {m : IntMem} {s : IntSt}
theorem IntAt.blk_lt (h : IntAt w B A c rs lev m s) : m.ga < w.heap.size := h.blk.lt
theorem below_six {ms : Mat} {a : Int} {k : Nat} (hk : k < (lbelow ms a).length) : (lbelow ms a)[k] < 6 := by
  have h := below_lt (List.getElem_mem hk)
  have := levels_le ms
  omega
def rdy (ms : Mat) (over : Nat → Int) (lev t : Int) : Bool := (lbelow ms lev).all fun b => decide (t < over b)
set_option maxRecDepth 100000 in
set_option maxHeartbeats 4000000 in
theorem intReady_any (h : IntAt w B A c rs lev m s) (t : Int) (hl : rs.length ≤ 9223372036854775807) :
    Calls Try.prog 83 #[.pointer (some ⟨m.ga, 0, none⟩), .int .i64 t] w fun e w' => e = .returned (.bool (rdy (mat rs) s.over lev t)) ∧ Ext w w' := by
  have c0 := h.blk.cell 0
  have c1 := h.blk.cell 1
  rw [h.lat] at c0
  rw [h.lev_] at c1
  have hO : ∀ x, Ext w x → ∀ b : Nat, b < 6 → x.cell? ⟨m.ga, 8 + b, none⟩ = some (.int .i64 (s.over b)) := fun x hx b hb => by
    have := (h.blk.ext hx).cell (8 + b)
    rwa [h.ovr b hb] at this
  have HM := Lib.hid h.mat
  clear h
  have d0 := fun x (hx : Ext w x) => ext_cell hx c0
  have d1 := fun x (hx : Ext w x) => ext_cell hx c1
  go_enter Try.func83, Try.ntmps83
  go_wp2_with fail
  refine wp_region_planH3 (.reads 0 (.reads 1 (.reads 2 (.reads 3 (.reads 4 (.reads 5 (.reads 6 (.reads 7 (.reads 10 (.makes 8 (.reads 9 (.done)))))))))))) (by kernel_rfl) (by kernel_rfl) (fun x' => Ext w x') (ext_drewN w 1) (fun ops HOPS => ?_)
  (refine segH_pure _ _ _ _ _ _ (hid_get HOPS 0 _ rfl) rfl wanted_none (fun _ _ _ _ h => h) ?_; intro K hK; go_big_quiet_op; go_big_quiet_on)
  (refine segH_nil _ _ _ _ _ _ _ (hid_get HOPS 1 _ rfl) wanted_none rfl (fun _ _ _ _ h => h) ?_; simp only [Act.put, List.setIfInBounds_toArray, List.set_cons_zero, List.set_cons_succ])
  (refine segH_pure _ _ _ _ _ _ (hid_get HOPS 2 _ rfl) rfl wanted_none (fun _ _ _ _ h => h) ?_; intro K hK; go_big_quiet_op; go_big_quiet_on)
  (refine segH_load _ _ _ _ _ _ _ _ _ (hid_get HOPS 3 _ rfl) wanted_none rfl (fun _ _ _ _ h => h) (fun y hy => by go_simp; try with_reducible rfl) ?_; simp only [Act.put, List.setIfInBounds_toArray, List.set_cons_zero, List.set_cons_succ])
  (refine segH_pure _ _ _ _ _ _ (hid_get HOPS 4 _ rfl) rfl wanted_none (fun _ _ _ _ h => h) ?_; intro K hK; go_big_quiet_op; go_big_quiet_on)
  (refine segH_nil _ _ _ _ _ _ _ (hid_get HOPS 5 _ rfl) wanted_none rfl (fun _ _ _ _ h => h) ?_; simp only [Act.put, List.setIfInBounds_toArray, List.set_cons_zero, List.set_cons_succ])
  (refine segH_pure _ _ _ _ _ _ (hid_get HOPS 6 _ rfl) rfl wanted_none (fun _ _ _ _ h => h) ?_; intro K hK; go_big_quiet_op; go_big_quiet_on)
  (refine segH_load _ _ _ _ _ _ _ _ _ (hid_get HOPS 7 _ rfl) wanted_none rfl (fun _ _ _ _ h => h) (fun y hy => by go_simp; try with_reducible rfl) ?_; simp only [Act.put, List.setIfInBounds_toArray, List.set_cons_zero, List.set_cons_succ])
  (refine segH_pure _ _ _ _ _ _ (hid_get HOPS 10 _ rfl) rfl wanted_none (fun _ _ _ _ h => h) ?_; intro K hK; go_big_quiet_op; go_big_quiet_on)
  refine segH_makes _ _ _ _ _ _ (hid_get HOPS 8 _ rfl) wanted_none (fun K hK => ?_)
  go_big_op
  refine (latBelow_any A c rs lev _ _ (HM.out.ext (ext_drewN w 1)) hl).mono ?_
  rintro e w1 ⟨v, rfl, hown, x1⟩
  obtain ⟨ls, hls⟩ : ∃ ls, ls = lbelow (mat rs) lev := ⟨_, rfl⟩
  have hr : rdy (mat rs) s.over lev t = ls.all fun b => decide (t < s.over b) := by rw [hls]; rfl
  have h6 : ∀ k (hk : k < ls.length), ls[k] < 6 := by subst hls; exact fun k hk => below_six hk
  have hln : ls.length ≤ 6 := by rw [hls]; exact below_le _ _
  rw [← hls] at hown
  have HR := Lib.hid hr
  clear hr hls
  obtain ⟨Ab, cb, rfl⟩ := hown.form
  have hR : NatsAt w1 w1.drew.heap.size Ab ls := hown.rows
  have hW : Ext w w1 := ext_trans (ext_drewN w 1) x1
  refine hK _ _ (fun x' => Ext w x') hW (fun _ h => h) ?_
  clear hK hown x1
  (refine segH_pure _ _ _ _ _ _ (hid_get HOPS 9 _ rfl) rfl wanted_none (fun _ _ _ _ h => h) ?_; intro K hK; go_big_quiet_op; go_big_quiet_on)
  refine seg_done ?_
  clear HOPS
  clear c0 c1 d0 d1
  go_wp2
  go_loopw [17] (fun i wr => ∃ k : Nat, i = .int .i64 k ∧ k ≤ ls.length ∧ Ext w1 wr ∧ Hid ((ls.take k).all (fun b => decide (t < s.over b)) = true)) (fun i _ => ls.length - (intOf i).toNat)
  case atStart => exact ⟨0, rfl, Nat.zero_le _, Below.refl _ _, rfl⟩
  case round =>
    obtain ⟨k, rfl, hk, hxi, HT⟩ := hrel
    by_cases hlt : k < ls.length
    · obtain ⟨ad, rfl, p0⟩ := NatsAt.get (hR.ext hxi) hlt
      have p1 := hO _ (ext_trans hW hxi) ls[k] (h6 k hlt)
      have h6k := h6 k hlt
      have HS := Lib.hid (show (ls.take (k + 1)).all (fun b => decide (t < s.over b)) = ((ls.take k).all (fun b => decide (t < s.over b)) && decide (t < s.over ls[k])) by rw [List.take_succ_eq_append_getElem hlt, List.all_append]; simp)
      by_cases ht : s.over ls[k] ≤ t
      · have HF : Hid (rdy (mat rs) s.over lev t = false) := by
          show _ = _
          rw [HR.out, ← Bool.not_eq_true, List.all_eq_true]
          intro hall
          have := hall _ (List.getElem_mem hlt)
          simp at this
          omega
        clear hO h6
        go_wp2
        go_ret
        exact ⟨by rw [HF.out]; rfl, ext_trans hW hxi⟩
      · clear hO h6
        go_wp2
        go_roundw
        case rel => exact ⟨k + 1, by go_num, hlt, hxi, by show _ = _; rw [HS.out, HT.out]; simp; omega⟩
        case measure => simp [intOf]; omega
    · clear hO h6
      obtain rfl : k = ls.length := by omega
      go_wp2
      go_ret
      exact ⟨by rw [HR.out, ← HT.out, List.take_length]; rfl, ext_trans hW hxi⟩

/-- Of. -/
def ofP (first : Int) (t : Int) (a : Nat) (x : It) : Bool := decide (x.turn = t) && decide (x.level = (a : Int)) && decide (first ≤ t)
def ofL (ms : Mat) (came : List It) (first t : Int) : List It := (lorder ms).flatMap fun a => came.filter (ofP first t a)
set_option maxRecDepth 100000 in
set_option maxHeartbeats 2000000 in
theorem intOf_all (h : IntAt w B A c rs lev m s) (t : Int) (hl : rs.length ≤ 9223372036854775807) :
    Calls Try.prog 85 #[.pointer (some ⟨m.ga, 0, none⟩), .int .i64 t] w fun e w' => ∃ v zs, e = .returned v ∧ Own elIv w' w.heap.size v zs ∧ its zs = ofL (mat rs) s.came s.first t ∧ (∀ z ∈ zs, IvOk w' B z) ∧ Ext w w' := by
  have c0 := h.blk.cell 0
  have c1 := h.blk.cell 16
  have c2 := h.blk.cell 17
  rw [h.lat] at c0
  rw [h.camc] at c1
  rw [h.firc] at c2
  have HM := Lib.hid h.mat
  obtain ⟨ys, hO, hys, hok⟩ := h.came
  obtain ⟨A0, c0', hv⟩ := hO.form
  rw [hv] at c1 hO
  have hR := hO.rows (B := B)
  have hR' : RowsIv w B A0 ys := hR
  have hbase : B ≤ w.heap.size := h.base_le
  have hcl : ys.length ≤ 1000000 := by
    have := h.camelen
    rw [← hys, its_length] at this
    exact this
  have HYS : Hid (its ys = s.came) := hys
  clear h hO hv hys hR
  go_enter Try.func85, Try.ntmps85
  go_wp2_with fail
  refine (latOrder_any A c rs _ _ HM.out hl).mono ?_
  rintro e w1 ⟨v, rfl, hown, x1⟩
  obtain ⟨ls, hls⟩ : ∃ ls, ls = lorder (mat rs) := ⟨_, rfl⟩
  have hln : ls.length ≤ 6 := by rw [hls, (order_taken _).2]; exact levels_le _
  rw [← hls] at hown
  have HL := Lib.hid hls
  clear hls
  obtain ⟨Ab, cb, rfl⟩ := hown.form
  have hRN : NatsAt w1 w1.heap.size Ab ls := hown.rows
  clear c0 hown
  replace c1 := ext_cell x1 c1
  replace c2 := ext_cell x1 c2
  replace hR' := RowsAt.ext hR' x1
  replace hok := fun z hz => (hok z hz).ext x1
  go_wp2
  go_loopw [5, 16] (fun o i wr => ∃ (k : Nat) (zs : List Iv), i = .int .i64 k ∧ k ≤ ls.length ∧ Ext w1 wr ∧ Own elIv wr w1.heap.size o zs ∧ zs.length ≤ k * 1000000 ∧ (∀ z ∈ zs, IvOk wr B z) ∧ Hid (its zs = (ls.take k).flatMap fun a => (its ys).filter (ofP s.first t a))) (fun _ i _ => ls.length - (intOf i).toNat)
  case atStart => exact ⟨0, [], rfl, Nat.zero_le _, Below.refl _ _, Own.nil _ _, Nat.zero_le _, by simp, rfl⟩
  case round =>
    obtain ⟨k, zs, rfl, hk, hxi, hown, hzl, hzs, HT⟩ := hrel
    obtain ⟨wo, rfl⟩ : ∃ wo : World, wo = wr := ⟨_, rfl⟩
    obtain ⟨Ao, co, rfl⟩ := hown.form
    by_cases hlt : k < ls.length
    · obtain ⟨ad, rfl, p0⟩ := NatsAt.get (hRN.ext hxi) hlt
      have q1 := ext_cell hxi c1
      have HTK := Lib.hid (show ((ls.take (k + 1)).flatMap fun a => (its ys).filter (ofP s.first t a)) = ((ls.take k).flatMap fun a => (its ys).filter (ofP s.first t a)) ++ (its ys).filter (ofP s.first t ls[k]) by rw [List.take_succ_eq_append_getElem hlt, List.flatMap_append]; simp)
      obtain ⟨lk, hlk⟩ : ∃ lk, lk = ls[k] := ⟨_, rfl⟩
      rw [← hlk] at HTK p0
      clear hlk
      go_wp2
      go_step3
      go_wp2
      go_step3
      go_wp2
      go_loopw [5, 25] (fun o i wi => ∃ (j : Nat) (zs' : List Iv), i = .int .i64 j ∧ j ≤ ys.length ∧ Ext w1 wi ∧ Own elIv wi w1.heap.size o zs' ∧ zs'.length ≤ k * 1000000 + j ∧ (∀ z ∈ zs', IvOk wi B z) ∧ Hid (its zs' = its zs ++ ((its ys).take j).filter (ofP s.first t lk))) (fun _ i _ => ys.length - (intOf i).toNat)
      case atStart => exact ⟨0, zs, rfl, Nat.zero_le _, hxi, hown, Nat.le_trans hzl (Nat.le_add_right _ _), hzs, by show _ = _; simp⟩
      case round =>
        clear hown hzs hzl p0 q1
        obtain ⟨j, zs', rfl, hj, hxj, hown', hzl', hzs', HT'⟩ := hrel
        obtain ⟨Ai, ci, rfl⟩ := hown'.form
        by_cases hlt' : j < ys.length
        · have hix := (hok _ (List.getElem_mem hlt')).ext hxj
          obtain ⟨ad', hA0, p0, p1, p2, p3, p4⟩ := RowsIv.get (RowsAt.ext hR' hxj) hlt'
          have e0 : A0 = some ad' := hA0
          have q1 := ext_cell hxj c1
          have q2 := fun o => ext_cell (ext_trans hxj (ext_alloc wr o)) c2
          subst e0
          have HTJ : Hid (((its ys).take (j + 1)).filter (ofP s.first t lk) = ((its ys).take j).filter (ofP s.first t lk) ++ [ys[j].it].filter (ofP s.first t lk)) := by
            show _ = _
            have e : (its ys)[j]? = some ys[j].it := by simp [its, List.getElem?_eq_getElem hlt']
            rw [List.take_add_one, e, List.filter_append]; rfl
          by_cases h1 : ys[j].it.turn = t
          · by_cases h2 : ys[j].it.level = (lk : Int)
            · by_cases h3 : t < s.first
              · have HNP : Hid (((its ys).take (j + 1)).filter (ofP s.first t lk) = ((its ys).take j).filter (ofP s.first t lk)) := by
                  show _ = _
                  rw [HTJ.out]; simp [ofP, h1, h2, show ¬ s.first ≤ t by omega]
                clear hR' c1 c2
                go_wp2
                go_roundw
                case rel => exact ⟨j + 1, zs', by go_num, hlt', ext_trans hxj (ext_alloc _ _), hown'.ext (ext_alloc _ _), by omega, fun z hz => (hzs' z hz).ext (ext_alloc _ _), by show _ = _; rw [HNP.out, HT'.out]⟩
                case measure => simp [intOf]; omega
              · have HYP : Hid (((its ys).take (j + 1)).filter (ofP s.first t lk) = ((its ys).take j).filter (ofP s.first t lk) ++ [ys[j].it]) := by
                  show _ = _
                  rw [HTJ.out]; simp [ofP, h1, h2, show s.first ≤ t by omega]
                have HXE : Hid (ys[j].it = (⟨(lk : Int), ys[j].it.n, t, ys[j].it.shut, ys[j].it.ws⟩ : It)) := by
                  show _ = _
                  rw [← h1, ← h2]
                clear hR' c1 c2
                go_wp2_with fail
                refine (itemCopy_any (⟨(lk : Int), ys[j].it.n, t, ys[j].it.shut, ys[j].it.ws⟩ : It) _ _ _ B (hix.at_.ext (ext_alloc _ _)) (by have := hix.len; omega)).mono ?_
                rintro e w2 ⟨A', c', rfl, hW, hext0⟩
                have hext : Ext wr w2 := ext_trans (ext_alloc _ _) hext0
                have HB := Lib.hid (rows_block (E := elIv) (B := B) (⟨(⟨(lk : Int), ys[j].it.n, t, ys[j].it.shut, ys[j].it.ws⟩ : It), A', c'⟩ : Iv) (Blk.new w2 33 (Iv.cells ⟨(⟨(lk : Int), ys[j].it.n, t, ys[j].it.shut, ys[j].it.ws⟩ : It), A', c'⟩).toArray))
                have HO := Lib.hid ((hown'.ext hext).ext (ext_alloc w2 (.cells (Iv.cells ⟨(⟨(lk : Int), ys[j].it.n, t, ys[j].it.shut, ys[j].it.ws⟩ : It), A', c'⟩).toArray 33)))
                have hz1 : w1.heap.size ≤ w2.heap.size := Nat.le_trans hxj.size hext.size
                have hz2 : B ≤ w1.heap.size := Nat.le_trans hbase x1.size
                clear p0 p1 p2 p3 p4 hext0 q1 q2 hown'
                go_wp2_with (at_builtin; refine wpList_append elIv rfl _ _ rfl w1.heap.size (.slice Ai zs'.length ci) zs' rfl HO.out _ 1 [(⟨(⟨(lk : Int), ys[j].it.n, t, ys[j].it.shut, ys[j].it.ws⟩ : It), A', c'⟩ : Iv)] rfl B HB.out (by show _ * 56 ≤ _; simp; omega) (by simp; omega) (by simp; omega) ?_; intro A2 c2 w3 hown3 hg3 hat3)
                have hk2 : Keeps B [33] (w2.alloc (.cells (Iv.cells ⟨(⟨(lk : Int), ys[j].it.n, t, ys[j].it.shut, ys[j].it.ws⟩ : It), A', c'⟩).toArray 33)) w3 := HO.out.keeps hg3 hz2
                have hx2 : Ext wr (w2.alloc (.cells (Iv.cells ⟨(⟨(lk : Int), ys[j].it.n, t, ys[j].it.shut, ys[j].it.ws⟩ : It), A', c'⟩).toArray 33)) := ext_trans hext (ext_alloc _ _)
                go_roundw
                case rel =>
                  refine ⟨j + 1, zs' ++ [⟨(⟨(lk : Int), ys[j].it.n, t, ys[j].it.shut, ys[j].it.ws⟩ : It), A', c'⟩], by go_num, hlt', ?_, by simpa using hown3, by simp; omega, ?_, ?_⟩
                  · exact (below_ext hxj (Nat.le_refl _) hx2).grown hg3 (by simp; omega) (fun k hk => (HO.out.typed hk).1)
                  · intro y hy
                    rcases List.mem_append.1 hy with hy | hy
                    · exact ((hzs' y hy).ext hx2).keeps hk2 (by decide)
                    · have e1 : y = ⟨(⟨(lk : Int), ys[j].it.n, t, ys[j].it.shut, ys[j].it.ws⟩ : It), A', c'⟩ := by simpa using hy
                      subst e1
                      exact ⟨(RowsAt.ext hW (ext_alloc _ _)).keeps hk2 (by decide), hix.wr, hix.len⟩
                  · show _ = _
                    rw [its_append, HYP.out, HT'.out, HXE.out]; simp [its]
                case measure => simp [intOf]; omega
            · have HNP : Hid (((its ys).take (j + 1)).filter (ofP s.first t lk) = ((its ys).take j).filter (ofP s.first t lk)) := by
                show _ = _
                rw [HTJ.out]; simp [ofP, h1, h2]
              clear hR' c1 c2
              go_wp2
              go_roundw
              case rel => exact ⟨j + 1, zs', by go_num, hlt', ext_trans hxj (ext_alloc _ _), hown'.ext (ext_alloc _ _), by omega, fun z hz => (hzs' z hz).ext (ext_alloc _ _), by show _ = _; rw [HNP.out, HT'.out]⟩
              case measure => simp [intOf]; omega
          · have HNP : Hid (((its ys).take (j + 1)).filter (ofP s.first t lk) = ((its ys).take j).filter (ofP s.first t lk)) := by
              show _ = _
              rw [HTJ.out]; simp [ofP, h1]
            clear hR' c1 c2
            go_wp2
            go_roundw
            case rel => exact ⟨j + 1, zs', by go_num, hlt', ext_trans hxj (ext_alloc _ _), hown'.ext (ext_alloc _ _), by omega, fun z hz => (hzs' z hz).ext (ext_alloc _ _), by show _ = _; rw [HNP.out, HT'.out]⟩
            case measure => simp [intOf]; omega
        · obtain rfl : j = ys.length := by omega
          have HF : Hid (its zs' = (ls.take (k + 1)).flatMap fun a => (its ys).filter (ofP s.first t a)) := by
            show _ = _
            rw [HT'.out, HTK.out, ← HT.out, show ys.length = (its ys).length from (its_length ys).symm, List.take_length]
          clear hR' c1 c2 hok
          go_wp2
          rw [Exit.noGoto_normal]
          go_wp2
          go_roundw
          case rel => exact ⟨k + 1, zs', by go_num, hlt, hxj, hown', by omega, hzs', HF⟩
          case measure => simp [intOf]; omega
    · obtain rfl : k = ls.length := by omega
      clear hR' c1 c2 hok
      have HF : Hid (its zs = ofL (mat rs) s.came s.first t) := by
        show _ = _
        rw [HT.out, List.take_length, HYS.out, HL.out]; rfl
      go_wp2
      go_ret
      exact ⟨_, zs, rfl, hown.le x1.size, HF.out, hzs, ext_trans x1 hxi⟩
end
end Go.Proofs.Ytdknkbpgkkakhaa

/- Layer 20: what an intake owns; its cells turned one by one. -/
namespace Go.Proofs.Ytdknkbpgkkakhaa
open Go.RowKit Go.Maps
open Go.ChangeMaps (setBlock)

section
variable {w w' : World} {B : Nat} {A : Option Addr} {c : Nat} {rs : List Rw} {lev : Int} {m : IntMem} {s : IntSt}
theorem MatAt.keeps {T : List TypeId} (h : MatAt w B A rs) (k : Keeps B T w w') (h1 : 23 ∉ T) (h2 : 4 ∉ T) : MatAt w' B A rs :=
  ⟨h.rows.keeps k h1, fun r hr => (h.each r hr).keeps k h2⟩
theorem get_set_ne {cs : Array Value} {i j : Nat} {u : Value} (h : i ≠ j) : (cs.setIfInBounds i u)[j]? = cs[j]? := by
  rw [Array.getElem?_setIfInBounds_ne h]
theorem get_set_eq {cs : Array Value} {i : Nat} {u : Value} (h : i < cs.size) : (cs.setIfInBounds i u)[i]? = some u := by
  rw [Array.getElem?_setIfInBounds_self, if_pos h]
theorem ChanIs.not_blk {b cap n : Nat} (h : ChanIs w b cap n) {g : Nat} {t : TypeId} {cs : Array Value} (hb : Blk w g t cs) : g ≠ b := by
  rintro rfl
  obtain ⟨_, _, _, h1, _⟩ := h
  unfold Blk at hb
  rw [hb] at h1
  cases h1

theorem Mods.mono {S S' : Nat → Prop} (h : Mods S w w') (k : ∀ i, S i → S' i) : Mods S' w w' := ⟨h.os, h.tape, h.output, h.size, fun i hi hs => h.block i hi fun e => hs (k i e)⟩

/-- The blocks that an intake owns. -/
def IntOwn (m : IntMem) (g : Nat) : Prop := g = m.ga ∨ g = m.mo ∨ g = m.pc ∨ m.vc.ownBlock = some g
theorem IntAt.ga_mo (h : IntAt w B A c rs lev m s) : m.ga ≠ m.mo := h.map.not_blk h.blk
theorem IntAt.ga_pc (h : IntAt w B A c rs lev m s) : m.ga ≠ m.pc := h.chan.not_blk h.blk
theorem IntAt.vc_blk (h : IntAt w B A c rs lev m s) {b : Nat} (hb : m.vc.ownBlock = some b) : B ≤ b ∧ ∃ cur, Blk w b 33 cur := by
  obtain ⟨ys, h1, _⟩ := h.came
  obtain ⟨h2, _, h3⟩ := h1.typed hb
  exact ⟨h2, h3⟩
theorem IntAt.vc_ga (h : IntAt w B A c rs lev m s) : m.vc.ownBlock ≠ some m.ga := fun hb => by
  obtain ⟨_, cur, h1⟩ := h.vc_blk hb
  have h2 := h.blk
  unfold Blk at h1 h2
  rw [h2] at h1
  injection h1 with h1
  injection h1 with _ h1
  cases h1
theorem IntAt.vc_mo (h : IntAt w B A c rs lev m s) : m.vc.ownBlock ≠ some m.mo := fun hb => by
  obtain ⟨_, cur, h1⟩ := h.vc_blk hb
  exact h.map.not_blk h1 rfl
theorem IntAt.vc_pc (h : IntAt w B A c rs lev m s) : m.vc.ownBlock ≠ some m.pc := fun hb => by
  obtain ⟨_, cur, h1⟩ := h.vc_blk hb
  exact h.chan.not_blk h1 rfl
theorem IntAt.own_lt (h : IntAt w B A c rs lev m s) {g : Nat} (hg : IntOwn m g) : B ≤ g ∧ g < w.heap.size := by
  rcases hg with rfl | rfl | rfl | hg
  · exact ⟨h.base.1, h.blk.lt⟩
  · exact ⟨h.base.2.1, h.map.lt⟩
  · exact ⟨h.base.2.2, h.chan.lt⟩
  · obtain ⟨h2, cur, h3⟩ := h.vc_blk hg
    exact ⟨h2, h3.lt⟩
/-- What a step of an intake may turn: its own blocks; those that it owns behind it are old ones or new. -/
structure IntGo (B : Nat) (w : World) (m : IntMem) (w' : World) (m' : IntMem) : Prop where
  below : Below B w w'
  mods : Mods (IntOwn m) w w'
  sub : ∀ g, IntOwn m' g → IntOwn m g ∨ w.heap.size ≤ g
  ga : m'.ga = m.ga
theorem IntGo.of_ext (h : Ext w w') (hB : B ≤ w.heap.size) (m : IntMem) : IntGo B w m w' m := ⟨h.mono hB, Mods.of_below h _, fun _ h => .inl h, rfl⟩
theorem IntGo.trans {w1 w2 : World} {m1 m2 : IntMem} (h : IntGo B w m w1 m1) (k : IntGo B w1 m1 w2 m2) : IntGo B w m w2 m2 :=
  ⟨h.below.trans k.below, h.mods.trans k.mods (fun i hi hs => (h.sub i hs).resolve_right (by omega)), fun g hg => by
    rcases k.sub g hg with h1 | h1
    · exact h.sub g h1
    · exact .inr (Nat.le_trans h.below.size h1), k.ga.trans h.ga⟩
theorem IntGo.ext {w1 w2 : World} {m1 : IntMem} (h : IntGo B w m w1 m1) (hB : B ≤ w.heap.size) (k : Ext w1 w2) : IntGo B w m w2 m1 :=
  h.trans (.of_ext k (Nat.le_trans hB h.below.size) m1)
theorem IntGo.free {m' : IntMem} (h : IntGo B w m w' m') {g : Nat} (hg : g < w.heap.size) (hn : ¬ IntOwn m g) : ¬ IntOwn m' g ∧ w'.heap[g]? = w.heap[g]? :=
  ⟨fun hc => (h.sub g hc).elim hn (by omega), h.mods.block g hg hn⟩
theorem IntAt.mods {S : Nat → Prop} {T : List TypeId} (h : IntAt w B A c rs lev m s) (k : Mods S w w') (hS : ∀ g, S g → ¬ IntOwn m g) (hk : Keeps B T w w') (h23 : 23 ∉ T) (h4 : 4 ∉ T) (h47 : 47 ∉ T) : IntAt w' B A c rs lev m s where
  base := h.base
  apart := h.apart
  blk := h.blk.mods k (fun e => hS _ e (.inl rfl))
  size := h.size
  lat := h.lat
  lev_ := h.lev_
  hav := h.hav
  ovr := h.ovr
  mapc := h.mapc
  chac := h.chac
  camc := h.camc
  firc := h.firc
  map := h.map.mods k (fun e => hS _ e (.inr (.inl rfl)))
  chan := h.chan.mods k (fun e => hS _ e (.inr (.inr (.inl rfl))))
  helds x := (h.helds x).keeps hk h47
  came := by
    obtain ⟨ys, h1, h2, h3⟩ := h.came
    exact ⟨ys, h1.mods k (fun b hb e => hS b e (.inr (.inr (.inr hb)))), h2, fun y hy => (h3 y hy).keeps hk h47⟩
  mat := h.mat.keeps hk h23 h4
  few := h.few
  camelen := h.camelen
theorem keeps_ga (h : IntAt w B A c rs lev m s) (k : Mods (fun g => g = m.ga) w w') : Keeps B [140] w w' := Keeps.of_mods k fun i hi => by
  subst hi
  refine ⟨h.base.1, fun cs t fr hk => ?_⟩
  have h2 := h.blk
  unfold Blk at h2
  rw [h2] at hk
  injection hk with hk
  injection hk with _ hk
  simp [hk]
/-- One of the intake's own cells is turned. -/
theorem IntAt.put (h : IntAt w B A c rs lev m s) (i : Nat) (v : Value) (s' : IntSt) (hi : 2 ≤ i ∧ i ≠ 14 ∧ i ≠ 15 ∧ i ≠ 16)
    (hav : ∀ a : Nat, a < 6 → (m.cs.setIfInBounds i v)[2 + a]? = some (.int .i64 (s'.have_ a)))
    (ovr : ∀ a : Nat, a < 6 → (m.cs.setIfInBounds i v)[8 + a]? = some (.int .i64 (s'.over a)))
    (firc : (m.cs.setIfInBounds i v)[17]? = some (.int .i64 s'.first))
    (he : s'.held = s.held ∧ s'.cnt = s.cnt ∧ s'.came = s.came) :
    IntAt (w.setCell ⟨m.ga, i, none⟩ v) B A c rs lev { m with cs := m.cs.setIfInBounds i v } s' ∧ IntGo B w m (w.setCell ⟨m.ga, i, none⟩ v) { m with cs := m.cs.setIfInBounds i v } := by
  have k : Mods (fun g => g = m.ga) w (w.setCell ⟨m.ga, i, none⟩ v) := mods_setCell w ⟨m.ga, i, none⟩ v
  have hk := keeps_ga h k
  obtain ⟨e1, e2, e3⟩ := he
  refine ⟨⟨h.base, h.apart, h.blk.set_ _ _, by show (m.cs.setIfInBounds _ _).size = _; rw [Array.size_setIfInBounds]; exact h.size, ?_, ?_, hav, ovr, ?_, ?_, ?_, firc, ?_, ?_, ?_, ?_, h.mat.keeps hk (by decide) (by decide), by rw [e2]; exact h.few, by rw [e3]; exact h.camelen⟩,
    ⟨(Below.refl _ _).setCell h.base.1 _, k.mono fun _ e => .inl e, fun _ h => .inl h, rfl⟩⟩
  · show (m.cs.setIfInBounds _ _)[0]? = _
    rw [get_set_ne (by omega)]; exact h.lat
  · show (m.cs.setIfInBounds _ _)[1]? = _
    rw [get_set_ne (by omega)]; exact h.lev_
  · show (m.cs.setIfInBounds _ _)[14]? = _
    rw [get_set_ne (by omega)]; exact h.mapc
  · show (m.cs.setIfInBounds _ _)[15]? = _
    rw [get_set_ne (by omega)]; exact h.chac
  · show (m.cs.setIfInBounds _ _)[16]? = _
    rw [get_set_ne (by omega)]; exact h.camc
  · rw [e2]; exact h.map.mods k (fun e => h.ga_mo e.symm)
  · rw [e2]; exact h.chan.mods k (fun e => h.ga_pc e.symm)
  · intro x
    rw [e1]; exact (h.helds x).keeps hk (by decide)
  · rw [e3]
    obtain ⟨ys, h1, h2, h3⟩ := h.came
    exact ⟨ys, h1.mods k (fun b hb e => h.vc_ga (by rw [hb, e])), h2, fun y hy => (h3 y hy).keeps hk (by decide)⟩
/-- The items that came are another slice. -/
theorem IntAt.putCame (h : IntAt w B A c rs lev m s) (v : Value) (ys : List Iv) (hv : Off elIv w B v ys) (hok : ∀ y ∈ ys, IvOk w B y) (hl : ys.length ≤ 1000000) (s' : IntSt) (he : s'.have_ = s.have_ ∧ s'.over = s.over ∧ s'.held = s.held ∧ s'.cnt = s.cnt ∧ s'.first = s.first) (hc : its ys = s'.came) :
    IntAt (w.setCell ⟨m.ga, 16, none⟩ v) B A c rs lev { m with cs := m.cs.setIfInBounds 16 v, vc := v } s' := by
  have k : Mods (fun g => g = m.ga) w (w.setCell ⟨m.ga, 16, none⟩ v) := mods_setCell w ⟨m.ga, 16, none⟩ v
  have hk := keeps_ga h k
  obtain ⟨e1, e2, e3, e4, e5⟩ := he
  have hne : v.ownBlock ≠ some m.ga := fun hb => by
    obtain ⟨_, _, cur, h1⟩ := hv.typed hb
    have h2 := h.blk
    unfold Blk at h1 h2
    rw [h2] at h1
    injection h1 with h1
    injection h1 with _ h1
    cases h1
  refine ⟨h.base, h.apart, h.blk.set_ _ _, by show (m.cs.setIfInBounds _ _).size = _; rw [Array.size_setIfInBounds]; exact h.size, ?_, ?_, ?_, ?_, ?_, ?_, ?_, ?_, ?_, ?_, ?_, ?_, h.mat.keeps hk (by decide) (by decide), by rw [e4]; exact h.few, by rw [← hc, its_length]; exact hl⟩
  · show (m.cs.setIfInBounds _ _)[0]? = _
    rw [get_set_ne (by omega)]; exact h.lat
  · show (m.cs.setIfInBounds _ _)[1]? = _
    rw [get_set_ne (by omega)]; exact h.lev_
  · intro a ha
    show (m.cs.setIfInBounds _ _)[2 + a]? = _
    rw [get_set_ne (by omega), e1]; exact h.hav a ha
  · intro a ha
    show (m.cs.setIfInBounds _ _)[8 + a]? = _
    rw [get_set_ne (by omega), e2]; exact h.ovr a ha
  · show (m.cs.setIfInBounds _ _)[14]? = _
    rw [get_set_ne (by omega)]; exact h.mapc
  · show (m.cs.setIfInBounds _ _)[15]? = _
    rw [get_set_ne (by omega)]; exact h.chac
  · show (m.cs.setIfInBounds _ _)[16]? = _
    rw [get_set_eq (by rw [h.size]; omega)]
  · show (m.cs.setIfInBounds _ _)[17]? = _
    rw [get_set_ne (by omega), e5]; exact h.firc
  · rw [e4]; exact h.map.mods k (fun e => h.ga_mo e.symm)
  · rw [e4]; exact h.chan.mods k (fun e => h.ga_pc e.symm)
  · intro x
    rw [e3]; exact (h.helds x).keeps hk (by decide)
  · exact ⟨ys, hv.mods k (fun b hb e => hne (by rw [hb, e])), hc, fun y hy => (hok y hy).keeps hk (by decide)⟩
def comesHave (s : IntSt) (a : Nat) : IntSt := { s with have_ := fun k => if k = a then s.have_ a + 1 else s.have_ k }
def comesOver (s : IntSt) (a : Nat) : IntSt := { s with over := fun k => if k = a then s.over a + 1 else s.over k }
theorem IntAt.putHave (h : IntAt w B A c rs lev m s) {a : Nat} (ha : a < 6) :
    IntAt (w.setCell ⟨m.ga, 2 + a, none⟩ (.int .i64 (s.have_ a + 1))) B A c rs lev { m with cs := m.cs.setIfInBounds (2 + a) (.int .i64 (s.have_ a + 1)) } (comesHave s a) ∧ IntGo B w m (w.setCell ⟨m.ga, 2 + a, none⟩ (.int .i64 (s.have_ a + 1))) { m with cs := m.cs.setIfInBounds (2 + a) (.int .i64 (s.have_ a + 1)) } := by
  refine h.put (2 + a) _ (comesHave s a) (by omega) ?_ ?_ ?_ ⟨rfl, rfl, rfl⟩
  · intro b hb
    by_cases e : b = a
    · subst e
      rw [get_set_eq (by rw [h.size]; omega)]; simp [comesHave]
    · rw [get_set_ne (by omega), h.hav b hb]; simp [comesHave, e]
  · intro b hb
    rw [get_set_ne (by omega)]; exact h.ovr b hb
  · rw [get_set_ne (by omega)]; exact h.firc
theorem IntAt.putOver (h : IntAt w B A c rs lev m s) {a : Nat} (ha : a < 6) :
    IntAt (w.setCell ⟨m.ga, 8 + a, none⟩ (.int .i64 (s.over a + 1))) B A c rs lev { m with cs := m.cs.setIfInBounds (8 + a) (.int .i64 (s.over a + 1)) } (comesOver s a) ∧ IntGo B w m (w.setCell ⟨m.ga, 8 + a, none⟩ (.int .i64 (s.over a + 1))) { m with cs := m.cs.setIfInBounds (8 + a) (.int .i64 (s.over a + 1)) } := by
  refine h.put (8 + a) _ (comesOver s a) (by omega) ?_ ?_ ?_ ⟨rfl, rfl, rfl⟩
  · intro b hb
    rw [get_set_ne (by omega)]; exact h.hav b hb
  · intro b hb
    by_cases e : b = a
    · subst e
      rw [get_set_eq (by rw [h.size]; omega)]; simp [comesOver]
    · rw [get_set_ne (by omega), h.ovr b hb]; simp [comesOver, e]
  · rw [get_set_ne (by omega)]; exact h.firc
end
end Go.Proofs.Ytdknkbpgkkakhaa

/- Layer 20: comes. -/
namespace Go.Proofs.Ytdknkbpgkkakhaa
open Go.RowKit Go.Maps
open Go.ChangeMaps (setBlock)

theorem Own.off {α : Type} {E : Elem α} {w : World} {base : Nat} {v : Value} {xs : List α} (h : Own E w base v xs) : Off E w base v xs := by
  rcases h.2 with ⟨rfl, h0⟩ | ⟨g, cap, cur, rfl, hg, hh, hnc, hcm, hsz, htk⟩
  · exact .inl ⟨rfl, List.eq_nil_of_length_eq_zero h0⟩
  · refine .inr ⟨g, 0, cap, cur, rfl, hg, hh, hnc, hcm, by omega, fun j u hj => ?_⟩
    rw [← htk, List.getElem?_take] at hj
    split at hj
    · simpa using hj
    · cases hj
section
variable {α : Type} (E : Elem α) {o : Oper} {a : Act} {K : Act → World → Prop} {Q : Exit → Act → World → Prop} {w : World}
theorem wp_append_off (s x : Operand) (ho : o.op = .call { callee := .builtin .append, args := #[s, x], argTypes := #[E.t, E.t] })
    (base : Nat) (v : Value) (xs : List α) (hs : a.eval s = v) (h0 : Off E w base v xs) (ad : Addr) (c : Nat) (ys : List α) (hx : a.eval x = .slice (some ad) ys.length c) (B : Nat) (hr : RowsAt w B E.e E.size E.f (some ad) ys) (hne : ys ≠ [])
    (hlen : (xs.length + ys.length) * E.bytes ≤ 140737488355328) (hl2 : xs.length + ys.length ≤ maxLen) (hbase : base ≤ w.heap.size)
    (h : ∀ v' w', Off E w' base v' (xs ++ ys) → w.grownBy w' v.ownBlock → (v'.ownBlock = v.ownBlock ∨ v'.ownBlock = some w.heap.size) → K (a.put o.dst v') w') :
    o.wp Try.prog a w K Q := by
  obtain ⟨v', w', hrun, h2, h3, h4⟩ := run_append_off (E := E) o.type h0 ad c ys B hr hne hlen hl2 hbase
  unfold Oper.wp execOp
  simp only [ho, resolve, invoke, builtin, Sem.run_bind, Sem.run_pure, Result.andThen_ok, List.map_toArray, List.map_cons, List.map_nil, hs, hx, hrun]
  exact h v' w' h2 h3 h4
end
/-- The slice cut down to its own length. -/
theorem Off.cut {α : Type} {E : Elem α} {w : World} {base : Nat} {A : Option Addr} {c : Nat} {xs : List α} (h : Off E w base (.slice A xs.length c) xs) : Off E w base (.slice A xs.length xs.length) xs := by
  rcases h with ⟨hv, rfl⟩ | ⟨g, off, cap, cur, hv, h1, h2, h3, h4, h5, h6⟩
  · injection hv with e1 _ _
    subst e1
    exact .inl ⟨rfl, rfl⟩
  · injection hv with e1 _ _
    subst e1
    refine .inr ⟨g, off, xs.length, cur, rfl, h1, h2, Nat.le_refl _, Nat.le_trans h3 h4, ?_, h6⟩
    have := Nat.mul_le_mul_right E.size h3
    omega
theorem Off.le_cap {α : Type} {E : Elem α} {w : World} {base : Nat} {A : Option Addr} {c : Nat} {xs : List α} (h : Off E w base (.slice A xs.length c) xs) : xs.length ≤ c := by
  rcases h with ⟨hv, rfl⟩ | ⟨g, off, cap, cur, hv, _, _, hnc, _⟩
  · exact Nat.zero_le _
  · injection hv with _ _ h3
    omega

section
variable {w w' : World} {B : Nat} {A : Option Addr} {c : Nat} {rs : List Rw} {lev : Int} {m : IntMem} {s : IntSt}
/-- Another slice of items that came, be the old one's block grown. -/
theorem IntAt.storeCame (h : IntAt w B A c rs lev m s) {w3 : World} (k3 : Mods (fun k => m.vc.ownBlock = some k) w w3) {v : Value} {ys : List Iv} (hv : Off elIv w3 B v ys) (hok : ∀ y ∈ ys, IvOk w3 B y) (hl : ys.length ≤ 1000000)
    (hnew : ∀ b, v.ownBlock = some b → m.vc.ownBlock = some b ∨ w.heap.size ≤ b) (s' : IntSt) (he : s'.have_ = s.have_ ∧ s'.over = s.over ∧ s'.held = s.held ∧ s'.cnt = s.cnt ∧ s'.first = s.first) (hc : its ys = s'.came) :
    IntAt (w3.setCell ⟨m.ga, 16, none⟩ v) B A c rs lev { m with cs := m.cs.setIfInBounds 16 v, vc := v } s' ∧ IntGo B w m (w3.setCell ⟨m.ga, 16, none⟩ v) { m with cs := m.cs.setIfInBounds 16 v, vc := v } := by
  have b3 : Blk w3 m.ga 140 m.cs := h.blk.mods k3 h.vc_ga
  have k4 : Mods (fun g => g = m.ga) w3 (w3.setCell ⟨m.ga, 16, none⟩ v) := mods_setCell w3 ⟨m.ga, 16, none⟩ v
  have hk4 : Keeps B [140] w3 (w3.setCell ⟨m.ga, 16, none⟩ v) := Keeps.of_mods k4 fun i hi => by
    subst hi
    refine ⟨h.base.1, fun cs t fr hk => ?_⟩
    unfold Blk at b3
    rw [b3] at hk
    injection hk with hk
    injection hk with _ hk
    simp [hk]
  have hk3 : Keeps B [33] w w3 := Keeps.of_mods k3 fun i hi => by
    obtain ⟨h1, cur, h2⟩ := h.vc_blk hi
    refine ⟨h1, fun cs t fr hk => ?_⟩
    unfold Blk at h2
    rw [h2] at hk
    injection hk with hk
    injection hk with _ hk
    simp [← hk]
  obtain ⟨e1, e2, e3, e4, e5⟩ := he
  have hne : v.ownBlock ≠ some m.ga := fun hb => by
    obtain ⟨_, _, cur, h1⟩ := hv.typed hb
    unfold Blk at h1 b3
    rw [b3] at h1
    injection h1 with h1
    injection h1 with _ h1
    cases h1
  have km : Mods (IntOwn m) w (w3.setCell ⟨m.ga, 16, none⟩ v) := (k3.mono fun _ e => .inr (.inr (.inr e))).trans k4 (fun _ _ e => .inl e)
  refine ⟨⟨h.base, h.apart, b3.set_ _ _, by show (m.cs.setIfInBounds _ _).size = _; rw [Array.size_setIfInBounds]; exact h.size, ?_, ?_, ?_, ?_, ?_, ?_, ?_, ?_, ?_, ?_, ?_, ?_, (h.mat.keeps hk3 (by decide) (by decide)).keeps hk4 (by decide) (by decide), by rw [e4]; exact h.few, by rw [← hc, its_length]; exact hl⟩,
    ⟨?_, km, ?_, rfl⟩⟩
  · show (m.cs.setIfInBounds _ _)[0]? = _
    rw [get_set_ne (by omega)]; exact h.lat
  · show (m.cs.setIfInBounds _ _)[1]? = _
    rw [get_set_ne (by omega)]; exact h.lev_
  · intro a ha
    show (m.cs.setIfInBounds _ _)[2 + a]? = _
    rw [get_set_ne (by omega), e1]; exact h.hav a ha
  · intro a ha
    show (m.cs.setIfInBounds _ _)[8 + a]? = _
    rw [get_set_ne (by omega), e2]; exact h.ovr a ha
  · show (m.cs.setIfInBounds _ _)[14]? = _
    rw [get_set_ne (by omega)]; exact h.mapc
  · show (m.cs.setIfInBounds _ _)[15]? = _
    rw [get_set_ne (by omega)]; exact h.chac
  · show (m.cs.setIfInBounds _ _)[16]? = _
    rw [get_set_eq (by rw [h.size]; omega)]
  · show (m.cs.setIfInBounds _ _)[17]? = _
    rw [get_set_ne (by omega), e5]; exact h.firc
  · rw [e4]; exact (h.map.mods k3 h.vc_mo).mods k4 (fun e => h.ga_mo e.symm)
  · rw [e4]; exact (h.chan.mods k3 h.vc_pc).mods k4 (fun e => h.ga_pc e.symm)
  · intro x
    rw [e3]; exact ((h.helds x).keeps hk3 (by decide)).keeps hk4 (by decide)
  · exact ⟨ys, hv.mods k4 (fun b hb e => hne (by rw [hb, e])), hc, fun y hy => (hok y hy).keeps hk4 (by decide)⟩
  · exact km.below h.base_le (fun g hg => (h.own_lt hg).1)
  · rintro g (rfl | rfl | rfl | hg)
    · exact .inl (.inl rfl)
    · exact .inl (.inr (.inl rfl))
    · exact .inl (.inr (.inr (.inl rfl)))
    · exact (hnew g hg).imp (fun e => .inr (.inr (.inr e))) id
def comesSt (s : IntSt) (x : It) : IntSt :=
  let s1 := comesHave s x.level.toNat
  if x.shut = true then comesOver s1 x.level.toNat else { s1 with came := s1.came ++ [x] }
set_option maxRecDepth 100000 in
set_option maxHeartbeats 4000000 in
theorem intComes_any (h : IntAt w B A c rs lev m s) (x : Iv) (hx : IvOk w B x) {a : Nat} (ha : a < 6) (hxa : x.it.level = (a : Int)) (h1 : 0 ≤ s.have_ a ∧ s.have_ a ≤ 1000000) (h2 : 0 ≤ s.over a ∧ s.over a ≤ 1000000) (hl : s.came.length < 1000000) :
    Calls Try.prog 112 #[.pointer (some ⟨m.ga, 0, none⟩), .agg #[.int .i64 x.it.level, .int .i64 x.it.n, .int .i64 x.it.turn, .bool x.it.shut, .slice x.A x.it.ws.length x.c]] w
      fun e w' => e = .returned (.tuple #[]) ∧ ∃ m', IntAt w' B A c rs lev m' (comesSt s x.it) ∧ IntGo B w m w' m' := by
  have hB := h.base_le
  have hst : comesSt s x.it = if x.it.shut = true then comesOver (comesHave s a) a else { comesHave s a with came := (comesHave s a).came ++ [x.it] } := by
    unfold comesSt
    rw [hxa]; rfl
  rw [hxa]
  have HST := Lib.hid hst
  clear hst
  obtain ⟨W, hW⟩ : ∃ W, W = w.alloc (.cells #[.int .i64 (a : Int), .int .i64 x.it.n, .int .i64 x.it.turn, .bool x.it.shut, .slice x.A x.it.ws.length x.c] 33) := ⟨_, rfl⟩
  have x0 : Ext w W := by rw [hW]; exact ext_alloc _ _
  have b0 : Blk W w.heap.size 33 #[.int .i64 (a : Int), .int .i64 x.it.n, .int .i64 x.it.turn, .bool x.it.shut, .slice x.A x.it.ws.length x.c] := by rw [hW]; exact Blk.new _ _ _
  have HI := h.ext x0
  have hgo : IntGo B w m W m := .of_ext x0 hB m
  have hx1 := hx.ext x0
  have hne : w.heap.size ≠ m.ga := fun e => by have := h.blk.lt; omega
  have hvg : m.vc.ownBlock ≠ some w.heap.size := fun e => by have := (h.own_lt (.inr (.inr (.inr e)))).2; omega
  have HW := Lib.hid hW
  clear hW h hx x0
  go_enter Try.func112, Try.ntmps112
  go_upto_region 1 with fail
  rw [← HW.out]
  clear HW
  obtain ⟨gx, hgx⟩ : ∃ gx, gx = w.heap.size := ⟨_, rfl⟩
  rw [← hgx] at b0 hne hvg ⊢
  clear hgx
  have r0 := b0.cell 0
  have r1 := HI.blk.cell (2 + a)
  rw [HI.hav a ha] at r1
  simp only [List.getElem?_toArray, List.getElem?_cons_zero, List.getElem?_cons_succ] at r0
  have y0 := fun x' (hx : Ext W x') => ext_cell hx r0
  have y1 := fun x' (hx : Ext W x') => ext_cell hx r1
  have fz := HI.blk.frozen
  have hwr : IntKind.i64.wrap (s.have_ a + 1) = s.have_ a + 1 := IntWalk.i64_in _ (by omega)
  clear r0 r1
  have HH := Lib.hid HI
  clear HI
  have q1 := y1 W.drew (ext_drewN W 1)
  have fzd := (HH.out.blk.ext (ext_drewN W 1)).frozen
  refine wp_region_planH3 (.reads 0 (.reads 1 (.reads 2 (.reads 3 (.reads 4 (.reads 5 (.reads 6 (.reads 7 (.reads 8 (.reads 9 (.reads 10 (.turns 11 (.done))))))))))))) (by kernel_rfl) (by kernel_rfl) (fun x' => Ext W x') (ext_drewN W 1) (fun ops HOPS => ?_)
  (refine segH_pure _ _ _ _ _ _ (hid_get HOPS 0 _ rfl) rfl wanted_none (fun _ _ _ _ h => h) ?_; intro K hK; go_big_quiet_op; go_big_quiet_on)
  (refine segH_pure _ _ _ _ _ _ (hid_get HOPS 1 _ rfl) rfl wanted_none (fun _ _ _ _ h => h) ?_; intro K hK; go_big_quiet_op; go_big_quiet_on)
  (refine segH_load _ _ _ _ _ _ _ _ _ (hid_get HOPS 2 _ rfl) wanted_none rfl (fun _ _ _ _ h => h) (fun y hy => by go_simp; try with_reducible rfl) ?_; simp only [Act.put, List.setIfInBounds_toArray, List.set_cons_zero, List.set_cons_succ])
  (refine segH_nil _ _ _ _ _ _ _ (hid_get HOPS 3 _ rfl) wanted_none rfl (fun _ _ _ _ h => h) ?_; simp only [Act.put, List.setIfInBounds_toArray, List.set_cons_zero, List.set_cons_succ])
  (refine segH_pure _ _ _ _ _ _ (hid_get HOPS 4 _ rfl) rfl wanted_none (fun _ _ _ _ h => h) ?_; intro K hK; go_big_quiet_op; go_big_quiet_on)
  (refine segH_pure _ _ _ _ _ _ (hid_get HOPS 5 _ rfl) rfl wanted_none (fun _ _ _ _ h => h) ?_; intro K hK; go_big_quiet_op; go_big_quiet_on)
  (refine segH_load _ _ _ _ _ _ _ _ _ (hid_get HOPS 6 _ rfl) wanted_none rfl (fun _ _ _ _ h => h) (fun y hy => by go_simp; try with_reducible rfl) ?_; simp only [Act.put, List.setIfInBounds_toArray, List.set_cons_zero, List.set_cons_succ])
  (refine segH_pure _ _ _ _ _ _ (hid_get HOPS 7 _ rfl) rfl wanted_none (fun _ _ _ _ h => h) ?_; intro K hK; go_big_quiet_op; go_big_quiet_on)
  (refine segH_nil _ _ _ _ _ _ _ (hid_get HOPS 8 _ rfl) wanted_none rfl (fun _ _ _ _ h => h) ?_; simp only [Act.put, List.setIfInBounds_toArray, List.set_cons_zero, List.set_cons_succ])
  (refine segH_pure _ _ _ _ _ _ (hid_get HOPS 9 _ rfl) rfl wanted_none (fun _ _ _ _ h => h) ?_; intro K hK; go_big_quiet_op; go_big_quiet_on)
  (refine segH_pure _ _ _ _ _ _ (hid_get HOPS 10 _ rfl) rfl wanted_none (fun _ _ _ _ h => h) ?_; intro K hK; go_big_quiet_op; go_big_quiet_on)
  refine segH_turns _ _ _ _ _ _ (hid_get HOPS 11 _ rfl) wanted_none (fun K hK => ?_)
  go_big_op
  refine hK _ _ (fun _ => True) trivial ?_
  clear hK
  refine seg_done ?_
  clear HOPS
  clear y0 y1 fz fzd q1 hwr
  have xd : Ext (W.setCell ⟨m.ga, 2 + a, none⟩ (.int .i64 (s.have_ a + 1))) (W.setCell ⟨m.ga, 2 + a, none⟩ (.int .i64 (s.have_ a + 1))).drew := ext_drewN _ 1
  obtain ⟨p1, p2⟩ := HH.out.putHave ha
  replace p1 := p1.ext xd
  have b1 := (b0.mods (mods_setCell W ⟨m.ga, 2 + a, none⟩ (.int .i64 (s.have_ a + 1))) hne).ext xd
  have hx2 := (hx1.keeps (keeps_ga HH.out (mods_setCell W ⟨m.ga, 2 + a, none⟩ (.int .i64 (s.have_ a + 1)))) (by decide)).ext xd
  have hgo2 := (hgo.trans p2).ext hB xd
  clear hx1 hgo HH p2 b0
  generalize (W.setCell ⟨m.ga, 2 + a, none⟩ (.int .i64 (s.have_ a + 1))).drew = w2 at p1 hgo2 b1 hx2 xd ⊢
  clear xd
  obtain ⟨m2, hm2, hm3, p1, hgo2⟩ : ∃ m2, m2.ga = m.ga ∧ m2.vc = m.vc ∧ IntAt w2 B A c rs lev m2 (comesHave s a) ∧ IntGo B w m w2 m2 := ⟨_, rfl, rfl, p1, hgo2⟩
  rw [← hm2] at hne ⊢
  rw [← hm3] at hvg
  clear hm2 hm3
  have b2 := b1
  have c3 := b1.cell 3
  simp only [List.getElem?_toArray, List.getElem?_cons_zero, List.getElem?_cons_succ] at c3
  have HP := Lib.hid p1
  have HG := Lib.hid hgo2
  have HB := Lib.hid b1
  have HX := Lib.hid hx2
  clear p1 hgo2 b1 b2 hx2
  cases hs : x.it.shut
  · rw [hs] at c3
    have HS := Lib.hid hs
    clear hs
    go_wp2
    go_upto_region 4 with fail
    have r0 := HB.out.cell 0
    have r1 := HB.out.cell 1
    have r2 := HB.out.cell 2
    have r3 := HB.out.cell 3
    have r4 := HB.out.cell 4
    have r5 := HP.out.blk.cell 16
    rw [HP.out.camc] at r5
    rw [HS.out] at r3
    simp only [List.getElem?_toArray, List.getElem?_cons_zero, List.getElem?_cons_succ] at r0 r1 r2 r3 r4
    obtain ⟨ys, hO, hys, hok⟩ := HP.out.came
    obtain ⟨A0, c0, hv⟩ := hO.form
    rw [hv] at r5 hO
    have hcap := hO.le_cap
    have hcl : ys.length < 1000000 := by
      rw [← its_length, hys]; exact hl
    have yb : ∀ x', Mods (fun k => m2.vc.ownBlock = some k) w2 x' → ∀ i, x'.cell? ⟨gx, i, none⟩ = w2.cell? ⟨gx, i, none⟩ := fun x' hx i => by rw [(HB.out.mods hx hvg).cell, HB.out.cell]
    have yg : ∀ x', Mods (fun k => m2.vc.ownBlock = some k) w2 x' → ∀ i, x'.cell? ⟨m2.ga, i, none⟩ = w2.cell? ⟨m2.ga, i, none⟩ := fun x' hx i => by rw [(HP.out.blk.mods hx HP.out.vc_ga).cell, HP.out.blk.cell]
    have y0 := fun x' hx => (yb x' hx 0).trans r0
    have y1 := fun x' hx => (yb x' hx 1).trans r1
    have y2 := fun x' hx => (yb x' hx 2).trans r2
    have y3 := fun x' hx => (yb x' hx 3).trans r3
    have y4 := fun x' hx => (yb x' hx 4).trans r4
    have y5 := fun x' hx => (yg x' hx 16).trans r5
    have HO := Lib.hid hO
    have HYS : Hid (its ys = s.came) := hys
    have HOK := Lib.hid hok
    have HV := Lib.hid hv
    clear r0 r1 r2 r3 r4 r5 c3 hO hys hok hv yb yg
    refine wp_region_planH3 (.reads 0 (.reads 1 (.reads 2 (.reads 3 (.reads 4 (.reads 5 (.reads 6 (.reads 7 (.reads 8 (.reads 9 (.reads 10 (.reads 11 (.reads 12 (.reads 13 (.reads 14 (.reads 15 (.reads 16 (.makes 17 (.makes 18 (.reads 19 (.reads 20 (.turns 21 (.done))))))))))))))))))))))) (by kernel_rfl) (by kernel_rfl) (fun x' => Mods (fun k => m2.vc.ownBlock = some k) w2 x') (Mods.of_below (ext_drewN w2 1) _) (fun ops HOPS => ?_)
    (refine segH_pure _ _ _ _ _ _ (hid_get HOPS 0 _ rfl) rfl wanted_none (fun _ _ _ _ h => h) ?_; intro K hK; go_big_quiet_op; go_big_quiet_on)
    (refine segH_pure _ _ _ _ _ _ (hid_get HOPS 1 _ rfl) rfl wanted_none (fun _ _ _ _ h => h) ?_; intro K hK; go_big_quiet_op; go_big_quiet_on)
    (refine segH_nil _ _ _ _ _ _ _ (hid_get HOPS 2 _ rfl) wanted_none rfl (fun _ _ _ _ h => h) ?_; simp only [Act.put, List.setIfInBounds_toArray, List.set_cons_zero, List.set_cons_succ])
    (refine segH_pure _ _ _ _ _ _ (hid_get HOPS 3 _ rfl) rfl wanted_none (fun _ _ _ _ h => h) ?_; intro K hK; go_big_quiet_op; go_big_quiet_on)
    (refine segH_load _ _ _ _ _ _ _ _ _ (hid_get HOPS 4 _ rfl) wanted_none rfl (fun _ _ _ _ h => h) (fun y hy => by go_simp; try with_reducible rfl) ?_; simp only [Act.put, List.setIfInBounds_toArray, List.set_cons_zero, List.set_cons_succ])
    (refine segH_pure _ _ _ _ _ _ (hid_get HOPS 5 _ rfl) rfl wanted_none (fun _ _ _ _ h => h) ?_; intro K hK; go_big_quiet_op; go_big_quiet_on)
    (refine segH_nil _ _ _ _ _ _ _ (hid_get HOPS 6 _ rfl) wanted_none rfl (fun _ _ _ _ h => h) ?_; simp only [Act.put, List.setIfInBounds_toArray, List.set_cons_zero, List.set_cons_succ])
    (refine segH_pure _ _ _ _ _ _ (hid_get HOPS 7 _ rfl) rfl wanted_none (fun _ _ _ _ h => h) ?_; intro K hK; go_big_quiet_op; go_big_quiet_on)
    (refine segH_load _ _ _ _ _ _ _ _ _ (hid_get HOPS 8 _ rfl) wanted_none rfl (fun _ _ _ _ h => h) (fun y hy => by go_simp; try with_reducible rfl) ?_; simp only [Act.put, List.setIfInBounds_toArray, List.set_cons_zero, List.set_cons_succ])
    (refine segH_pure _ _ _ _ _ _ (hid_get HOPS 9 _ rfl) rfl wanted_none (fun _ _ _ _ h => h) ?_; intro K hK; go_big_quiet_op; go_big_quiet_on)
    (refine segH_pure _ _ _ _ _ _ (hid_get HOPS 10 _ rfl) rfl wanted_none (fun _ _ _ _ h => h) ?_; intro K hK; go_big_quiet_op; go_big_quiet_on)
    (refine segH_nil _ _ _ _ _ _ _ (hid_get HOPS 11 _ rfl) wanted_none rfl (fun _ _ _ _ h => h) ?_; simp only [Act.put, List.setIfInBounds_toArray, List.set_cons_zero, List.set_cons_succ])
    (refine segH_pure _ _ _ _ _ _ (hid_get HOPS 12 _ rfl) rfl wanted_none (fun _ _ _ _ h => h) ?_; intro K hK; go_big_quiet_op; go_big_quiet_on)
    (refine segH_load _ _ _ _ _ _ _ _ _ (hid_get HOPS 13 _ rfl) wanted_none rfl (fun _ _ _ _ h => h) (fun y hy => by go_simp; try with_reducible rfl) ?_; simp only [Act.put, List.setIfInBounds_toArray, List.set_cons_zero, List.set_cons_succ])
    (refine segH_pure _ _ _ _ _ _ (hid_get HOPS 14 _ rfl) rfl wanted_none (fun _ _ _ _ h => h) ?_; intro K hK; go_big_quiet_op; go_big_quiet_on)
    (refine segH_pure _ _ _ _ _ _ (hid_get HOPS 15 _ rfl) rfl wanted_none (fun _ _ _ _ h => h) ?_; intro K hK; go_big_quiet_op; go_big_quiet_on)
    (refine segH_load _ _ _ _ _ _ _ _ _ (hid_get HOPS 16 _ rfl) wanted_none rfl (fun _ _ _ _ h => h) (fun y hy => by go_simp; try with_reducible rfl) ?_; simp only [Act.put, List.setIfInBounds_toArray, List.set_cons_zero, List.set_cons_succ])
    refine segH_makes _ _ _ _ _ _ (hid_get HOPS 17 _ rfl) wanted_none (fun K hK => ?_)
    go_big_op
    have xd : Ext w2 (w2.alloc (.cells (Iv.cells (⟨⟨(a : Int), x.it.n, x.it.turn, false, x.it.ws⟩, x.A, x.c⟩ : Iv)).toArray 33)).drew := ext_trans (ext_alloc _ _) (ext_drewN _ 1)
    have hsz : B ≤ (w2.alloc (.cells (Iv.cells (⟨⟨(a : Int), x.it.n, x.it.turn, false, x.it.ws⟩, x.A, x.c⟩ : Iv)).toArray 33)).drew.heap.size := Nat.le_trans hB (Nat.le_trans HG.out.below.size xd.size)
    have HBK := Lib.hid (RowsAt.ext (rows_block (E := elIv) (B := B) (⟨⟨(a : Int), x.it.n, x.it.turn, false, x.it.ws⟩, x.A, x.c⟩ : Iv) (Blk.new w2 33 (Iv.cells (⟨⟨(a : Int), x.it.n, x.it.turn, false, x.it.ws⟩, x.A, x.c⟩ : Iv)).toArray)) (ext_drewN _ 1))
    have hob : (Value.slice A0 ys.length ys.length).ownBlock = m2.vc.ownBlock := by rw [HV.out]; cases A0 <;> rfl
    have HXE : Hid ((⟨⟨(a : Int), x.it.n, x.it.turn, false, x.it.ws⟩, x.A, x.c⟩ : Iv).it = x.it) := by
      show _ = _
      rw [← hxa, ← HS.out]
    refine hK _ _ (fun x' => Mods (fun k => m2.vc.ownBlock = some k) w2 x') (Mods.of_below xd _) (fun _ h => h) ?_
    clear hK
    refine segH_makes _ _ _ _ _ _ (hid_get HOPS 18 _ rfl) wanted_none (fun K hK => ?_)
    refine wp_append_off elIv _ _ rfl B (.slice A0 ys.length ys.length) ys rfl (HO.out.cut.ext xd) ⟨w2.heap.size, 0, none⟩ 1 [(⟨⟨(a : Int), x.it.n, x.it.turn, false, x.it.ws⟩, x.A, x.c⟩ : Iv)] rfl B HBK.out (by simp) (by show _ * 56 ≤ _; simp; omega) (by simp [maxLen]; omega) hsz ?_
    intro v3 w3 hoff hg3 hat
    obtain ⟨A3, c3', rfl⟩ := hoff.form
    rw [hob] at hg3 hat
    have MS : Mods (fun k => m2.vc.ownBlock = some k) w2 w3 := (Mods.of_below xd _).trans (Mods.grown hg3) (fun k hk h => h)
    have hk3 : Keeps B [33] w2 w3 := Keeps.of_mods MS fun i hi => by
      obtain ⟨g1, cur, g2⟩ := HP.out.vc_blk hi
      refine ⟨g1, fun cs t fr hk => ?_⟩
      unfold Blk at g2
      rw [g2] at hk
      injection hk with hk
      injection hk with _ hk
      simp [← hk]
    have hx3 := HX.out.keeps hk3 (by decide)
    obtain ⟨p1, p2⟩ := HP.out.storeCame MS hoff (fun y hy => by
      rcases List.mem_append.1 hy with hy | hy
      · exact (HOK.out y hy).keeps hk3 (by decide)
      · have e1 : y = (⟨⟨(a : Int), x.it.n, x.it.turn, false, x.it.ws⟩, x.A, x.c⟩ : Iv) := by simpa using hy
        subst e1
        exact ⟨hx3.at_, hx3.wr, hx3.len⟩) (by simp; omega) (fun b hb => by
      rcases hat with h5 | h5
      · exact .inl (by rw [← h5]; exact hb)
      · right
        rw [h5] at hb
        exact Nat.le_trans xd.size (Nat.le_of_eq (Option.some.inj hb))) { comesHave s a with came := s.came ++ [x.it] } ⟨rfl, rfl, rfl, rfl, rfl⟩ (by rw [its_append, HYS.out]; show s.came ++ [(⟨⟨(a : Int), x.it.n, x.it.turn, false, x.it.ws⟩, x.A, x.c⟩ : Iv).it] = _; rw [HXE.out])
    have q1 := y5 w3 MS
    have fz := (HP.out.blk.mods MS HP.out.vc_ga).frozen
    have hgo := HG.out.trans p2
    refine hK _ _ (fun x' => Mods (fun k => m2.vc.ownBlock = some k) w2 x') MS (fun _ h => h) ?_
    clear hK
    simp only [Act.put, List.setIfInBounds_toArray, List.set_cons_zero, List.set_cons_succ]
    (refine segH_nil _ _ _ _ _ _ _ (hid_get HOPS 19 _ rfl) wanted_none rfl (fun _ _ _ _ h => h) ?_; simp only [Act.put, List.setIfInBounds_toArray, List.set_cons_zero, List.set_cons_succ])
    (refine segH_pure _ _ _ _ _ _ (hid_get HOPS 20 _ rfl) rfl wanted_none (fun _ _ _ _ h => h) ?_; intro K hK; go_big_quiet_op; go_big_quiet_on)
    refine segH_turns _ _ _ _ _ _ (hid_get HOPS 21 _ rfl) wanted_none (fun K hK => ?_)
    go_big_op
    refine hK _ _ (fun _ => True) trivial ?_
    clear hK
    refine seg_done ?_
    clear HOPS
    have HF : Hid (∃ m', IntAt (w3.setCell ⟨m2.ga, 16, none⟩ (.slice A3 (ys ++ [(⟨⟨(a : Int), x.it.n, x.it.turn, false, x.it.ws⟩, x.A, x.c⟩ : Iv)]).length c3')) B A c rs lev m' (comesSt s x.it) ∧ IntGo B w m (w3.setCell ⟨m2.ga, 16, none⟩ (.slice A3 (ys ++ [(⟨⟨(a : Int), x.it.n, x.it.turn, false, x.it.ws⟩, x.A, x.c⟩ : Iv)]).length c3')) m') := by
      rw [HST.out, if_neg (by rw [HS.out]; exact Bool.false_ne_true)]
      exact ⟨_, p1, hgo⟩
    clear p1 p2 hgo q1 fz y0 y1 y2 y3 y4 y5
    go_wp2
    (try simp only [Exit.inBlock, Exit.then])
    refine bodyPost_end (results_none rfl _ _ _) rfl ?_
    refine ⟨rfl, ?_⟩
    have hF := HF.out
    simp only [List.length_append, List.length_singleton] at hF
    exact hF
  · rw [hs] at c3
    have HS := Lib.hid hs
    clear hs
    go_upto_region 3 with fail
    have r0 := HB.out.cell 0
    have r1 := HP.out.blk.cell (8 + a)
    rw [HP.out.ovr a ha] at r1
    simp only [List.getElem?_toArray, List.getElem?_cons_zero, List.getElem?_cons_succ] at r0
    have y0 := fun x' (hx : Ext w2 x') => ext_cell hx r0
    have y1 := fun x' (hx : Ext w2 x') => ext_cell hx r1
    have q1 := y1 w2.drew (ext_drewN w2 1)
    have fzd := HP.out.blk.frozen
    have hwr : IntKind.i64.wrap (s.over a + 1) = s.over a + 1 := IntWalk.i64_in _ (by omega)
    rw [show (comesHave s a).over a = s.over a from rfl] at y1 q1
    clear r0 r1 c3
    refine wp_region_planH3 (.reads 0 (.reads 1 (.reads 2 (.reads 3 (.reads 4 (.reads 5 (.reads 6 (.reads 7 (.reads 8 (.reads 9 (.reads 10 (.turns 11 (.done))))))))))))) (by kernel_rfl) (by kernel_rfl) (fun x' => Ext w2 x') (ext_drewN w2 1) (fun ops HOPS => ?_)
    (refine segH_pure _ _ _ _ _ _ (hid_get HOPS 0 _ rfl) rfl wanted_none (fun _ _ _ _ h => h) ?_; intro K hK; go_big_quiet_op; go_big_quiet_on)
    (refine segH_pure _ _ _ _ _ _ (hid_get HOPS 1 _ rfl) rfl wanted_none (fun _ _ _ _ h => h) ?_; intro K hK; go_big_quiet_op; go_big_quiet_on)
    (refine segH_load _ _ _ _ _ _ _ _ _ (hid_get HOPS 2 _ rfl) wanted_none rfl (fun _ _ _ _ h => h) (fun y hy => by go_simp; try with_reducible rfl) ?_; simp only [Act.put, List.setIfInBounds_toArray, List.set_cons_zero, List.set_cons_succ])
    (refine segH_nil _ _ _ _ _ _ _ (hid_get HOPS 3 _ rfl) wanted_none rfl (fun _ _ _ _ h => h) ?_; simp only [Act.put, List.setIfInBounds_toArray, List.set_cons_zero, List.set_cons_succ])
    (refine segH_pure _ _ _ _ _ _ (hid_get HOPS 4 _ rfl) rfl wanted_none (fun _ _ _ _ h => h) ?_; intro K hK; go_big_quiet_op; go_big_quiet_on)
    (refine segH_pure _ _ _ _ _ _ (hid_get HOPS 5 _ rfl) rfl wanted_none (fun _ _ _ _ h => h) ?_; intro K hK; go_big_quiet_op; go_big_quiet_on)
    (refine segH_load _ _ _ _ _ _ _ _ _ (hid_get HOPS 6 _ rfl) wanted_none rfl (fun _ _ _ _ h => h) (fun y hy => by go_simp; try with_reducible rfl) ?_; simp only [Act.put, List.setIfInBounds_toArray, List.set_cons_zero, List.set_cons_succ])
    (refine segH_pure _ _ _ _ _ _ (hid_get HOPS 7 _ rfl) rfl wanted_none (fun _ _ _ _ h => h) ?_; intro K hK; go_big_quiet_op; go_big_quiet_on)
    (refine segH_nil _ _ _ _ _ _ _ (hid_get HOPS 8 _ rfl) wanted_none rfl (fun _ _ _ _ h => h) ?_; simp only [Act.put, List.setIfInBounds_toArray, List.set_cons_zero, List.set_cons_succ])
    (refine segH_pure _ _ _ _ _ _ (hid_get HOPS 9 _ rfl) rfl wanted_none (fun _ _ _ _ h => h) ?_; intro K hK; go_big_quiet_op; go_big_quiet_on)
    (refine segH_pure _ _ _ _ _ _ (hid_get HOPS 10 _ rfl) rfl wanted_none (fun _ _ _ _ h => h) ?_; intro K hK; go_big_quiet_op; go_big_quiet_on)
    refine segH_turns _ _ _ _ _ _ (hid_get HOPS 11 _ rfl) wanted_none (fun K hK => ?_)
    go_big_op
    refine hK _ _ (fun _ => True) trivial ?_
    clear hK
    refine seg_done ?_
    clear HOPS
    obtain ⟨p1, p2⟩ := HP.out.putOver ha
    have xd2 : Ext (w2.setCell ⟨m2.ga, 8 + a, none⟩ (.int .i64 (s.over a + 1))) (w2.setCell ⟨m2.ga, 8 + a, none⟩ (.int .i64 (s.over a + 1))).drew := ext_drewN _ 1
    replace p1 := p1.ext xd2
    have hg3 := (HG.out.trans p2).ext hB xd2
    clear y0 y1 fzd q1 hwr
    have HF : Hid (∃ m', IntAt (w2.setCell ⟨m2.ga, 8 + a, none⟩ (.int .i64 (s.over a + 1))).drew B A c rs lev m' (comesSt s x.it) ∧ IntGo B w m (w2.setCell ⟨m2.ga, 8 + a, none⟩ (.int .i64 (s.over a + 1))).drew m') := by
      rw [HST.out, if_pos HS.out]
      exact ⟨_, p1, hg3⟩
    clear p1 p2 hg3
    go_wp2
    (try simp only [Exit.inBlock, Exit.then])
    refine bodyPost_ret (results_none rfl _ _ _) rfl ?_
    exact ⟨rfl, HF.out⟩
end
end Go.Proofs.Ytdknkbpgkkakhaa

/- Layer 20: holds, lets. -/
namespace Go.Proofs.Ytdknkbpgkkakhaa
open Go.RowKit Go.Maps
open Go.ChangeMaps (setBlock)

section
variable {P : Program} {ops : Array Oper} {Q : Exit → Act → World → Prop} {a : Act} {w : World}
theorem semOps_drop (k : Nat) (h : wpList P ops Q (ops.toList.drop k) a w) : SemOps P ops Q (List.range' k (ops.size - k)) a w :=
  semOps_of (by
    have e := wpOps_eq_wpList (P := P) (Q := Q) (ops := ops) (ops.toList.drop k) k (fun j => by rw [List.getElem?_drop]; simp)
    rw [List.length_drop, Array.length_toList] at e
    rw [e]; exact h)
end
section
variable {w w' : World} {B : Nat} {A : Option Addr} {c : Nat} {rs : List Rw} {lev : Int} {m : IntMem} {s : IntSt}
theorem keeps_held (h : IntAt w B A c rs lev m s) (k : Mods (fun g => g = m.mo ∨ g = m.pc) w w') (T : List TypeId) : Keeps B T w w' := Keeps.of_mods k fun i hi => by
  rcases hi with rfl | rfl
  · refine ⟨h.base.2.1, fun cs t fr hk => ?_⟩
    obtain ⟨es, clock, h1, _⟩ := h.map
    rw [hk] at h1; cases h1
  · refine ⟨h.base.2.2, fun cs t fr hk => ?_⟩
    obtain ⟨_, _, _, h1, _⟩ := h.chan
    rw [hk] at h1; cases h1
/-- The map and the channel are turned. -/
theorem IntAt.turn (h : IntAt w B A c rs lev m s) (k : Mods (fun g => g = m.mo ∨ g = m.pc) w w') {n : Nat} {fh : Int × Int → Option Value} (hm : MapN Try.prog 143 wayV w' m.mo n fh) (hc : ChanIs w' m.pc 40 n) (hn : n ≤ 40) (s' : IntSt)
    (he : s'.have_ = s.have_ ∧ s'.over = s.over ∧ s'.came = s.came ∧ s'.first = s.first ∧ s'.cnt = n) (hh : ∀ x, HeldOk w' B (fh x) (s'.held x)) :
    IntAt w' B A c rs lev { m with fh := fh } s' ∧ IntGo B w m w' { m with fh := fh } := by
  obtain ⟨e1, e2, e3, e4, e5⟩ := he
  have hk := keeps_held h k []
  have km : Mods (IntOwn m) w w' := k.mono fun i hi => hi.elim (fun e => .inr (.inl e)) (fun e => .inr (.inr (.inl e)))
  refine ⟨⟨h.base, h.apart, h.blk.mods k (fun e => e.elim h.ga_mo h.ga_pc), h.size, h.lat, h.lev_, by rw [e1]; exact h.hav, by rw [e2]; exact h.ovr, h.mapc, h.chac, h.camc, by rw [e4]; exact h.firc, by rw [e5]; exact hm, by rw [e5]; exact hc, hh, ?_, h.mat.keeps hk (by simp) (by simp), by rw [e5]; exact hn, by rw [e3]; exact h.camelen⟩,
    ⟨km.below h.base_le (fun g hg => (h.own_lt hg).1), km, fun g hg => .inl hg, rfl⟩⟩
  rw [e3]
  obtain ⟨ys, h1, h2, h3⟩ := h.came
  exact ⟨ys, h1.mods k (fun b hb e => e.elim (fun e => h.vc_mo (by rw [hb, e])) (fun e => h.vc_pc (by rw [hb, e]))), h2, fun y hy => (h3 y hy).keeps hk (by simp)⟩

def holdsN (s : IntSt) : Nat := if s.cnt < 40 then 0 else 25
def holdsSt (s : IntSt) (x : It) : IntSt := if s.cnt < 40 then { s with held := fun y => if y = (x.level, x.n) then some x else s.held y, cnt := s.cnt + 1 } else s
set_option maxRecDepth 100000 in
set_option maxHeartbeats 4000000 in
theorem intHolds_any (h : IntAt w B A c rs lev m s) (x : Iv) (hx : IvOk w B x) (h1 : wf64 x.it.level) (h2 : wf64 x.it.n) (hnew : s.held (x.it.level, x.it.n) = none) :
    Calls Try.prog 103 #[.pointer (some ⟨m.ga, 0, none⟩), .agg #[.int .i64 x.it.level, .int .i64 x.it.n, .int .i64 x.it.turn, .bool x.it.shut, .slice x.A x.it.ws.length x.c]] w
      fun e w' => e = .returned (.int .i64 (holdsN s : Int)) ∧ ∃ m', IntAt w' B A c rs lev m' (holdsSt s x.it) ∧ IntGo B w m w' m' := by
  have hB := h.base_le
  obtain ⟨W, hW⟩ : ∃ W, W = (w.alloc (.cells #[.int .i64 x.it.level, .int .i64 x.it.n, .int .i64 x.it.turn, .bool x.it.shut, .slice x.A x.it.ws.length x.c] 33)).alloc (.cells #[.int .i64 x.it.level, .int .i64 x.it.n] 143) := ⟨_, rfl⟩
  have x0 : Ext w W := by rw [hW]; exact ext_trans (ext_alloc _ _) (ext_alloc _ _)
  have b0 : Blk W w.heap.size 33 #[.int .i64 x.it.level, .int .i64 x.it.n, .int .i64 x.it.turn, .bool x.it.shut, .slice x.A x.it.ws.length x.c] := by rw [hW]; exact (Blk.new _ _ _).ext (ext_alloc _ _)
  have b1 : Blk W (w.heap.size + 1) 143 #[.int .i64 x.it.level, .int .i64 x.it.n] := by
    rw [hW]
    have := Blk.new (w.alloc (.cells #[.int .i64 x.it.level, .int .i64 x.it.n, .int .i64 x.it.turn, .bool x.it.shut, .slice x.A x.it.ws.length x.c] 33)) 143 #[.int .i64 x.it.level, .int .i64 x.it.n]
    simpa using this
  have HI := h.ext x0
  have hgo : IntGo B w m W m := .of_ext x0 hB m
  have hx1 := hx.ext x0
  have HW := Lib.hid hW
  have c15 := HI.blk.cell 15
  rw [HI.chac] at c15
  clear hW h hx x0
  go_enter Try.func103, Try.ntmps103
  go_upto_region 2 with fail
  rw [← HW.out]
  clear HW
  obtain ⟨gx, hgx⟩ : ∃ gx, gx = w.heap.size := ⟨_, rfl⟩
  rw [← hgx] at b0 b1 ⊢
  clear hgx
  have c0 := b1.cell 0
  have c1 := b1.cell 1
  simp only [List.getElem?_toArray, List.getElem?_cons_zero, List.getElem?_cons_succ] at c0 c1
  go_upto_region 4 with fail
  obtain ⟨buf, s1, r1, hbuf, hsz⟩ := HI.chan
  by_cases hc : s.cnt < 40
  · refine sem_region ?_
    show SemOps _ _ _ [0, 1, 2] _ _
    refine sem_sel_room (v := .agg #[.int .i64 x.it.level, .int .i64 x.it.n]) (z := .agg #[.int .i64 0, .int .i64 0]) rfl rfl (by kernel_rfl) hbuf (by omega) ?_
    refine semOps_drop 1 ?_
    simp only [List.drop_succ_cons, List.drop_zero, Act.put, List.getElem_toArray, List.getElem_cons_zero, List.getElem_cons_succ, List.setIfInBounds_toArray, List.set_cons_zero, List.set_cons_succ]
    go_wp2_with fail
    obtain ⟨W2, hW2⟩ : ∃ W2, W2 = W.setChan m.pc 40 (buf.push (.agg #[.int .i64 x.it.level, .int .i64 x.it.n])) false (s1 + 1) r1 false := ⟨_, rfl⟩
    have k1 : Mods (fun k => k = m.pc) W W2 := by rw [hW2]; exact mods_setChan _ _ _ _ _ _
    have hch : ChanIs W2 m.pc 40 (s.cnt + 1) := by
      have := chan_set W HI.chan.lt 40 (buf.push (.agg #[.int .i64 x.it.level, .int .i64 x.it.n])) (s1 + 1) r1
      rw [Array.size_push, hsz] at this
      rw [hW2]; exact this
    rw [← hW2]
    have d0 := b0.mods k1 (HI.chan.not_blk b0)
    have d1 := b1.mods k1 (HI.chan.not_blk b1)
    have d2 := HI.blk.mods k1 HI.ga_pc
    have hm2 := HI.map.mods k1 HI.apart
    have hx2 := hx1.keeps (keeps_held HI (k1.mono fun _ e => .inr e) []) (by simp)
    have r0 := d0.cell 0
    have r1' := d0.cell 1
    have r2 := d0.cell 2
    have r3 := d0.cell 3
    have r4 := d0.cell 4
    have r5 := d1.cell 0
    have r6 := d1.cell 1
    have r7 := d2.cell 14
    rw [HI.mapc] at r7
    simp only [List.getElem?_toArray, List.getElem?_cons_zero, List.getElem?_cons_succ] at r0 r1' r2 r3 r4 r5 r6
    have y0 := fun x' (hx : Ext W2 x') => ext_cell hx r0
    have y1 := fun x' (hx : Ext W2 x') => ext_cell hx r1'
    have y2 := fun x' (hx : Ext W2 x') => ext_cell hx r2
    have y3 := fun x' (hx : Ext W2 x') => ext_cell hx r3
    have y4 := fun x' (hx : Ext W2 x') => ext_cell hx r4
    have y5 := fun x' (hx : Ext W2 x') => ext_cell hx r5
    have y6 := fun x' (hx : Ext W2 x') => ext_cell hx r6
    have y7 := fun x' (hx : Ext W2 x') => ext_cell hx r7
    have HIH := Lib.hid HI
    have HC := Lib.hid hc
    have HB0 := Lib.hid hB
    have hnew' : m.fh (x.it.level, x.it.n) = none := by
      rcases HI.helds (x.it.level, x.it.n) with h | ⟨y, _, h, _⟩
      · exact h.1
      · rw [hnew] at h; cases h
    clear hW2 hbuf hsz r0 r1' r2 r3 r4 r5 r6 r7 c0 c1 c15 d0 d1 d2 hx1 HI hc hB
    refine wp_region_planH3 (.reads 0 (.reads 1 (.reads 2 (.reads 3 (.reads 4 (.reads 5 (.makes 6 (.turns 7 (.done))))))))) (by kernel_rfl) (by kernel_rfl) (fun x' => Ext W2 x') (ext_drewN W2 1) (fun ops HOPS => ?_)
    (refine segH_pure _ _ _ _ _ _ (hid_get HOPS 0 _ rfl) rfl wanted_none (fun _ _ _ _ h => h) ?_; intro K hK; go_big_quiet_op; go_big_quiet_on)
    (refine segH_nil _ _ _ _ _ _ _ (hid_get HOPS 1 _ rfl) wanted_none rfl (fun _ _ _ _ h => h) ?_; simp only [Act.put, List.setIfInBounds_toArray, List.set_cons_zero, List.set_cons_succ])
    (refine segH_pure _ _ _ _ _ _ (hid_get HOPS 2 _ rfl) rfl wanted_none (fun _ _ _ _ h => h) ?_; intro K hK; go_big_quiet_op; go_big_quiet_on)
    (refine segH_load _ _ _ _ _ _ _ _ _ (hid_get HOPS 3 _ rfl) wanted_none rfl (fun _ _ _ _ h => h) (fun y hy => by go_simp; try with_reducible rfl) ?_; simp only [Act.put, List.setIfInBounds_toArray, List.set_cons_zero, List.set_cons_succ])
    (refine segH_load _ _ _ _ _ _ _ _ _ (hid_get HOPS 4 _ rfl) wanted_none rfl (fun _ _ _ _ h => h) (fun y hy => by go_simp; try with_reducible rfl) ?_; simp only [Act.put, List.setIfInBounds_toArray, List.set_cons_zero, List.set_cons_succ])
    (refine segH_load _ _ _ _ _ _ _ _ _ (hid_get HOPS 5 _ rfl) wanted_none rfl (fun _ _ _ _ h => h) (fun y hy => by go_simp; try with_reducible rfl) ?_; simp only [Act.put, List.setIfInBounds_toArray, List.set_cons_zero, List.set_cons_succ])
    refine segH_makes _ _ _ _ _ _ (hid_get HOPS 6 _ rfl) wanted_none (fun K hK => ?_)
    go_big_op
    refine (itemCopy_any x.it x.A x.c _ B (hx2.at_.ext (ext_drewN W2 1)) (by have := hx2.len; omega)).mono ?_
    rintro e w3 ⟨A3, c3, rfl, hW3, y⟩
    have P3 : Ext W2 w3 := ext_trans (ext_drewN W2 1) y
    have hm3 := hm2.ext P3
    obtain ⟨l, hl⟩ := key143 (x := (x.it.level, x.it.n)) h1 h2
    obtain ⟨o, hrun, hmN⟩ := hm3.store keyed143 ul137 wayV_inj hl hnew' (.agg (Iv.cells ⟨x.it, A3, c3⟩).toArray)
    have hrun' : (Instr.mapUpdate 137 (.map (some m.mo)) (.agg #[.int .i64 x.it.level, .int .i64 x.it.n]) (.agg #[.int .i64 x.it.level, .int .i64 x.it.n, .int .i64 x.it.turn, .bool x.it.shut, .slice A3 x.it.ws.length c3])).run Try.prog w3 = .ok () (setBlock w3 m.mo o) := hrun
    have k4 : Mods (fun k => k = m.mo) w3 (setBlock w3 m.mo o) := mods_setBlock _ _ _
    have hk4 : Keeps B [] w3 (setBlock w3 m.mo o) := Keeps.of_mods k4 fun i hi => by
      subst hi
      refine ⟨HIH.out.base.2.1, fun cs t fr hk => ?_⟩
      obtain ⟨es, clock, g1, _⟩ := hm3
      rw [hk] at g1; cases g1
    have km : Mods (fun g => g = m.mo ∨ g = m.pc) W (setBlock w3 m.mo o) := ((k1.mono (fun _ e => .inr e)).trans (Mods.of_below P3 (fun _ => False)) (fun _ _ e => e.elim)).trans k4 (fun _ _ e => .inl e)
    obtain ⟨p1, p2⟩ := HIH.out.turn km hmN ((hch.ext P3).mods k4 (fun e => HIH.out.apart e.symm)) HC.out { s with held := fun y => if y = (x.it.level, x.it.n) then some x.it else s.held y, cnt := s.cnt + 1 } ⟨rfl, rfl, rfl, rfl, rfl⟩ (fun z => by
      by_cases hz : z = (x.it.level, x.it.n)
      · rw [if_pos hz]
        refine .inr ⟨⟨x.it, A3, c3⟩, rfl, if_pos hz, ⟨RowsAt.keeps hW3 hk4 (by simp), hx2.wr, hx2.len⟩⟩
      · rw [if_neg hz]
        have e : (if z = (x.it.level, x.it.n) then some x.it else s.held z) = s.held z := if_neg hz
        show HeldOk _ _ _ (if z = (x.it.level, x.it.n) then some x.it else s.held z)
        rw [e]
        exact (HIH.out.helds z).keeps (keeps_held HIH.out km []) (by simp))
    have HF : Hid (holdsN s = 0 ∧ ∃ m', IntAt (setBlock w3 m.mo o) B A c rs lev m' (holdsSt s x.it) ∧ IntGo B w m (setBlock w3 m.mo o) m') :=
      ⟨if_pos HC.out, _, by rw [holdsSt, if_pos HC.out]; exact p1, hgo.trans p2⟩
    refine hK _ _ (fun x' => Ext W2 x') P3 (fun _ h => h) ?_
    clear hK y p1 p2 hm2 hm3 hmN k4 hk4 km
    clear hrun
    refine segH_turns _ _ _ _ _ _ (hid_get HOPS 7 _ rfl) wanted_none (fun K hK => ?_)
    go_big_op
    refine hK _ _ (fun _ => True) trivial ?_
    clear hK
    refine seg_done ?_
    clear HOPS
    clear y0 y1 y2 y3 y4 y5 y6 y7 hrun'
    go_wp2
    go_ret
    exact ⟨by rw [HF.out.1]; rfl, HF.out.2⟩
  · refine sem_region ?_
    show SemOps _ _ _ [0, 1, 2] _ _
    refine sem_sel_full (v := .agg #[.int .i64 x.it.level, .int .i64 x.it.n]) (z := .agg #[.int .i64 0, .int .i64 0]) rfl rfl (by kernel_rfl) hbuf (by omega) ?_
    refine semOps_drop 1 ?_
    simp only [List.drop_succ_cons, List.drop_zero, Act.put, List.getElem_toArray, List.getElem_cons_zero, List.getElem_cons_succ, List.setIfInBounds_toArray, List.set_cons_zero, List.set_cons_succ]
    go_wp2_with fail
    have HF : Hid (holdsN s = 25 ∧ holdsSt s x.it = s) := ⟨if_neg hc, if_neg hc⟩
    have HG : Hid (IntAt W B A c rs lev m s ∧ IntGo B w m W m) := ⟨HI, hgo⟩
    clear HI hgo hbuf hsz c15 c0 c1
    go_wp2
    go_ret
    exact ⟨by rw [HF.out.1]; rfl, m, by rw [HF.out.2]; exact HG.out.1, HG.out.2⟩
end
end Go.Proofs.Ytdknkbpgkkakhaa

/- Layer 20: lets. -/
namespace Go.Proofs.Ytdknkbpgkkakhaa
open Go.RowKit Go.Maps
open Go.ChangeMaps (setBlock)

section
variable {P : Program} {ops : Array Oper} {Q : Exit → Act → World → Prop} {S : World → Prop} {i : Nat} {p : Plan} {a : Act} {w : World}
theorem segH_lookup (dst : Option Tmp) (t : TypeId) (x k : Operand) (ok : Bool) (ty : TypeId) (pos : String) (after : Array Edge) (guard : Option (Nat × Bool)) (mv kvv v : Value) (ho : ops[i]? = some ⟨dst, .lookup t x k ok, ty, pos, after, guard⟩) (hw : Region.wanted ⟨dst, .lookup t x k ok, ty, pos, after, guard⟩ (yielded ops a.tmps) = true)
    (hx : a.eval x = mv) (hk : a.eval k = kvv) (hQ : ∀ v c a w, Q (.panic c) (a.put dst v) w → Q (.panic c) a w)
    (hr : ∀ y, S y → (Instr.lookup t mv kvv ok).run P y = .ok v y) (h : wpSeg P ops Q p S (a.put dst v) w) : wpSeg P ops Q (.reads i p) S a w := by
  refine ⟨_, v, ho, .inl ⟨hw, fun y hy => ?_⟩, hQ v, h⟩
  have := hr y hy
  simp only [execOp, hx, hk, Sem.run_bind, this, Result.andThen_ok, Sem.run_pure]
end

/-- Five cells of one block written anew. -/
theorem blk_set5 {w : World} {g : Nat} {t : TypeId} {u0 u1 u2 u3 u4 : Value} (h : Blk w g t #[u0, u1, u2, u3, u4]) (v0 v1 v2 v3 v4 : Value) :
    Blk (((((w.setCell ⟨g, 0, none⟩ v0).setCell ⟨g, 1, none⟩ v1).setCell ⟨g, 2, none⟩ v2).setCell ⟨g, 3, none⟩ v3).setCell ⟨g, 4, none⟩ v4) g t #[v0, v1, v2, v3, v4] := by
  have := ((((h.set_ 0 v0).set_ 1 v1).set_ 2 v2).set_ 3 v3).set_ 4 v4
  simpa using this
theorem mods_set5 (w : World) (g : Nat) (v0 v1 v2 v3 v4 : Value) :
    Mods (fun k => k = g) w (((((w.setCell ⟨g, 0, none⟩ v0).setCell ⟨g, 1, none⟩ v1).setCell ⟨g, 2, none⟩ v2).setCell ⟨g, 3, none⟩ v3).setCell ⟨g, 4, none⟩ v4) :=
  ((((mods_setCell w ⟨g, 0, none⟩ v0).trans (mods_setCell _ ⟨g, 1, none⟩ v1) (fun _ _ h => h)).trans (mods_setCell _ ⟨g, 2, none⟩ v2) (fun _ _ h => h)).trans (mods_setCell _ ⟨g, 3, none⟩ v3) (fun _ _ h => h)).trans (mods_setCell _ ⟨g, 4, none⟩ v4) (fun _ _ h => h)
section
variable {w w' : World} {B : Nat} {A : Option Addr} {c : Nat} {rs : List Rw} {lev : Int} {m : IntMem} {s : IntSt}
/-- A block beside the intake is turned. -/
theorem IntAt.beside (h : IntAt w B A c rs lev m s) {g : Nat} {cs : Array Value} (hb : Blk w g 33 cs) (hB : B ≤ g) (hg : ¬ IntOwn m g) (k : Mods (fun i => i = g) w w') : IntAt w' B A c rs lev m s := by
  refine h.mods k (fun i e => by subst e; exact hg) (T := [33]) (Keeps.of_mods k fun i hi => ?_) (by decide) (by decide) (by decide)
  subst hi
  refine ⟨hB, fun cs' t fr hk => ?_⟩
  unfold Blk at hb
  rw [hb] at hk
  injection hk with hk
  injection hk with _ hk
  simp [← hk]
theorem IntGo.beside {w1 w2 : World} {m1 : IntMem} (h : IntGo B w m w1 m1) (hB : B ≤ w.heap.size) {g : Nat} (hg : w.heap.size ≤ g) (k : Mods (fun i => i = g) w1 w2) : IntGo B w m w2 m1 :=
  ⟨h.below.trans (k.below (Nat.le_trans hB h.below.size) (fun i e => by subst e; omega)), h.mods.trans k (fun i hi e => by subst e; omega), h.sub, h.ga⟩
def letsSt (s : IntSt) (k : Int × Int) : IntSt := { s with held := fun y => if y = k then none else s.held y, cnt := if (s.held k).isSome = true then s.cnt - 1 else s.cnt }
/-- What lets answers: the item's cells and whether there was one. -/
def LetsPost (w : World) (B : Nat) (A : Option Addr) (c : Nat) (rs : List Rw) (lev : Int) (m : IntMem) (s : IntSt) (k : Int × Int) (e : Ending) (w' : World) : Prop :=
  ((s.held k = none ∧ e = .returned (.tuple #[.agg #[.int .i64 0, .int .i64 0, .int .i64 0, .bool false, .slice none 0 0], .bool false])) ∨
    ∃ y : Iv, s.held k = some y.it ∧ e = .returned (.tuple #[.agg y.cells.toArray, .bool true]) ∧ IvOk w' B y) ∧
  ∃ m', IntAt w' B A c rs lev m' (letsSt s k) ∧ IntGo B w m w' m'
set_option maxRecDepth 100000 in
set_option maxHeartbeats 4000000 in
theorem intLets_any (h : IntAt w B A c rs lev m s) {a b : Int} (h1 : wf64 a) (h2 : wf64 b) :
    Calls Try.prog 113 #[.pointer (some ⟨m.ga, 0, none⟩), .agg #[.int .i64 a, .int .i64 b]] w (LetsPost w B A c rs lev m s (a, b)) := by
  have hB := h.base_le
  obtain ⟨W, hW⟩ : ∃ W, W = (w.alloc (.cells #[.int .i64 a, .int .i64 b] 143)).alloc (.cells #[.int .i64 0, .int .i64 0, .int .i64 0, .bool false, .slice none 0 0] 33) := ⟨_, rfl⟩
  have x0 : Ext w W := by rw [hW]; exact ext_trans (ext_alloc _ _) (ext_alloc _ _)
  have b0 : Blk W w.heap.size 143 #[.int .i64 a, .int .i64 b] := by rw [hW]; exact (Blk.new _ _ _).ext (ext_alloc _ _)
  have b1 : Blk W (w.heap.size + 1) 33 #[.int .i64 0, .int .i64 0, .int .i64 0, .bool false, .slice none 0 0] := by
    rw [hW]
    have := Blk.new (w.alloc (.cells #[.int .i64 a, .int .i64 b] 143)) 33 #[.int .i64 0, .int .i64 0, .int .i64 0, .bool false, .slice none 0 0]
    simpa using this
  have HI0 := h
  have HI := h.ext x0
  have hgo : IntGo B w m W m := .of_ext x0 hB m
  have HW := Lib.hid hW
  clear hW h x0
  go_enter Try.func113, Try.ntmps113
  go_upto_region 1 with fail
  rw [← HW.out]
  clear HW
  obtain ⟨gx, hgx⟩ : ∃ gx, gx = w.heap.size := ⟨_, rfl⟩
  rw [← hgx] at b0 b1 ⊢
  have hgw : w.heap.size ≤ gx := Nat.le_of_eq hgx.symm
  have hown : ¬ IntOwn m (gx + 1) := fun e => by have := (HI0.own_lt e).2; omega
  clear hgx
  have r0 := b0.cell 0
  have r1 := b0.cell 1
  have r2 := HI.blk.cell 14
  rw [HI.mapc] at r2
  simp only [List.getElem?_toArray, List.getElem?_cons_zero, List.getElem?_cons_succ] at r0 r1
  have y0 := fun x' (hx : Ext W x') => ext_cell hx r0
  have y1 := fun x' (hx : Ext W x') => ext_cell hx r1
  have y2 := fun x' (hx : Ext W x') => ext_cell hx r2
  obtain ⟨l, hl⟩ := key143 (x := (a, b)) h1 h2
  have hlk1 : ∀ x', Ext W x' → (Instr.lookup 137 (.map (some m.mo)) (.agg #[.int .i64 a, .int .i64 b]) true).run Try.prog x' = .ok (.tuple #[(m.fh (a, b)).getD (.agg #[.int .i64 0, .int .i64 0, .int .i64 0, .bool false, .slice none 0 0]), .bool (m.fh (a, b)).isSome]) x' := fun x' hx => (HI.map.ext hx).look keyed143 ul137 (zero33i x') wayV_inj hl
  clear r0 r1 r2
  rcases HI.helds (a, b) with ⟨e1, e2⟩ | ⟨y, e1, e2, hy⟩
  · simp only [e1, Option.getD_none, Option.isSome_none] at hlk1
    have hlk2 := hlk1
    refine wp_region_planH3 (.reads 0 (.reads 1 (.reads 2 (.reads 3 (.reads 4 (.reads 5 (.reads 6 (.reads 7 (.reads 8 (.makes 9 (.makes 10 (.reads 11 (.done))))))))))))) (by kernel_rfl) (by kernel_rfl) (fun x' => Ext W x') (ext_drewN W 1) (fun ops HOPS => ?_)
    (refine segH_pure _ _ _ _ _ _ (hid_get HOPS 0 _ rfl) rfl wanted_none (fun _ _ _ _ h => h) ?_; intro K hK; go_big_quiet_op; go_big_quiet_on)
    (refine segH_nil _ _ _ _ _ _ _ (hid_get HOPS 1 _ rfl) wanted_none rfl (fun _ _ _ _ h => h) ?_; simp only [Act.put, List.setIfInBounds_toArray, List.set_cons_zero, List.set_cons_succ])
    (refine segH_pure _ _ _ _ _ _ (hid_get HOPS 2 _ rfl) rfl wanted_none (fun _ _ _ _ h => h) ?_; intro K hK; go_big_quiet_op; go_big_quiet_on)
    (refine segH_load _ _ _ _ _ _ _ _ _ (hid_get HOPS 3 _ rfl) wanted_none rfl (fun _ _ _ _ h => h) (fun y hy => by go_simp; try with_reducible rfl) ?_; simp only [Act.put, List.setIfInBounds_toArray, List.set_cons_zero, List.set_cons_succ])
    (refine segH_load _ _ _ _ _ _ _ _ _ (hid_get HOPS 4 _ rfl) wanted_none rfl (fun _ _ _ _ h => h) (fun y hy => by go_simp; try with_reducible rfl) ?_; simp only [Act.put, List.setIfInBounds_toArray, List.set_cons_zero, List.set_cons_succ])
    (refine segH_lookup _ _ _ _ _ _ _ _ _ _ _ _ (hid_get HOPS 5 _ rfl) wanted_none rfl rfl (fun _ _ _ _ h => h) (fun y hy => by first | exact hlk1 y hy | exact hlk2 y hy) ?_; simp only [Act.put, List.setIfInBounds_toArray, List.set_cons_zero, List.set_cons_succ])
    (refine segH_pure _ _ _ _ _ _ (hid_get HOPS 6 _ rfl) rfl wanted_none (fun _ _ _ _ h => h) ?_; intro K hK; go_big_quiet_op; go_big_quiet_on)
    (refine segH_pure _ _ _ _ _ _ (hid_get HOPS 7 _ rfl) rfl wanted_none (fun _ _ _ _ h => h) ?_; intro K hK; go_big_quiet_op; go_big_quiet_on)
    (refine segH_pure _ _ _ _ _ _ (hid_get HOPS 8 _ rfl) rfl wanted_none (fun _ _ _ _ h => h) ?_; intro K hK; go_big_quiet_op; go_big_quiet_on)
    refine segH_makes _ _ _ _ _ _ (hid_get HOPS 9 _ rfl) wanted_none (fun K hK => ?_)
    go_big_op
    have xd : Ext W (W.alloc (.cells #[.int .i64 0, .int .i64 0, .int .i64 0, .bool false, .slice none 0 0] 33)).drew := ext_trans (ext_alloc _ _) (ext_drewN _ 1)
    have b2 := Blk.new W 33 #[.int .i64 0, .int .i64 0, .int .i64 0, .bool false, .slice none 0 0]
    have q0 := b2.cell 0
    have q1 := b2.cell 1
    have q2 := b2.cell 2
    have q3 := b2.cell 3
    have q4 := b2.cell 4
    have fz := b2.frozen
    simp only [List.getElem?_toArray, List.getElem?_cons_zero, List.getElem?_cons_succ] at q0 q1 q2 q3 q4
    refine hK _ _ (fun x' => Ext W x') xd (fun _ h => h) ?_
    clear hK
    refine segH_makes _ _ _ _ _ _ (hid_get HOPS 10 _ rfl) wanted_none (fun K hK => ?_)
    go_big_op
    first
      | refine hK _ _ (fun x' => Ext W x') xd (fun _ h => h) ?_
      | refine hK _ _ (fun _ => True) trivial ?_
    clear hK
    (refine segH_pure _ _ _ _ _ _ (hid_get HOPS 11 _ rfl) rfl wanted_none (fun _ _ _ _ h => h) ?_; intro K hK; go_big_quiet_op; go_big_quiet_on)
    refine seg_done ?_
    clear HOPS
    clear y0 y1 y2 hlk1 hlk2
    have P2 := HI.ext xd
    have G2 := hgo.ext hB xd
    have d0 := b0.ext xd
    have d1 := b1.ext xd
    have d2 : Blk (W.alloc (.cells #[.int .i64 0, .int .i64 0, .int .i64 0, .bool false, .slice none 0 0] 33)).drew W.heap.size 33 #[.int .i64 0, .int .i64 0, .int .i64 0, .bool false, .slice none 0 0] := b2.ext (ext_drewN _ 1)
    generalize (W.alloc (.cells #[.int .i64 0, .int .i64 0, .int .i64 0, .bool false, .slice none 0 0] 33)).drew = W2 at P2 G2 d0 d1 d2 xd ⊢
    clear q0 q1 q2 q3 q4 fz b0 b1 b2
    have r0 := d0.cell 0
    have r1 := d0.cell 1
    have r2 := P2.blk.cell 14
    rw [P2.mapc] at r2
    simp only [List.getElem?_toArray, List.getElem?_cons_zero, List.getElem?_cons_succ] at r0 r1
    have yb : ∀ x', Mods (fun k => k = m.mo) W2 x' → ∀ i, x'.cell? ⟨gx, i, none⟩ = W2.cell? ⟨gx, i, none⟩ := fun x' hx i => by rw [(d0.mods hx (P2.map.not_blk d0)).cell, d0.cell]
    have yg : ∀ x', Mods (fun k => k = m.mo) W2 x' → ∀ i, x'.cell? ⟨m.ga, i, none⟩ = W2.cell? ⟨m.ga, i, none⟩ := fun x' hx i => by rw [(P2.blk.mods hx P2.ga_mo).cell, P2.blk.cell]
    have y0 := fun x' hx => (yb x' hx 0).trans r0
    have y1 := fun x' hx => (yb x' hx 1).trans r1
    have y2 := fun x' hx => (yg x' hx 14).trans r2
    clear r0 r1 r2 yb yg
    go_upto_region 4 with fail
    obtain ⟨o, hdel, hmN⟩ := (P2.map.ext (ext_drewN W2 1)).delete (ty := 0) keyed143 ul137 wayV_inj hl
    have hdel' : (Builtin.delete_ #[137, 143] 0 #[.map (some m.mo), .agg #[.int .i64 a, .int .i64 b]]).run Try.prog W2.drew = .ok (.tuple #[]) (setBlock W2.drew m.mo o) := hdel
    clear hdel
    refine wp_region_planH3 (.reads 0 (.reads 1 (.reads 2 (.reads 3 (.reads 4 (.makes 5 (.done))))))) (by kernel_rfl) (by kernel_rfl) (fun x' => Mods (fun k => k = m.mo) W2 x') (Mods.of_below (ext_drewN W2 1) _) (fun ops HOPS => ?_)
    (refine segH_pure _ _ _ _ _ _ (hid_get HOPS 0 _ rfl) rfl wanted_none (fun _ _ _ _ h => h) ?_; intro K hK; go_big_quiet_op; go_big_quiet_on)
    (refine segH_nil _ _ _ _ _ _ _ (hid_get HOPS 1 _ rfl) wanted_none rfl (fun _ _ _ _ h => h) ?_; simp only [Act.put, List.setIfInBounds_toArray, List.set_cons_zero, List.set_cons_succ])
    (refine segH_pure _ _ _ _ _ _ (hid_get HOPS 2 _ rfl) rfl wanted_none (fun _ _ _ _ h => h) ?_; intro K hK; go_big_quiet_op; go_big_quiet_on)
    (refine segH_load _ _ _ _ _ _ _ _ _ (hid_get HOPS 3 _ rfl) wanted_none rfl (fun _ _ _ _ h => h) (fun y hy => by go_simp; try with_reducible rfl) ?_; simp only [Act.put, List.setIfInBounds_toArray, List.set_cons_zero, List.set_cons_succ])
    (refine segH_load _ _ _ _ _ _ _ _ _ (hid_get HOPS 4 _ rfl) wanted_none rfl (fun _ _ _ _ h => h) (fun y hy => by go_simp; try with_reducible rfl) ?_; simp only [Act.put, List.setIfInBounds_toArray, List.set_cons_zero, List.set_cons_succ])
    refine segH_makes _ _ _ _ _ _ (hid_get HOPS 5 _ rfl) wanted_none (fun K hK => ?_)
    go_big_op
    have MS : Mods (fun k => k = m.mo) W2 (setBlock W2.drew m.mo o) := (Mods.of_below (ext_drewN W2 1) _).trans (mods_setBlock _ _ _) (fun _ _ e => e)
    refine hK _ _ (fun x' => Mods (fun k => k = m.mo) W2 x') MS (fun _ h => h) ?_
    clear hK
    refine seg_done ?_
    clear HOPS
    have hk4 : Keeps B [] W2 (setBlock W2.drew m.mo o) := keeps_held P2 (MS.mono fun _ e => .inl e) []
    rw [e1] at hmN
    simp only [Option.isSome_none, Bool.false_eq_true, if_false] at hmN
    obtain ⟨p1, p2⟩ := P2.turn (MS.mono fun _ e => .inl e) hmN ((P2.chan.mods MS (fun e => P2.apart e.symm))) P2.few { s with held := fun y => if y = (a, b) then none else s.held y } ⟨rfl, rfl, rfl, rfl, rfl⟩ (fun z => by
      by_cases hz : z = (a, b)
      · exact .inl ⟨if_pos hz, if_pos hz⟩
      · have q1 : (if z = (a, b) then none else m.fh z) = m.fh z := if_neg hz
        have q2 : (if z = (a, b) then none else s.held z) = s.held z := if_neg hz
        show HeldOk _ _ (if z = (a, b) then none else m.fh z) (if z = (a, b) then none else s.held z)
        rw [q1, q2]
        exact (P2.helds z).keeps hk4 (by simp))
    have g2 := d2.mods MS (P2.map.not_blk d2)
    have g1 := d1.mods MS (P2.map.not_blk d1)
    have G3 := Lib.hid (G2.trans p2)
    have hng : ¬ IntOwn { m with fh := fun y => if y = (a, b) then none else m.fh y } (gx + 1) := hown
    have P3 := Lib.hid p1
    clear p1 p2 hmN MS hk4 hdel' d0 d1 d2 y0 y1 y2
    generalize setBlock W2.drew m.mo o = W3 at g1 g2 G3 P3 ⊢
    have q0 := g2.cell 0
    have q1 := g2.cell 1
    have q2 := g2.cell 2
    have q3 := g2.cell 3
    have q4 := g2.cell 4
    have t0 := g1.cell 0
    have t1 := g1.cell 1
    have t2 := g1.cell 2
    have t3 := g1.cell 3
    have t4 := g1.cell 4
    have fz := g1.frozen
    simp only [List.getElem?_toArray, List.getElem?_cons_zero, List.getElem?_cons_succ] at q0 q1 q2 q3 q4 t0 t1 t2 t3 t4
    go_wp2
    have km := mods_set5 W3 (gx + 1) (.int .i64 0) (.int .i64 0) (.int .i64 0) (.bool false) (.slice none 0 0)
    have gb := blk_set5 g1 (.int .i64 0) (.int .i64 0) (.int .i64 0) (.bool false) (.slice none 0 0)
    have HF : Hid (∃ m', IntAt (((((W3.setCell ⟨gx + 1, 0, none⟩ (.int .i64 0)).setCell ⟨gx + 1, 1, none⟩ (.int .i64 0)).setCell ⟨gx + 1, 2, none⟩ (.int .i64 0)).setCell ⟨gx + 1, 3, none⟩ (.bool false)).setCell ⟨gx + 1, 4, none⟩ (.slice none 0 0)) B A c rs lev m' (letsSt s (a, b)) ∧ IntGo B w m (((((W3.setCell ⟨gx + 1, 0, none⟩ (.int .i64 0)).setCell ⟨gx + 1, 1, none⟩ (.int .i64 0)).setCell ⟨gx + 1, 2, none⟩ (.int .i64 0)).setCell ⟨gx + 1, 3, none⟩ (.bool false)).setCell ⟨gx + 1, 4, none⟩ (.slice none 0 0)) m') := by
      refine ⟨_, ?_, G3.out.beside hB (by omega) km⟩
      have e : letsSt s (a, b) = { s with held := fun y => if y = (a, b) then none else s.held y } := by
        unfold letsSt
        rw [e2]; rfl
      rw [e]
      exact P3.out.beside g1 (by omega) hng km
    generalize (((((W3.setCell ⟨gx + 1, 0, none⟩ (.int .i64 0)).setCell ⟨gx + 1, 1, none⟩ (.int .i64 0)).setCell ⟨gx + 1, 2, none⟩ (.int .i64 0)).setCell ⟨gx + 1, 3, none⟩ (.bool false)).setCell ⟨gx + 1, 4, none⟩ (.slice none 0 0)) = W4 at gb HF ⊢
    clear q0 q1 q2 q3 q4 t0 t1 t2 t3 t4 fz km
    have q0 := gb.cell 0
    have q1 := gb.cell 1
    have q2 := gb.cell 2
    have q3 := gb.cell 3
    have q4 := gb.cell 4
    simp only [List.getElem?_toArray, List.getElem?_cons_zero, List.getElem?_cons_succ] at q0 q1 q2 q3 q4
    refine bodyPost_ret (v := .tuple #[.agg #[.int .i64 0, .int .i64 0, .int .i64 0, .bool false, .slice none 0 0], .bool false]) ?_ rfl ⟨.inl ⟨e2, rfl⟩, HF.out⟩
    clear HF
    simp [results, Try.results113, go_sem, Addr.add, q0, q1, q2, q3, q4, Result.andThen]
  · simp only [e1, Option.getD_some, Option.isSome_some] at hlk1
    have hy2 := hy
    obtain ⟨Y, Ya, Yc⟩ := y
    have hlk2 : ∀ x', Ext W x' → (Instr.lookup 137 (.map (some m.mo)) (.agg #[.int .i64 a, .int .i64 b]) true).run Try.prog x' = .ok (.tuple #[.agg #[.int .i64 Y.level, .int .i64 Y.n, .int .i64 Y.turn, .bool Y.shut, .slice Ya Y.ws.length Yc], .bool true]) x' := hlk1
    clear hlk1
    have hlk1 := hlk2
    refine wp_region_planH3 (.reads 0 (.reads 1 (.reads 2 (.reads 3 (.reads 4 (.reads 5 (.reads 6 (.reads 7 (.reads 8 (.makes 9 (.makes 10 (.reads 11 (.done))))))))))))) (by kernel_rfl) (by kernel_rfl) (fun x' => Ext W x') (ext_drewN W 1) (fun ops HOPS => ?_)
    (refine segH_pure _ _ _ _ _ _ (hid_get HOPS 0 _ rfl) rfl wanted_none (fun _ _ _ _ h => h) ?_; intro K hK; go_big_quiet_op; go_big_quiet_on)
    (refine segH_nil _ _ _ _ _ _ _ (hid_get HOPS 1 _ rfl) wanted_none rfl (fun _ _ _ _ h => h) ?_; simp only [Act.put, List.setIfInBounds_toArray, List.set_cons_zero, List.set_cons_succ])
    (refine segH_pure _ _ _ _ _ _ (hid_get HOPS 2 _ rfl) rfl wanted_none (fun _ _ _ _ h => h) ?_; intro K hK; go_big_quiet_op; go_big_quiet_on)
    (refine segH_load _ _ _ _ _ _ _ _ _ (hid_get HOPS 3 _ rfl) wanted_none rfl (fun _ _ _ _ h => h) (fun y hy => by go_simp; try with_reducible rfl) ?_; simp only [Act.put, List.setIfInBounds_toArray, List.set_cons_zero, List.set_cons_succ])
    (refine segH_load _ _ _ _ _ _ _ _ _ (hid_get HOPS 4 _ rfl) wanted_none rfl (fun _ _ _ _ h => h) (fun y hy => by go_simp; try with_reducible rfl) ?_; simp only [Act.put, List.setIfInBounds_toArray, List.set_cons_zero, List.set_cons_succ])
    (refine segH_lookup _ _ _ _ _ _ _ _ _ _ _ _ (hid_get HOPS 5 _ rfl) wanted_none rfl rfl (fun _ _ _ _ h => h) (fun y hy => by first | exact hlk1 y hy | exact hlk2 y hy) ?_; simp only [Act.put, List.setIfInBounds_toArray, List.set_cons_zero, List.set_cons_succ])
    (refine segH_pure _ _ _ _ _ _ (hid_get HOPS 6 _ rfl) rfl wanted_none (fun _ _ _ _ h => h) ?_; intro K hK; go_big_quiet_op; go_big_quiet_on)
    (refine segH_pure _ _ _ _ _ _ (hid_get HOPS 7 _ rfl) rfl wanted_none (fun _ _ _ _ h => h) ?_; intro K hK; go_big_quiet_op; go_big_quiet_on)
    (refine segH_pure _ _ _ _ _ _ (hid_get HOPS 8 _ rfl) rfl wanted_none (fun _ _ _ _ h => h) ?_; intro K hK; go_big_quiet_op; go_big_quiet_on)
    refine segH_makes _ _ _ _ _ _ (hid_get HOPS 9 _ rfl) wanted_none (fun K hK => ?_)
    go_big_op
    have xd : Ext W (W.alloc (.cells #[.int .i64 0, .int .i64 0, .int .i64 0, .bool false, .slice none 0 0] 33)).drew := ext_trans (ext_alloc _ _) (ext_drewN _ 1)
    have b2 := Blk.new W 33 #[.int .i64 0, .int .i64 0, .int .i64 0, .bool false, .slice none 0 0]
    have q0 := b2.cell 0
    have q1 := b2.cell 1
    have q2 := b2.cell 2
    have q3 := b2.cell 3
    have q4 := b2.cell 4
    have fz := b2.frozen
    simp only [List.getElem?_toArray, List.getElem?_cons_zero, List.getElem?_cons_succ] at q0 q1 q2 q3 q4
    refine hK _ _ (fun x' => Ext W x') xd (fun _ h => h) ?_
    clear hK
    refine segH_makes _ _ _ _ _ _ (hid_get HOPS 10 _ rfl) wanted_none (fun K hK => ?_)
    go_big_op
    have xe : Ext W (W.alloc (.cells #[.int .i64 Y.level, .int .i64 Y.n, .int .i64 Y.turn, .bool Y.shut, .slice Ya Y.ws.length Yc] 33)).drew := ext_trans (ext_alloc _ _) (ext_drewN _ 1)
    refine hK _ _ (fun x' => Ext W x') xe (fun _ h => h) ?_
    clear hK q0 q1 q2 q3 q4 fz b2 xd
    (refine segH_pure _ _ _ _ _ _ (hid_get HOPS 11 _ rfl) rfl wanted_none (fun _ _ _ _ h => h) ?_; intro K hK; go_big_quiet_op; go_big_quiet_on)
    refine seg_done ?_
    clear HOPS
    clear y0 y1 y2 hlk1 hlk2
    have P2 := HI.ext xe
    have G2 := hgo.ext hB xe
    have d0 := b0.ext xe
    have d1 := b1.ext xe
    have d2 : Blk (W.alloc (.cells #[.int .i64 Y.level, .int .i64 Y.n, .int .i64 Y.turn, .bool Y.shut, .slice Ya Y.ws.length Yc] 33)).drew W.heap.size 33 #[.int .i64 Y.level, .int .i64 Y.n, .int .i64 Y.turn, .bool Y.shut, .slice Ya Y.ws.length Yc] := (Blk.new W 33 #[.int .i64 Y.level, .int .i64 Y.n, .int .i64 Y.turn, .bool Y.shut, .slice Ya Y.ws.length Yc]).ext (ext_drewN _ 1)
    have hY := hy.ext xe
    have hpos : 0 < s.cnt := by
      rcases Nat.eq_zero_or_pos s.cnt with h0 | h0
      · obtain ⟨es, clock, _, hn, hE⟩ := P2.map
        obtain ⟨e, he, _⟩ := hE.held _ _ e1
        rw [h0] at hn
        have := List.length_pos_of_mem he
        rw [Array.length_toList] at this
        omega
      · exact h0
    generalize (W.alloc (.cells #[.int .i64 Y.level, .int .i64 Y.n, .int .i64 Y.turn, .bool Y.shut, .slice Ya Y.ws.length Yc] 33)).drew = W2 at P2 G2 d0 d1 d2 xe hY ⊢
    clear b0 b1 hy hy2
    have c15 := P2.blk.cell 15
    rw [P2.chac] at c15
    go_upto_region 3 with fail
    obtain ⟨buf, s1, r1, hbuf, hsz⟩ := P2.chan
    refine sem_region ?_
    show SemOps _ _ _ [0, 1, 2, 3, 4] _ _
    refine sem_value (w' := W2) (.pointer (some ⟨m.ga, 0, none⟩)) rfl rfl (by kernel_rfl) ?_
    refine sem_value (w' := W2) (.pointer (some ⟨m.ga, 0, none⟩)) rfl rfl (by kernel_rfl) ?_
    refine sem_value (w' := W2) (.pointer (some ⟨m.ga, 15, none⟩)) rfl rfl (by kernel_rfl) ?_
    refine sem_value (w' := W2) (.chan (some m.pc)) rfl rfl ?_ ?_
    · simp only [Act.put, List.getElem_toArray, List.getElem_cons_zero, List.getElem_cons_succ, List.setIfInBounds_toArray, List.set_cons_zero, List.set_cons_succ]
      go_simp
    refine sem_recv (z := .agg #[.int .i64 0, .int .i64 0]) rfl rfl (by kernel_rfl) hbuf (by omega) ?_
    generalize buf.getD 0 undef = bz
    refine semOps_drop 5 ?_
    simp only [List.drop_succ_cons, List.drop_zero, Act.put, List.getElem_toArray, List.getElem_cons_zero, List.getElem_cons_succ, List.setIfInBounds_toArray, List.set_cons_zero, List.set_cons_succ]
    go_wp2_with fail
    obtain ⟨X, hX⟩ : ∃ X, X = W2.setChan m.pc 40 (buf.extract 1 s.cnt) false s1 (r1 + 1) false := ⟨_, rfl⟩
    have kX : Mods (fun k => k = m.pc) W2 X := by rw [hX]; exact mods_setChan _ _ _ _ _ _
    have hch : ChanIs X m.pc 40 (s.cnt - 1) := by
      have := chan_set W2 P2.chan.lt 40 (buf.extract 1 s.cnt) s1 (r1 + 1)
      rw [Array.size_extract, hsz, Nat.min_self] at this
      rw [hX]; exact this
    rw [← hX]
    have e0 := d0.mods kX (P2.chan.not_blk d0)
    have e3 := d1.mods kX (P2.chan.not_blk d1)
    have e4 := d2.mods kX (P2.chan.not_blk d2)
    have eg := P2.blk.mods kX P2.ga_pc
    have hmX := P2.map.mods kX P2.apart
    clear hX hbuf hsz c15
    have r0 := e0.cell 0
    have r1' := e0.cell 1
    have r2 := eg.cell 14
    rw [P2.mapc] at r2
    simp only [List.getElem?_toArray, List.getElem?_cons_zero, List.getElem?_cons_succ] at r0 r1'
    have yb : ∀ x', Mods (fun k => k = m.mo) X x' → ∀ i, x'.cell? ⟨gx, i, none⟩ = X.cell? ⟨gx, i, none⟩ := fun x' hx i => by rw [(e0.mods hx (P2.map.not_blk d0)).cell, e0.cell]
    have yg : ∀ x', Mods (fun k => k = m.mo) X x' → ∀ i, x'.cell? ⟨m.ga, i, none⟩ = X.cell? ⟨m.ga, i, none⟩ := fun x' hx i => by rw [(eg.mods hx P2.ga_mo).cell, eg.cell]
    have y0 := fun x' hx => (yb x' hx 0).trans r0
    have y1 := fun x' hx => (yb x' hx 1).trans r1'
    have y2 := fun x' hx => (yg x' hx 14).trans r2
    clear r0 r1' r2 yb yg
    obtain ⟨o, hdel, hmN⟩ := (hmX.ext (ext_drewN X 1)).delete (ty := 0) keyed143 ul137 wayV_inj hl
    have hdel' : (Builtin.delete_ #[137, 143] 0 #[.map (some m.mo), .agg #[.int .i64 a, .int .i64 b]]).run Try.prog X.drew = .ok (.tuple #[]) (setBlock X.drew m.mo o) := hdel
    clear hdel
    refine wp_region_planH3 (.reads 0 (.reads 1 (.reads 2 (.reads 3 (.reads 4 (.makes 5 (.done))))))) (by kernel_rfl) (by kernel_rfl) (fun x' => Mods (fun k => k = m.mo) X x') (Mods.of_below (ext_drewN X 1) _) (fun ops HOPS => ?_)
    (refine segH_pure _ _ _ _ _ _ (hid_get HOPS 0 _ rfl) rfl wanted_none (fun _ _ _ _ h => h) ?_; intro K hK; go_big_quiet_op; go_big_quiet_on)
    (refine segH_nil _ _ _ _ _ _ _ (hid_get HOPS 1 _ rfl) wanted_none rfl (fun _ _ _ _ h => h) ?_; simp only [Act.put, List.setIfInBounds_toArray, List.set_cons_zero, List.set_cons_succ])
    (refine segH_pure _ _ _ _ _ _ (hid_get HOPS 2 _ rfl) rfl wanted_none (fun _ _ _ _ h => h) ?_; intro K hK; go_big_quiet_op; go_big_quiet_on)
    (refine segH_load _ _ _ _ _ _ _ _ _ (hid_get HOPS 3 _ rfl) wanted_none rfl (fun _ _ _ _ h => h) (fun y hy => by go_simp; try with_reducible rfl) ?_; simp only [Act.put, List.setIfInBounds_toArray, List.set_cons_zero, List.set_cons_succ])
    (refine segH_load _ _ _ _ _ _ _ _ _ (hid_get HOPS 4 _ rfl) wanted_none rfl (fun _ _ _ _ h => h) (fun y hy => by go_simp; try with_reducible rfl) ?_; simp only [Act.put, List.setIfInBounds_toArray, List.set_cons_zero, List.set_cons_succ])
    refine segH_makes _ _ _ _ _ _ (hid_get HOPS 5 _ rfl) wanted_none (fun K hK => ?_)
    go_big_op
    have MS : Mods (fun k => k = m.mo) X (setBlock X.drew m.mo o) := (Mods.of_below (ext_drewN X 1) _).trans (mods_setBlock _ _ _) (fun _ _ e => e)
    refine hK _ _ (fun x' => Mods (fun k => k = m.mo) X x') MS (fun _ h => h) ?_
    clear hK
    refine seg_done ?_
    clear HOPS
    have MM : Mods (fun g => g = m.mo ∨ g = m.pc) W2 (setBlock X.drew m.mo o) := (kX.mono fun _ e => .inr e).trans MS (fun _ _ e => .inl e)
    have hk4 : Keeps B [] W2 (setBlock X.drew m.mo o) := keeps_held P2 MM []
    rw [e1] at hmN
    simp only [Option.isSome_some, if_true] at hmN
    obtain ⟨p1, p2⟩ := P2.turn MM hmN (hch.mods MS (fun e => P2.apart e.symm)) (by have := P2.few; omega) { s with held := fun y => if y = (a, b) then none else s.held y, cnt := s.cnt - 1 } ⟨rfl, rfl, rfl, rfl, rfl⟩ (fun z => by
      by_cases hz : z = (a, b)
      · exact .inl ⟨if_pos hz, if_pos hz⟩
      · have q1 : (if z = (a, b) then none else m.fh z) = m.fh z := if_neg hz
        have q2 : (if z = (a, b) then none else s.held z) = s.held z := if_neg hz
        show HeldOk _ _ (if z = (a, b) then none else m.fh z) (if z = (a, b) then none else s.held z)
        rw [q1, q2]
        exact (P2.helds z).keeps hk4 (by simp))
    have g2 := e4.mods MS (P2.map.not_blk d2)
    have g1 := e3.mods MS (P2.map.not_blk d1)
    have G3 := Lib.hid (G2.trans p2)
    have hng : ¬ IntOwn { m with fh := fun y => if y = (a, b) then none else m.fh y } (gx + 1) := hown
    have P3 := Lib.hid p1
    have hY3 := hY.keeps hk4 (by simp)
    clear p1 p2 hmN MS MM hk4 hdel' d0 d1 d2 y0 y1 y2 e0 e3 e4 eg hmX hch kX
    generalize setBlock X.drew m.mo o = W3 at g1 g2 G3 P3 hY3 ⊢
    have q0 := g2.cell 0
    have q1 := g2.cell 1
    have q2 := g2.cell 2
    have q3 := g2.cell 3
    have q4 := g2.cell 4
    have t0 := g1.cell 0
    have t1 := g1.cell 1
    have t2 := g1.cell 2
    have t3 := g1.cell 3
    have t4 := g1.cell 4
    have fz := g1.frozen
    simp only [List.getElem?_toArray, List.getElem?_cons_zero, List.getElem?_cons_succ] at q0 q1 q2 q3 q4 t0 t1 t2 t3 t4
    go_wp2
    have km := mods_set5 W3 (gx + 1) (.int .i64 Y.level) (.int .i64 Y.n) (.int .i64 Y.turn) (.bool Y.shut) (.slice Ya Y.ws.length Yc)
    have gb := blk_set5 g1 (.int .i64 Y.level) (.int .i64 Y.n) (.int .i64 Y.turn) (.bool Y.shut) (.slice Ya Y.ws.length Yc)
    have HF : Hid (IvOk (((((W3.setCell ⟨gx + 1, 0, none⟩ (.int .i64 Y.level)).setCell ⟨gx + 1, 1, none⟩ (.int .i64 Y.n)).setCell ⟨gx + 1, 2, none⟩ (.int .i64 Y.turn)).setCell ⟨gx + 1, 3, none⟩ (.bool Y.shut)).setCell ⟨gx + 1, 4, none⟩ (.slice Ya Y.ws.length Yc)) B ⟨Y, Ya, Yc⟩ ∧ ∃ m', IntAt (((((W3.setCell ⟨gx + 1, 0, none⟩ (.int .i64 Y.level)).setCell ⟨gx + 1, 1, none⟩ (.int .i64 Y.n)).setCell ⟨gx + 1, 2, none⟩ (.int .i64 Y.turn)).setCell ⟨gx + 1, 3, none⟩ (.bool Y.shut)).setCell ⟨gx + 1, 4, none⟩ (.slice Ya Y.ws.length Yc)) B A c rs lev m' (letsSt s (a, b)) ∧ IntGo B w m (((((W3.setCell ⟨gx + 1, 0, none⟩ (.int .i64 Y.level)).setCell ⟨gx + 1, 1, none⟩ (.int .i64 Y.n)).setCell ⟨gx + 1, 2, none⟩ (.int .i64 Y.turn)).setCell ⟨gx + 1, 3, none⟩ (.bool Y.shut)).setCell ⟨gx + 1, 4, none⟩ (.slice Ya Y.ws.length Yc)) m') := by
      refine ⟨hY3.keeps (Keeps.of_mods (T := [33]) km fun i hi => ?_) (by decide), _, ?_, G3.out.beside hB (by omega) km⟩
      · subst hi
        refine ⟨by omega, fun cs' t fr hk => ?_⟩
        unfold Blk at g1
        rw [g1] at hk
        injection hk with hk
        injection hk with _ hk
        simp [← hk]
      · have e : letsSt s (a, b) = { s with held := fun y => if y = (a, b) then none else s.held y, cnt := s.cnt - 1 } := by
          unfold letsSt
          rw [e2]; rfl
        rw [e]
        exact P3.out.beside g1 (by omega) hng km
    generalize (((((W3.setCell ⟨gx + 1, 0, none⟩ (.int .i64 Y.level)).setCell ⟨gx + 1, 1, none⟩ (.int .i64 Y.n)).setCell ⟨gx + 1, 2, none⟩ (.int .i64 Y.turn)).setCell ⟨gx + 1, 3, none⟩ (.bool Y.shut)).setCell ⟨gx + 1, 4, none⟩ (.slice Ya Y.ws.length Yc)) = W4 at gb HF ⊢
    clear q0 q1 q2 q3 q4 t0 t1 t2 t3 t4 fz km
    have q0 := gb.cell 0
    have q1 := gb.cell 1
    have q2 := gb.cell 2
    have q3 := gb.cell 3
    have q4 := gb.cell 4
    simp only [List.getElem?_toArray, List.getElem?_cons_zero, List.getElem?_cons_succ] at q0 q1 q2 q3 q4
    refine bodyPost_ret (v := .tuple #[.agg #[.int .i64 Y.level, .int .i64 Y.n, .int .i64 Y.turn, .bool Y.shut, .slice Ya Y.ws.length Yc], .bool true]) ?_ rfl ⟨.inr ⟨⟨Y, Ya, Yc⟩, e2, rfl, HF.out.1⟩, HF.out.2⟩
    clear HF
    simp [results, Try.results113, go_sem, Addr.add, q0, q1, q2, q3, q4, Result.andThen]
end
end Go.Proofs.Ytdknkbpgkkakhaa

/- Layer 20: row. -/
namespace Go.Proofs.Ytdknkbpgkkakhaa
open Go.RowKit Go.Maps
open Go.ChangeMaps (setBlock)

section
variable {w w' : World} {B : Nat} {A : Option Addr} {c : Nat} {rs : List Rw} {lev : Int} {m : IntMem} {s : IntSt}
theorem IntGo.keeps {m' : IntMem} (h : IntAt w B A c rs lev m s) (k : IntGo B w m w' m') : Keeps B [33, 140] w w' := Keeps.of_mods k.mods fun i hi => by
  refine ⟨(h.own_lt hi).1, fun cs t fr hk => ?_⟩
  rcases hi with rfl | rfl | rfl | hg
  · have h2 := h.blk
    unfold Blk at h2
    rw [h2] at hk
    injection hk with hk
    injection hk with _ hk
    simp [← hk]
  · obtain ⟨es, clock, h1, _⟩ := h.map
    rw [hk] at h1; cases h1
  · obtain ⟨_, _, _, h1, _⟩ := h.chan
    rw [hk] at h1; cases h1
  · obtain ⟨_, cur, h2⟩ := h.vc_blk hg
    unfold Blk at h2
    rw [h2] at hk
    injection hk with hk
    injection hk with _ hk
    simp [← hk]

theorem wf64_of {x : Int} (h : -9223372036854775808 ≤ x ∧ x ≤ 9223372036854775807) : wf64 x := by
  unfold wf64
  simp [Lit.wf, IntKind.min, IntKind.max, IntKind.signed, IntKind.bits]
  omega

/-- What holds of an intake's numbers and of what it holds. -/
structure IntInv (s : IntSt) (K : Nat) : Prop where
  nums : ∀ a : Nat, 0 ≤ s.over a ∧ s.over a ≤ s.have_ a ∧ s.have_ a ≤ 1000000
  held : ∀ k y, s.held k = some y → (y.level, y.n) = k ∧ y.is = true
  came : s.came.length + s.cnt ≤ K
theorem It.is_nums {x : It} (h : x.is = true) : ((0 ≤ x.level ∧ x.level < 6) ∧ (1 ≤ x.n ∧ x.n ≤ 1000000)) ∧ (0 ≤ x.turn ∧ x.turn ≤ 1000000) := by
  unfold It.is at h
  simp only [Bool.and_eq_true, betw, decide_eq_true_eq] at h
  omega
/-- The next item and those that were held and come behind it. -/
def rowF : Nat → IntSt → It → IntSt × List It
  | 0, s, x => (letsSt (comesSt s x) (x.level, x.n + 1), [x])
  | k + 1, s, x =>
    match s.held (x.level, x.n + 1) with
    | none => (letsSt (comesSt s x) (x.level, x.n + 1), [x])
    | some y =>
      if y.turn = (comesSt s x).over x.level.toNat then ((rowF k (letsSt (comesSt s x) (x.level, x.n + 1)) y).1, x :: (rowF k (letsSt (comesSt s x) (x.level, x.n + 1)) y).2)
      else (letsSt (comesSt s x) (x.level, x.n + 1), [x])
theorem comesSt_cnt (s : IntSt) (x : It) : (comesSt s x).cnt = s.cnt := by unfold comesSt comesHave comesOver; split <;> rfl
theorem comesSt_held (s : IntSt) (x : It) : (comesSt s x).held = s.held := by unfold comesSt comesHave comesOver; split <;> rfl
theorem comesSt_have (s : IntSt) (x : It) (k : Nat) : (comesSt s x).have_ k = if k = x.level.toNat then s.have_ k + 1 else s.have_ k := by
  unfold comesSt comesHave comesOver
  split <;> (dsimp only; split <;> simp_all)
theorem comesSt_over (s : IntSt) (x : It) (k : Nat) : (comesSt s x).over k = if k = x.level.toNat ∧ x.shut = true then s.over k + 1 else s.over k := by
  unfold comesSt comesHave comesOver
  cases x.shut
  · simp
  · simp only [if_true, and_true]
    split <;> simp_all
theorem comesSt_came (s : IntSt) (x : It) : (comesSt s x).came = if x.shut = true then s.came else s.came ++ [x] := by
  unfold comesSt comesHave comesOver
  split <;> rfl
theorem IntInv.row {K : Nat} (h : IntInv s (K + 1)) {x : It} (hx : x.is = true) (hn : x.n = s.have_ x.level.toNat + 1) (hc : s.came.length + s.cnt ≤ K) : IntInv (letsSt (comesSt s x) (x.level, x.n + 1)) (K + 1) := by
  have hxn := It.is_nums hx
  refine ⟨fun a => ?_, fun k y hk => ?_, ?_⟩
  · show 0 ≤ (comesSt s x).over a ∧ (comesSt s x).over a ≤ (comesSt s x).have_ a ∧ (comesSt s x).have_ a ≤ 1000000
    rw [comesSt_over, comesSt_have]
    have h1 := h.nums a
    by_cases e : a = x.level.toNat
    · subst e
      cases x.shut <;> simp <;> omega
    · simp [e]; omega
  · have hk' : (if k = (x.level, x.n + 1) then none else (comesSt s x).held k) = some y := hk
    rw [comesSt_held] at hk'
    split at hk'
    · cases hk'
    · exact h.held k y hk'
  · have e1 : (letsSt (comesSt s x) (x.level, x.n + 1)).came.length ≤ s.came.length + 1 := by
      show (comesSt s x).came.length ≤ _
      rw [comesSt_came]
      split <;> simp
    have e2 : (letsSt (comesSt s x) (x.level, x.n + 1)).cnt ≤ s.cnt := by
      show (if ((comesSt s x).held (x.level, x.n + 1)).isSome = true then (comesSt s x).cnt - 1 else (comesSt s x).cnt) ≤ _
      rw [comesSt_cnt]
      split <;> omega
    omega
theorem IntInv.row_next {K : Nat} (h : IntInv s (K + 1)) {x y : It} (hx : x.is = true) (hn : x.n = s.have_ x.level.toNat + 1) (hy : s.held (x.level, x.n + 1) = some y) :
    y.is = true ∧ y.level = x.level ∧ y.n = (letsSt (comesSt s x) (x.level, x.n + 1)).have_ y.level.toNat + 1 := by
  obtain ⟨h1, h2⟩ := h.held _ _ hy
  injection h1 with e1 e2
  refine ⟨h2, e1, ?_⟩
  show y.n = (comesSt s x).have_ y.level.toNat + 1
  rw [comesSt_have, e1, if_pos rfl, e2, hn]
theorem letsSt_came (s : IntSt) (k : Int × Int) : (letsSt s k).came = s.came := rfl
theorem letsSt_cnt {s : IntSt} {k : Int × Int} {y : It} (h : s.held k = some y) : (letsSt s k).cnt = s.cnt - 1 := by
  show (if (s.held k).isSome = true then s.cnt - 1 else s.cnt) = _
  rw [h]; rfl
theorem IntAt.cnt_pos (h : IntAt w B A c rs lev m s) {k : Int × Int} {y : It} (hy : s.held k = some y) : 0 < s.cnt := by
  rcases Nat.eq_zero_or_pos s.cnt with h0 | h0
  · rcases h.helds k with ⟨_, e⟩ | ⟨z, e1, _, _⟩
    · rw [hy] at e; cases e
    · obtain ⟨es, clock, _, hn, hE⟩ := h.map
      obtain ⟨e, he, _⟩ := hE.held _ _ e1
      rw [h0] at hn
      have := List.length_pos_of_mem he
      rw [Array.length_toList] at this
      omega
  · exact h0
theorem IntAt.fst_zero (h : IntAt w B A c rs lev m s) (h0 : s.cnt = 0) (k : Int × Int) : s.held k = none := by
  cases hy : s.held k with
  | none => rfl
  | some y => have := h.cnt_pos hy; omega
theorem Own.blk' {α : Type} {E : Elem α} {base : Nat} {v : Value} {xs : List α} (h : Own E w base v xs) {b : Nat} (hb : v.ownBlock = some b) : base ≤ b ∧ b < w.heap.size := by
  rcases h.2 with ⟨rfl, h0⟩ | ⟨g, cap, cur, rfl, hg, hh, _⟩
  · cases hb
  · injection hb with hb
    subst hb
    exact ⟨hg, (Array.getElem?_eq_some_iff.1 hh).1⟩
def lenV : Value → Nat
  | .slice _ n _ => n
  | _ => 0
def RowPost (w : World) (B : Nat) (A : Option Addr) (c : Nat) (rs : List Rw) (lev : Int) (m : IntMem) (s : IntSt) (x : It) (e : Ending) (w' : World) : Prop :=
  ∃ v zs m', e = .returned v ∧ Own elIv w' w.heap.size v zs ∧ its zs = (rowF s.cnt s x).2 ∧ (∀ z ∈ zs, IvOk w' B z) ∧ IntAt w' B A c rs lev m' (rowF s.cnt s x).1 ∧ IntGo B w m w' m'
set_option maxRecDepth 100000 in
set_option maxHeartbeats 4000000 in
theorem intRow_any (h : IntAt w B A c rs lev m s) (x : Iv) (hx : IvOk w B x) {a K : Nat} (ha : a < 6) (hxa : x.it.level = (a : Int)) (hi : IntInv s (K + 1)) (hxi : x.it.is = true) (hxn : x.it.n = s.have_ a + 1) (hc : s.came.length + s.cnt ≤ K) (hK : K < 1000000) :
    Calls Try.prog 104 #[.pointer (some ⟨m.ga, 0, none⟩), .agg #[.int .i64 x.it.level, .int .i64 x.it.n, .int .i64 x.it.turn, .bool x.it.shut, .slice x.A x.it.ws.length x.c]] w (RowPost w B A c rs lev m s x.it) := by
  obtain ⟨⟨level, n0, turn0, shut0, ws0⟩, Ax0, cx0⟩ := x
  dsimp only at hx hxa hi hxi hxn hc ⊢
  subst hxa
  have hB := h.base_le
  obtain ⟨W, hW⟩ : ∃ W, W = w.alloc (.cells #[.int .i64 (a : Int), .int .i64 n0, .int .i64 turn0, .bool shut0, .slice Ax0 ws0.length cx0] 33) := ⟨_, rfl⟩
  have x0 : Ext w W := by rw [hW]; exact ext_alloc _ _
  have b0 : Blk W w.heap.size 33 #[.int .i64 (a : Int), .int .i64 n0, .int .i64 turn0, .bool shut0, .slice Ax0 ws0.length cx0] := by rw [hW]; exact Blk.new _ _ _
  have hs0 : W.heap.size = w.heap.size + 1 := by rw [hW]; simp
  have hfew := h.few
  have HI := Lib.hid (h.ext x0)
  have hgo := Lib.hid (IntGo.of_ext x0 hB m)
  have hx1 := hx.ext x0
  have HW : Hid (w.alloc (.cells #[.int .i64 (a : Int), .int .i64 n0, .int .i64 turn0, .bool shut0, .slice Ax0 ws0.length cx0] 33) = W) := hW.symm
  have hown : Hid (¬ IntOwn m w.heap.size) := fun e => by have := (h.own_lt e).2; omega
  have HINV := Lib.hid (And.intro hi (And.intro hxi (And.intro hxn (And.intro hc hK))))
  clear hW h hx x0 hi hxi hxn hc hK
  go_enter Try.func104, Try.ntmps104
  go_wp2_with fail
  rw [HW.out]
  clear HW
  obtain ⟨gx, hgx⟩ : ∃ gx, gx = w.heap.size := ⟨_, rfl⟩
  rw [← hgx] at b0 hown ⊢
  have HGX : w.heap.size ≤ gx ∧ gx ≤ w.heap.size := ⟨Nat.le_of_eq hgx.symm, Nat.le_of_eq hgx⟩
  clear hgx
  go_step3
  go_wp2_with fail
  go_step3
  go_wp2_with fail
  go_loopw [5] (fun o wr => ∃ (n' : Int) (turn' : Int) (shut' : Bool) (ws' : List Wr) (A' : Option Addr) (c' : Nat) (s' : IntSt) (m' : IntMem) (zs : List Iv),
    IntAt wr B A c rs lev m' s' ∧ IntGo B w m wr m' ∧ ¬ IntOwn m' gx ∧ Blk wr gx 33 #[.int .i64 (a : Int), .int .i64 n', .int .i64 turn', .bool shut', .slice A' ws'.length c'] ∧ IvOk wr B ⟨⟨a, n', turn', shut', ws'⟩, A', c'⟩ ∧
    Own elIv wr (gx + 1) o zs ∧ (∀ b, o.ownBlock = some b → ¬ IntOwn m' b) ∧ (∀ z ∈ zs, IvOk wr B z) ∧ zs.length + s'.cnt = s.cnt ∧
    Hid (IntInv s' (K + 1) ∧ (⟨a, n', turn', shut', ws'⟩ : It).is = true ∧ n' = s'.have_ a + 1 ∧ s'.came.length + s'.cnt ≤ K ∧ K < 1000000) ∧
    Hid (rowF s.cnt s ⟨a, n0, turn0, shut0, ws0⟩ = ((rowF s'.cnt s' ⟨a, n', turn', shut', ws'⟩).1, its zs ++ (rowF s'.cnt s' ⟨a, n', turn', shut', ws'⟩).2))) (fun o _ => s.cnt + 1 - lenV o)
  case atStart => exact ⟨n0, turn0, shut0, ws0, Ax0, cx0, s, m, [], HI.out, hgo.out, hown.out, b0, hx1, Own.nil _ _, (fun b h => by cases h), by simp, by simp, HINV.out, by show _ = _; simp [its]⟩
  case round =>
    clear HI hgo hown b0 hx1 HINV
    obtain ⟨n, turn, shut, ws, Ax, cx, s', m', zs, hI, hG, hno, hb, hx, hown, hdis, hzs, hcn, HINV, HR⟩ := hrel
    obtain ⟨Ao, co, rfl⟩ := hown.form
    have hmg := hG.ga
    have r0 := hb.cell 0
    have r1 := hb.cell 1
    have r2 := hb.cell 2
    have r3 := hb.cell 3
    have r4 := hb.cell 4
    simp only [List.getElem?_toArray, List.getElem?_cons_zero, List.getElem?_cons_succ] at r0 r1 r2 r3 r4
    go_wp2_with fail
    have hcm := intComes_any hI ⟨⟨a, n, turn, shut, ws⟩, Ax, cx⟩ hx ha rfl (by have := HINV.out.1.nums a; omega) (by have := HINV.out.1.nums a; omega) (by have := HINV.out.2.2.2; omega)
    rw [hmg] at hcm
    refine hcm.mono ?_
    clear hcm r0 r1 r2 r3 r4
    rintro e w2 ⟨rfl, m2, hI2, hG2⟩
    have hk2 := hG2.keeps hI
    have hgl := hb.lt
    obtain ⟨hno2, hgb⟩ := hG2.free hgl hno
    have hb2 : Blk w2 gx 33 #[.int .i64 (a : Int), .int .i64 n, .int .i64 turn, .bool shut, .slice Ax ws.length cx] := hgb.trans hb
    have hx2 := hx.keeps hk2 (by decide)
    have hown2 := hown.mods hG2.mods hdis
    have hdis2 : ∀ b, (Value.slice Ao zs.length co).ownBlock = some b → ¬ IntOwn m2 b := fun b hob => (hG2.free (hown.blk' hob).2 (hdis b hob)).1
    have hzs2 : ∀ z ∈ zs, IvOk w2 B z := fun z hz => (hzs z hz).keeps hk2 (by decide)
    have hgl2 := hb2.lt
    have hmg2 : m2.ga = m.ga := hG2.ga.trans hmg
    have hG3 := hG.trans hG2
    clear hb hx hown hdis hzs hG hG2 hno hgb hI hk2
    have r0 := hb2.cell 0
    have r1 := hb2.cell 1
    have r2 := hb2.cell 2
    have r3 := hb2.cell 3
    have r4 := hb2.cell 4
    simp only [List.getElem?_toArray, List.getElem?_cons_zero, List.getElem?_cons_succ] at r0 r1 r2 r3 r4
    go_wp2_with fail
    refine (itemCopy_any (⟨(a : Int), n, turn, shut, ws⟩ : It) _ _ _ B hx2.at_ (by have := hx2.len; exact this)).mono ?_
    rintro e w3 ⟨A', c', rfl, hW, hext⟩
    have HB := Lib.hid (rows_block (E := elIv) (B := B) (⟨(⟨(a : Int), n, turn, shut, ws⟩ : It), A', c'⟩ : Iv) (Blk.new w3 33 (Iv.cells ⟨(⟨(a : Int), n, turn, shut, ws⟩ : It), A', c'⟩).toArray))
    have HO := Lib.hid ((hown2.ext hext).ext (ext_alloc w3 (.cells (Iv.cells ⟨(⟨(a : Int), n, turn, shut, ws⟩ : It), A', c'⟩).toArray 33)))
    have hsx := hext.size
    clear r0 r1 r2 r3 r4
    go_upto_region 4 with (at_builtin; refine wpList_append elIv rfl _ _ rfl (gx + 1) (.slice Ao zs.length co) zs rfl HO.out _ 1 [(⟨(⟨(a : Int), n, turn, shut, ws⟩ : It), A', c'⟩ : Iv)] rfl B HB.out (by show _ * 56 ≤ _; simp; omega) (by simp; omega) (by simp; omega) ?_; intro A2 c2 w4 hown4 hg4 hat4)
    have xd3 : Ext w2 (w3.alloc (.cells (Iv.cells ⟨(⟨(a : Int), n, turn, shut, ws⟩ : It), A', c'⟩).toArray 33)) := ext_trans hext (ext_alloc _ _)
    have hBg : B ≤ gx + 1 := by omega
    have MS : Mods (fun k => (Value.slice Ao zs.length co).ownBlock = some k) w2 w4 := (Mods.of_below xd3 _).trans (Mods.grown hg4) (fun k hk h => h)
    have hk4 : Keeps B [33] w2 w4 := (Keeps.of_ext xd3 B [33]).trans (HO.out.keeps hg4 hBg)
    have hI4 := hI2.mods MS hdis2 hk4 (by decide) (by decide) (by decide)
    have hb4 : Blk w4 gx 33 #[.int .i64 (a : Int), .int .i64 n, .int .i64 turn, .bool shut, .slice Ax ws.length cx] := hb2.mods MS (fun e => by have := (hown2.blk' e).1; omega)
    have hx4 := hx2.keeps hk4 (by decide)
    have hG4 : IntGo B w m w4 m2 := ⟨hG3.below.trans (MS.below (Nat.le_trans hB hG3.below.size) (fun k e => by have := (hown2.blk' e).1; omega)), hG3.mods.trans MS (fun k hk e => by have := (hown2.blk' e).1; omega), hG3.sub, hG3.ga⟩
    have hdis4 : ∀ b, (Value.slice A2 (zs ++ [(⟨⟨a, n, turn, shut, ws⟩, A', c'⟩ : Iv)]).length c2).ownBlock = some b → ¬ IntOwn m2 b := fun b hob => by
      rcases hat4 with e | e
      · rw [e] at hob; exact hdis2 b hob
      · rw [e] at hob
        injection hob with hob
        subst hob
        intro hc
        exact absurd (Nat.lt_of_lt_of_le (hI2.own_lt hc).2 xd3.size) (Nat.lt_irrefl _)
    have hzs4 : ∀ z ∈ zs ++ [(⟨⟨a, n, turn, shut, ws⟩, A', c'⟩ : Iv)], IvOk w4 B z := fun z hz => by
      rcases List.mem_append.1 hz with hz | hz
      · exact (hzs2 z hz).keeps hk4 (by decide)
      · have e1 : z = (⟨⟨a, n, turn, shut, ws⟩, A', c'⟩ : Iv) := by simpa using hz
        subst e1
        exact ⟨(RowsAt.ext hW (ext_alloc _ _)).keeps (HO.out.keeps hg4 hBg) (by decide), hx2.wr, hx2.len⟩
    clear hext hW HB HO hI2 hb2 hx2 hown2 hdis2 hzs2 hG3 xd3 MS hk4 hg4 hat4
    have r0 := hb4.cell 0
    have r1 := hb4.cell 1
    have r2 := hb4.cell 2
    have r3 := hb4.cell 3
    have r4 := hb4.cell 4
    simp only [List.getElem?_toArray, List.getElem?_cons_zero, List.getElem?_cons_succ] at r0 r1 r2 r3 r4
    have hnn := It.is_nums HINV.out.2.1
    have hwr : IntKind.i64.wrap (n + 1) = n + 1 := IntWalk.i64_in _ (by have := hnn.1.2; dsimp only at this; omega)
    have HNN := Lib.hid hnn
    clear hnn
    go_wp2_with fail
    have hlt := intLets_any hI4 (a := (a : Int)) (b := n + 1) (wf64_of (by omega)) (wf64_of (by have := HNN.out.1.2; omega))
    rw [hmg2] at hlt
    refine hlt.mono ?_
    clear hlt r0 r1 r2 r3 r4
    rintro e w5 ⟨hcase, m3, hI5, hG5⟩
    have hk5 := hG5.keeps hI4
    have hgl4 := hb4.lt
    have hno2' : ¬ IntOwn m2 gx := hno2
    obtain ⟨hno5, hgb5⟩ := hG5.free hgl4 hno2'
    have hb5 : Blk w5 gx 33 #[.int .i64 (a : Int), .int .i64 n, .int .i64 turn, .bool shut, .slice Ax ws.length cx] := hgb5.trans hb4
    have hown5 := hown4.mods hG5.mods hdis4
    have hdis5 : ∀ b, (Value.slice A2 (zs ++ [(⟨⟨a, n, turn, shut, ws⟩, A', c'⟩ : Iv)]).length c2).ownBlock = some b → ¬ IntOwn m3 b := fun b hob => (hG5.free (hown4.blk' hob).2 (hdis4 b hob)).1
    have hzs5 : ∀ z ∈ zs ++ [(⟨⟨a, n, turn, shut, ws⟩, A', c'⟩ : Iv)], IvOk w5 B z := fun z hz => (hzs4 z hz).keeps hk5 (by decide)
    have hmg3 : m3.ga = m.ga := hG5.ga.trans hmg2
    have hG6 := hG4.trans hG5
    have HS : Hid ((comesSt s' ⟨a, n, turn, shut, ws⟩).held = s'.held ∧ (comesSt s' ⟨a, n, turn, shut, ws⟩).cnt = s'.cnt) := ⟨comesSt_held _ _, comesSt_cnt _ _⟩
    rw [HS.out.1] at hcase
    have HCP : Hid (∀ y, s'.held ((a : Int), n + 1) = some y → 0 < s'.cnt) := fun y hy => by
      have := hI4.cnt_pos (k := ((a : Int), n + 1)) (y := y) (by rw [HS.out.1]; exact hy)
      rwa [HS.out.2] at this
    have hsz5 : gx + 1 ≤ w5.heap.size := hb5.lt
    clear hb4 hown4 hdis4 hzs4 hG4 hG5 hI4 hk5 hgb5 hno2' hx4
    rcases hcase with ⟨hnone, rfl⟩ | ⟨y, hsome, he, hy⟩
    · have HF : Hid (rowF s.cnt s ⟨a, n0, turn0, shut0, ws0⟩ = (letsSt (comesSt s' ⟨a, n, turn, shut, ws⟩) ((a : Int), n + 1), its zs ++ [(⟨a, n, turn, shut, ws⟩ : It)])) := by
        show _ = _
        rw [HR.out]
        cases hc0 : s'.cnt with
        | zero => rfl
        | succ k => simp only [rowF, hnone]
      go_wp2_with fail
      have hg7 := hG6.ext hB (ext_trans (ext_alloc w5 (.cells #[.int .i64 0, .int .i64 0, .int .i64 0, .bool false, .slice none 0 0] 33)) (ext_drewN _ 1))
      have hI7 := hI5.ext (ext_trans (ext_alloc w5 (.cells #[.int .i64 0, .int .i64 0, .int .i64 0, .bool false, .slice none 0 0] 33)) (ext_drewN _ 1))
      have hown7 := hown5.ext (ext_trans (ext_alloc w5 (.cells #[.int .i64 0, .int .i64 0, .int .i64 0, .bool false, .slice none 0 0] 33)) (ext_drewN _ 1))
      have hzs7 : ∀ z ∈ _, _ := fun z hz => (hzs5 z hz).ext (ext_trans (ext_alloc w5 (.cells #[.int .i64 0, .int .i64 0, .int .i64 0, .bool false, .slice none 0 0] 33)) (ext_drewN _ 1))
      have HX : Hid (∃ ys : List Iv, Own elIv (w5.alloc (.cells #[.int .i64 0, .int .i64 0, .int .i64 0, .bool false, .slice none 0 0] 33)).drew w.heap.size (.slice A2 (zs.length + 1) c2) ys ∧ its ys = (rowF s.cnt s ⟨a, n0, turn0, shut0, ws0⟩).2 ∧ (∀ z ∈ ys, IvOk (w5.alloc (.cells #[.int .i64 0, .int .i64 0, .int .i64 0, .bool false, .slice none 0 0] 33)).drew B z) ∧
          ∃ m', IntAt (w5.alloc (.cells #[.int .i64 0, .int .i64 0, .int .i64 0, .bool false, .slice none 0 0] 33)).drew B A c rs lev m' (rowF s.cnt s ⟨a, n0, turn0, shut0, ws0⟩).1 ∧ IntGo B w m (w5.alloc (.cells #[.int .i64 0, .int .i64 0, .int .i64 0, .bool false, .slice none 0 0] 33)).drew m') := by
        refine ⟨_, (by have := hown7.le (base' := w.heap.size) (by omega); simp only [List.length_append, List.length_singleton] at this; exact this), ?_, hzs7, m3, ?_, hg7⟩
        · rw [HF.out, its_append]; rfl
        · rw [HF.out]; exact hI7
      clear hI5 hown5 hdis5 hzs5 hG6 hg7 hI7 hown7 hzs7 HF hmg3 hb5 hno5 hno2 hmg2 hmg
      refine wp_region_planH3 (.reads 0 (.reads 1 (.reads 2 (.reads 3 (.reads 4 (.reads 5 (.reads 6 (.reads 7 (.reads 8 (.reads 9 (.reads 10 (.reads 11 (.reads 12 (.reads 13 (.done))))))))))))))) (by kernel_rfl) (by kernel_rfl) (fun x' => Ext (w5.alloc (.cells #[.int .i64 0, .int .i64 0, .int .i64 0, .bool false, .slice none 0 0] 33)) x') (ext_drewN _ 1) (fun ops HOPS => ?_)
      (refine segH_pure _ _ _ _ _ _ (hid_get HOPS 0 _ rfl) rfl wanted_none (fun _ _ _ _ h => h) ?_; intro K hK; go_big_quiet_op; go_big_quiet_on)
      (refine segH_pure _ _ _ _ _ _ (hid_get HOPS 1 _ rfl) rfl wanted_none (fun _ _ _ _ h => h) ?_; intro K hK; go_big_quiet_op; go_big_quiet_on)
      (refine segH_pure _ _ _ _ _ _ (hid_get HOPS 2 _ rfl) rfl wanted_none (fun _ _ _ _ h => h) ?_; intro K hK; go_big_quiet_op; go_big_quiet_on)
      first | (refine segH_pass _ _ _ _ _ _ (hid_get HOPS 3 _ rfl) (wanted_some (hid_get HOPS 2 _ rfl) rfl rfl rfl) (fun _ _ _ _ h => h) ?_; simp only [Act.put, List.setIfInBounds_toArray, List.set_cons_zero, List.set_cons_succ]) | (refine segH_pure _ _ _ _ _ _ (hid_get HOPS 3 _ rfl) rfl (wanted_some (hid_get HOPS 2 _ rfl) rfl rfl rfl) (fun _ _ _ _ h => h) ?_; intro K hK; go_big_quiet_op; go_big_quiet_on) | (refine segH_pass _ _ _ _ _ _ (hid_get HOPS 3 _ rfl) (wanted_gone (hid_get HOPS 2 _ rfl) rfl rfl) (fun _ _ _ _ h => h) ?_; simp only [Act.put, List.setIfInBounds_toArray, List.set_cons_zero, List.set_cons_succ])
      first | (refine segH_pass _ _ _ _ _ _ (hid_get HOPS 4 _ rfl) (wanted_some (hid_get HOPS 2 _ rfl) rfl rfl rfl) (fun _ _ _ _ h => h) ?_; simp only [Act.put, List.setIfInBounds_toArray, List.set_cons_zero, List.set_cons_succ]) | (refine segH_load _ _ _ _ _ _ _ _ _ (hid_get HOPS 4 _ rfl) (wanted_some (hid_get HOPS 2 _ rfl) rfl rfl rfl) rfl (fun _ _ _ _ h => h) (fun y hy => by go_simp; try with_reducible rfl) ?_; simp only [Act.put, List.setIfInBounds_toArray, List.set_cons_zero, List.set_cons_succ]) | (refine segH_pass _ _ _ _ _ _ (hid_get HOPS 4 _ rfl) (wanted_gone (hid_get HOPS 2 _ rfl) rfl rfl) (fun _ _ _ _ h => h) ?_; simp only [Act.put, List.setIfInBounds_toArray, List.set_cons_zero, List.set_cons_succ])
      first | (refine segH_pass _ _ _ _ _ _ (hid_get HOPS 5 _ rfl) (wanted_some (hid_get HOPS 2 _ rfl) rfl rfl rfl) (fun _ _ _ _ h => h) ?_; simp only [Act.put, List.setIfInBounds_toArray, List.set_cons_zero, List.set_cons_succ]) | (refine segH_pure _ _ _ _ _ _ (hid_get HOPS 5 _ rfl) rfl (wanted_some (hid_get HOPS 2 _ rfl) rfl rfl rfl) (fun _ _ _ _ h => h) ?_; intro K hK; go_big_quiet_op; go_big_quiet_on) | (refine segH_pass _ _ _ _ _ _ (hid_get HOPS 5 _ rfl) (wanted_gone (hid_get HOPS 2 _ rfl) rfl rfl) (fun _ _ _ _ h => h) ?_; simp only [Act.put, List.setIfInBounds_toArray, List.set_cons_zero, List.set_cons_succ])
      first | (refine segH_pass _ _ _ _ _ _ (hid_get HOPS 6 _ rfl) (wanted_some (hid_get HOPS 2 _ rfl) rfl rfl rfl) (fun _ _ _ _ h => h) ?_; simp only [Act.put, List.setIfInBounds_toArray, List.set_cons_zero, List.set_cons_succ]) | (refine segH_pure _ _ _ _ _ _ (hid_get HOPS 6 _ rfl) rfl (wanted_some (hid_get HOPS 2 _ rfl) rfl rfl rfl) (fun _ _ _ _ h => h) ?_; intro K hK; go_big_quiet_op; go_big_quiet_on) | (refine segH_pass _ _ _ _ _ _ (hid_get HOPS 6 _ rfl) (wanted_gone (hid_get HOPS 2 _ rfl) rfl rfl) (fun _ _ _ _ h => h) ?_; simp only [Act.put, List.setIfInBounds_toArray, List.set_cons_zero, List.set_cons_succ])
      first | (refine segH_pass _ _ _ _ _ _ (hid_get HOPS 7 _ rfl) (wanted_some (hid_get HOPS 2 _ rfl) rfl rfl rfl) (fun _ _ _ _ h => h) ?_; simp only [Act.put, List.setIfInBounds_toArray, List.set_cons_zero, List.set_cons_succ]) | (refine segH_load _ _ _ _ _ _ _ _ _ (hid_get HOPS 7 _ rfl) (wanted_some (hid_get HOPS 2 _ rfl) rfl rfl rfl) rfl (fun _ _ _ _ h => h) (fun y hy => by go_simp; try with_reducible rfl) ?_; simp only [Act.put, List.setIfInBounds_toArray, List.set_cons_zero, List.set_cons_succ]) | (refine segH_pass _ _ _ _ _ _ (hid_get HOPS 7 _ rfl) (wanted_gone (hid_get HOPS 2 _ rfl) rfl rfl) (fun _ _ _ _ h => h) ?_; simp only [Act.put, List.setIfInBounds_toArray, List.set_cons_zero, List.set_cons_succ])
      first | (refine segH_pass _ _ _ _ _ _ (hid_get HOPS 8 _ rfl) (wanted_some (hid_get HOPS 2 _ rfl) rfl rfl rfl) (fun _ _ _ _ h => h) ?_; simp only [Act.put, List.setIfInBounds_toArray, List.set_cons_zero, List.set_cons_succ]) | (refine segH_nil _ _ _ _ _ _ _ (hid_get HOPS 8 _ rfl) (wanted_some (hid_get HOPS 2 _ rfl) rfl rfl rfl) rfl (fun _ _ _ _ h => h) ?_; simp only [Act.put, List.setIfInBounds_toArray, List.set_cons_zero, List.set_cons_succ]) | (refine segH_pass _ _ _ _ _ _ (hid_get HOPS 8 _ rfl) (wanted_gone (hid_get HOPS 2 _ rfl) rfl rfl) (fun _ _ _ _ h => h) ?_; simp only [Act.put, List.setIfInBounds_toArray, List.set_cons_zero, List.set_cons_succ])
      first | (refine segH_pass _ _ _ _ _ _ (hid_get HOPS 9 _ rfl) (wanted_some (hid_get HOPS 2 _ rfl) rfl rfl rfl) (fun _ _ _ _ h => h) ?_; simp only [Act.put, List.setIfInBounds_toArray, List.set_cons_zero, List.set_cons_succ]) | (refine segH_pure _ _ _ _ _ _ (hid_get HOPS 9 _ rfl) rfl (wanted_some (hid_get HOPS 2 _ rfl) rfl rfl rfl) (fun _ _ _ _ h => h) ?_; intro K hK; go_big_quiet_op; go_big_quiet_on) | (refine segH_pass _ _ _ _ _ _ (hid_get HOPS 9 _ rfl) (wanted_gone (hid_get HOPS 2 _ rfl) rfl rfl) (fun _ _ _ _ h => h) ?_; simp only [Act.put, List.setIfInBounds_toArray, List.set_cons_zero, List.set_cons_succ])
      first | (refine segH_pass _ _ _ _ _ _ (hid_get HOPS 10 _ rfl) (wanted_some (hid_get HOPS 2 _ rfl) rfl rfl rfl) (fun _ _ _ _ h => h) ?_; simp only [Act.put, List.setIfInBounds_toArray, List.set_cons_zero, List.set_cons_succ]) | (refine segH_pure _ _ _ _ _ _ (hid_get HOPS 10 _ rfl) rfl (wanted_some (hid_get HOPS 2 _ rfl) rfl rfl rfl) (fun _ _ _ _ h => h) ?_; intro K hK; go_big_quiet_op; go_big_quiet_on) | (refine segH_pass _ _ _ _ _ _ (hid_get HOPS 10 _ rfl) (wanted_gone (hid_get HOPS 2 _ rfl) rfl rfl) (fun _ _ _ _ h => h) ?_; simp only [Act.put, List.setIfInBounds_toArray, List.set_cons_zero, List.set_cons_succ])
      first | (refine segH_pass _ _ _ _ _ _ (hid_get HOPS 11 _ rfl) (wanted_some (hid_get HOPS 2 _ rfl) rfl rfl rfl) (fun _ _ _ _ h => h) ?_; simp only [Act.put, List.setIfInBounds_toArray, List.set_cons_zero, List.set_cons_succ]) | (refine segH_load _ _ _ _ _ _ _ _ _ (hid_get HOPS 11 _ rfl) (wanted_some (hid_get HOPS 2 _ rfl) rfl rfl rfl) rfl (fun _ _ _ _ h => h) (fun y hy => by go_simp; try with_reducible rfl) ?_; simp only [Act.put, List.setIfInBounds_toArray, List.set_cons_zero, List.set_cons_succ]) | (refine segH_pass _ _ _ _ _ _ (hid_get HOPS 11 _ rfl) (wanted_gone (hid_get HOPS 2 _ rfl) rfl rfl) (fun _ _ _ _ h => h) ?_; simp only [Act.put, List.setIfInBounds_toArray, List.set_cons_zero, List.set_cons_succ])
      first | (refine segH_pass _ _ _ _ _ _ (hid_get HOPS 12 _ rfl) (wanted_some (hid_get HOPS 2 _ rfl) rfl rfl rfl) (fun _ _ _ _ h => h) ?_; simp only [Act.put, List.setIfInBounds_toArray, List.set_cons_zero, List.set_cons_succ]) | (refine segH_pure _ _ _ _ _ _ (hid_get HOPS 12 _ rfl) rfl (wanted_some (hid_get HOPS 2 _ rfl) rfl rfl rfl) (fun _ _ _ _ h => h) ?_; intro K hK; go_big_quiet_op; go_big_quiet_on) | (refine segH_pass _ _ _ _ _ _ (hid_get HOPS 12 _ rfl) (wanted_gone (hid_get HOPS 2 _ rfl) rfl rfl) (fun _ _ _ _ h => h) ?_; simp only [Act.put, List.setIfInBounds_toArray, List.set_cons_zero, List.set_cons_succ])
      (refine segH_pure _ _ _ _ _ _ (hid_get HOPS 13 _ rfl) rfl wanted_none (fun _ _ _ _ h => h) ?_; intro K hK; go_big_quiet_op; go_big_quiet_on)
      refine seg_done ?_
      clear HOPS
      go_wp2
      obtain ⟨ys, h1, h2, h3, m', h4, h5⟩ := HX.out
      go_ret
      exact ⟨_, ys, m', rfl, h1, h2, h3, h4, h5⟩
    · obtain ⟨⟨yl, yn, yt, ysh, yws⟩, Ay, cy⟩ := y
      obtain ⟨e1, e2, e3⟩ : (⟨yl, yn, yt, ysh, yws⟩ : It).is = true ∧ yl = (a : Int) ∧ yn = n + 1 := by
        obtain ⟨h1, h2⟩ := HINV.out.1.held _ _ hsome
        injection h1 with e1 e2
        exact ⟨h2, e1, e2⟩
      subst e2 e3
      replace he : e = .returned (.tuple #[.agg #[.int .i64 (a : Int), .int .i64 (n + 1), .int .i64 yt, .bool ysh, .slice Ay yws.length cy], .bool true]) := he
      subst he
      have hgt : s'.cnt = (s'.cnt - 1) + 1 := by have := HCP.out _ hsome; omega
      have HF : Hid (rowF s'.cnt s' ⟨a, n, turn, shut, ws⟩ = if yt = (comesSt s' ⟨a, n, turn, shut, ws⟩).over a then ((rowF (s'.cnt - 1) (letsSt (comesSt s' ⟨a, n, turn, shut, ws⟩) ((a : Int), n + 1)) ⟨a, n + 1, yt, ysh, yws⟩).1, ⟨a, n, turn, shut, ws⟩ :: (rowF (s'.cnt - 1) (letsSt (comesSt s' ⟨a, n, turn, shut, ws⟩) ((a : Int), n + 1)) ⟨a, n + 1, yt, ysh, yws⟩).2) else (letsSt (comesSt s' ⟨a, n, turn, shut, ws⟩) ((a : Int), n + 1), [⟨a, n, turn, shut, ws⟩])) := by
        show _ = _
        rw [hgt]
        simp only [rowF, hsome, Nat.add_sub_cancel, Int.toNat_natCast]
      clear hgt
      go_wp2_with fail
      obtain ⟨W6, hW6⟩ : ∃ W6, W6 = w5.alloc (.cells #[.int .i64 (a : Int), .int .i64 (n + 1), .int .i64 yt, .bool ysh, .slice Ay yws.length cy] 33) := ⟨_, rfl⟩
      have x6 : Ext w5 W6 := by rw [hW6]; exact ext_alloc _ _
      have b6 : Blk W6 w5.heap.size 33 #[.int .i64 (a : Int), .int .i64 (n + 1), .int .i64 yt, .bool ysh, .slice Ay yws.length cy] := by rw [hW6]; exact Blk.new _ _ _
      rw [← hW6]
      clear hW6
      have hI7 := hI5.ext x6
      have hG7 := hG6.ext hB x6
      have hown7 := hown5.ext x6
      have hzs7 : ∀ z ∈ zs ++ [(⟨⟨a, n, turn, shut, ws⟩, A', c'⟩ : Iv)], IvOk W6 B z := fun z hz => (hzs5 z hz).ext x6
      have hy7 := hy.ext x6
      have hb7 := hb5.ext x6
      obtain ⟨ov, hov⟩ : ∃ ov, ov = (comesSt s' ⟨a, n, turn, shut, ws⟩).over a := ⟨_, rfl⟩
      have o7 := hI7.blk.cell (8 + a)
      rw [hI7.ovr a ha, show (letsSt (comesSt s' ⟨(a : Int), n, turn, shut, ws⟩) ((a : Int), n + 1)).over a = (comesSt s' ⟨a, n, turn, shut, ws⟩).over a from rfl, ← hov, hmg3] at o7
      rw [← hov] at HF
      have HOV := Lib.hid hov
      have f0 := hb7.cell 0
      have f2 := b6.cell 2
      simp only [List.getElem?_toArray, List.getElem?_cons_zero, List.getElem?_cons_succ] at f0 f2
      have y0 := fun x' (hx : Ext W6 x') => ext_cell hx f0
      have y1 := fun x' (hx : Ext W6 x') => ext_cell hx f2
      have y2 := fun x' (hx : Ext W6 x') => ext_cell hx o7
      have hg6 : gx ≠ w5.heap.size := by omega
      clear hI5 hG6 hown5 hzs5 hy hb5 hov f0 f2 o7
      by_cases hyt : yt = ov
      · subst hyt
        rw [if_pos rfl] at HF
        refine wp_region_planH3 (.reads 0 (.reads 1 (.reads 2 (.reads 3 (.reads 4 (.reads 5 (.reads 6 (.reads 7 (.reads 8 (.reads 9 (.reads 10 (.reads 11 (.reads 12 (.reads 13 (.done))))))))))))))) (by kernel_rfl) (by kernel_rfl) (fun x' => Ext W6 x') (ext_drewN _ 1) (fun ops HOPS => ?_)
        (refine segH_pure _ _ _ _ _ _ (hid_get HOPS 0 _ rfl) rfl wanted_none (fun _ _ _ _ h => h) ?_; intro K hK; go_big_quiet_op; go_big_quiet_on)
        (refine segH_pure _ _ _ _ _ _ (hid_get HOPS 1 _ rfl) rfl wanted_none (fun _ _ _ _ h => h) ?_; intro K hK; go_big_quiet_op; go_big_quiet_on)
        (refine segH_pure _ _ _ _ _ _ (hid_get HOPS 2 _ rfl) rfl wanted_none (fun _ _ _ _ h => h) ?_; intro K hK; go_big_quiet_op; go_big_quiet_on)
        first | (refine segH_pass _ _ _ _ _ _ (hid_get HOPS 3 _ rfl) (wanted_some (hid_get HOPS 2 _ rfl) rfl rfl rfl) (fun _ _ _ _ h => h) ?_; simp only [Act.put, List.setIfInBounds_toArray, List.set_cons_zero, List.set_cons_succ]) | (refine segH_pure _ _ _ _ _ _ (hid_get HOPS 3 _ rfl) rfl (wanted_some (hid_get HOPS 2 _ rfl) rfl rfl rfl) (fun _ _ _ _ h => h) ?_; intro K hK; go_big_quiet_op; go_big_quiet_on) | (refine segH_pass _ _ _ _ _ _ (hid_get HOPS 3 _ rfl) (wanted_gone (hid_get HOPS 2 _ rfl) rfl rfl) (fun _ _ _ _ h => h) ?_; simp only [Act.put, List.setIfInBounds_toArray, List.set_cons_zero, List.set_cons_succ])
        first | (refine segH_pass _ _ _ _ _ _ (hid_get HOPS 4 _ rfl) (wanted_some (hid_get HOPS 2 _ rfl) rfl rfl rfl) (fun _ _ _ _ h => h) ?_; simp only [Act.put, List.setIfInBounds_toArray, List.set_cons_zero, List.set_cons_succ]) | (refine segH_load _ _ _ _ _ _ _ _ _ (hid_get HOPS 4 _ rfl) (wanted_some (hid_get HOPS 2 _ rfl) rfl rfl rfl) rfl (fun _ _ _ _ h => h) (fun y hy => by go_simp; try with_reducible rfl) ?_; simp only [Act.put, List.setIfInBounds_toArray, List.set_cons_zero, List.set_cons_succ]) | (refine segH_pass _ _ _ _ _ _ (hid_get HOPS 4 _ rfl) (wanted_gone (hid_get HOPS 2 _ rfl) rfl rfl) (fun _ _ _ _ h => h) ?_; simp only [Act.put, List.setIfInBounds_toArray, List.set_cons_zero, List.set_cons_succ])
        first | (refine segH_pass _ _ _ _ _ _ (hid_get HOPS 5 _ rfl) (wanted_some (hid_get HOPS 2 _ rfl) rfl rfl rfl) (fun _ _ _ _ h => h) ?_; simp only [Act.put, List.setIfInBounds_toArray, List.set_cons_zero, List.set_cons_succ]) | (refine segH_pure _ _ _ _ _ _ (hid_get HOPS 5 _ rfl) rfl (wanted_some (hid_get HOPS 2 _ rfl) rfl rfl rfl) (fun _ _ _ _ h => h) ?_; intro K hK; go_big_quiet_op; go_big_quiet_on) | (refine segH_pass _ _ _ _ _ _ (hid_get HOPS 5 _ rfl) (wanted_gone (hid_get HOPS 2 _ rfl) rfl rfl) (fun _ _ _ _ h => h) ?_; simp only [Act.put, List.setIfInBounds_toArray, List.set_cons_zero, List.set_cons_succ])
        first | (refine segH_pass _ _ _ _ _ _ (hid_get HOPS 6 _ rfl) (wanted_some (hid_get HOPS 2 _ rfl) rfl rfl rfl) (fun _ _ _ _ h => h) ?_; simp only [Act.put, List.setIfInBounds_toArray, List.set_cons_zero, List.set_cons_succ]) | (refine segH_pure _ _ _ _ _ _ (hid_get HOPS 6 _ rfl) rfl (wanted_some (hid_get HOPS 2 _ rfl) rfl rfl rfl) (fun _ _ _ _ h => h) ?_; intro K hK; go_big_quiet_op; go_big_quiet_on) | (refine segH_pass _ _ _ _ _ _ (hid_get HOPS 6 _ rfl) (wanted_gone (hid_get HOPS 2 _ rfl) rfl rfl) (fun _ _ _ _ h => h) ?_; simp only [Act.put, List.setIfInBounds_toArray, List.set_cons_zero, List.set_cons_succ])
        first | (refine segH_pass _ _ _ _ _ _ (hid_get HOPS 7 _ rfl) (wanted_some (hid_get HOPS 2 _ rfl) rfl rfl rfl) (fun _ _ _ _ h => h) ?_; simp only [Act.put, List.setIfInBounds_toArray, List.set_cons_zero, List.set_cons_succ]) | (refine segH_load _ _ _ _ _ _ _ _ _ (hid_get HOPS 7 _ rfl) (wanted_some (hid_get HOPS 2 _ rfl) rfl rfl rfl) rfl (fun _ _ _ _ h => h) (fun y hy => by go_simp; try with_reducible rfl) ?_; simp only [Act.put, List.setIfInBounds_toArray, List.set_cons_zero, List.set_cons_succ]) | (refine segH_pass _ _ _ _ _ _ (hid_get HOPS 7 _ rfl) (wanted_gone (hid_get HOPS 2 _ rfl) rfl rfl) (fun _ _ _ _ h => h) ?_; simp only [Act.put, List.setIfInBounds_toArray, List.set_cons_zero, List.set_cons_succ])
        first | (refine segH_pass _ _ _ _ _ _ (hid_get HOPS 8 _ rfl) (wanted_some (hid_get HOPS 2 _ rfl) rfl rfl rfl) (fun _ _ _ _ h => h) ?_; simp only [Act.put, List.setIfInBounds_toArray, List.set_cons_zero, List.set_cons_succ]) | (refine segH_nil _ _ _ _ _ _ _ (hid_get HOPS 8 _ rfl) (wanted_some (hid_get HOPS 2 _ rfl) rfl rfl rfl) rfl (fun _ _ _ _ h => h) ?_; simp only [Act.put, List.setIfInBounds_toArray, List.set_cons_zero, List.set_cons_succ]) | (refine segH_pass _ _ _ _ _ _ (hid_get HOPS 8 _ rfl) (wanted_gone (hid_get HOPS 2 _ rfl) rfl rfl) (fun _ _ _ _ h => h) ?_; simp only [Act.put, List.setIfInBounds_toArray, List.set_cons_zero, List.set_cons_succ])
        first | (refine segH_pass _ _ _ _ _ _ (hid_get HOPS 9 _ rfl) (wanted_some (hid_get HOPS 2 _ rfl) rfl rfl rfl) (fun _ _ _ _ h => h) ?_; simp only [Act.put, List.setIfInBounds_toArray, List.set_cons_zero, List.set_cons_succ]) | (refine segH_pure _ _ _ _ _ _ (hid_get HOPS 9 _ rfl) rfl (wanted_some (hid_get HOPS 2 _ rfl) rfl rfl rfl) (fun _ _ _ _ h => h) ?_; intro K hK; go_big_quiet_op; go_big_quiet_on) | (refine segH_pass _ _ _ _ _ _ (hid_get HOPS 9 _ rfl) (wanted_gone (hid_get HOPS 2 _ rfl) rfl rfl) (fun _ _ _ _ h => h) ?_; simp only [Act.put, List.setIfInBounds_toArray, List.set_cons_zero, List.set_cons_succ])
        first | (refine segH_pass _ _ _ _ _ _ (hid_get HOPS 10 _ rfl) (wanted_some (hid_get HOPS 2 _ rfl) rfl rfl rfl) (fun _ _ _ _ h => h) ?_; simp only [Act.put, List.setIfInBounds_toArray, List.set_cons_zero, List.set_cons_succ]) | (refine segH_pure _ _ _ _ _ _ (hid_get HOPS 10 _ rfl) rfl (wanted_some (hid_get HOPS 2 _ rfl) rfl rfl rfl) (fun _ _ _ _ h => h) ?_; intro K hK; go_big_quiet_op; go_big_quiet_on) | (refine segH_pass _ _ _ _ _ _ (hid_get HOPS 10 _ rfl) (wanted_gone (hid_get HOPS 2 _ rfl) rfl rfl) (fun _ _ _ _ h => h) ?_; simp only [Act.put, List.setIfInBounds_toArray, List.set_cons_zero, List.set_cons_succ])
        first | (refine segH_pass _ _ _ _ _ _ (hid_get HOPS 11 _ rfl) (wanted_some (hid_get HOPS 2 _ rfl) rfl rfl rfl) (fun _ _ _ _ h => h) ?_; simp only [Act.put, List.setIfInBounds_toArray, List.set_cons_zero, List.set_cons_succ]) | (refine segH_load _ _ _ _ _ _ _ _ _ (hid_get HOPS 11 _ rfl) (wanted_some (hid_get HOPS 2 _ rfl) rfl rfl rfl) rfl (fun _ _ _ _ h => h) (fun y hy => by go_simp; try with_reducible rfl) ?_; simp only [Act.put, List.setIfInBounds_toArray, List.set_cons_zero, List.set_cons_succ]) | (refine segH_pass _ _ _ _ _ _ (hid_get HOPS 11 _ rfl) (wanted_gone (hid_get HOPS 2 _ rfl) rfl rfl) (fun _ _ _ _ h => h) ?_; simp only [Act.put, List.setIfInBounds_toArray, List.set_cons_zero, List.set_cons_succ])
        first | (refine segH_pass _ _ _ _ _ _ (hid_get HOPS 12 _ rfl) (wanted_some (hid_get HOPS 2 _ rfl) rfl rfl rfl) (fun _ _ _ _ h => h) ?_; simp only [Act.put, List.setIfInBounds_toArray, List.set_cons_zero, List.set_cons_succ]) | (refine segH_pure _ _ _ _ _ _ (hid_get HOPS 12 _ rfl) rfl (wanted_some (hid_get HOPS 2 _ rfl) rfl rfl rfl) (fun _ _ _ _ h => h) ?_; intro K hK; go_big_quiet_op; go_big_quiet_on) | (refine segH_pass _ _ _ _ _ _ (hid_get HOPS 12 _ rfl) (wanted_gone (hid_get HOPS 2 _ rfl) rfl rfl) (fun _ _ _ _ h => h) ?_; simp only [Act.put, List.setIfInBounds_toArray, List.set_cons_zero, List.set_cons_succ])
        (refine segH_pure _ _ _ _ _ _ (hid_get HOPS 13 _ rfl) rfl wanted_none (fun _ _ _ _ h => h) ?_; intro K hK; go_big_quiet_op; go_big_quiet_on)
        refine seg_done ?_
        clear HOPS
        obtain ⟨W7, hW7⟩ : ∃ W7, W7 = W6.drew := ⟨_, rfl⟩
        have x7 : Ext W6 W7 := by rw [hW7]; exact ext_drewN W6 1
        rw [← hW7]
        clear hW7
        have b6d : Blk W7 w5.heap.size 33 #[.int .i64 (a : Int), .int .i64 (n + 1), .int .i64 yt, .bool ysh, .slice Ay yws.length cy] := b6.ext (x7)
        have hb7d : Blk W7 gx 33 #[.int .i64 (a : Int), .int .i64 n, .int .i64 turn, .bool shut, .slice Ax ws.length cx] := hb7.ext (x7)
        have q0 := b6d.cell 0
        have q1 := b6d.cell 1
        have q2 := b6d.cell 2
        have q3 := b6d.cell 3
        have q4 := b6d.cell 4
        have t0 := hb7d.cell 0
        have t1 := hb7d.cell 1
        have t2 := hb7d.cell 2
        have t3 := hb7d.cell 3
        have t4 := hb7d.cell 4
        have fz := hb7d.frozen
        simp only [List.getElem?_toArray, List.getElem?_cons_zero, List.getElem?_cons_succ] at q0 q1 q2 q3 q4 t0 t1 t2 t3 t4
        clear y0 y1 y2
        go_wp2
        clear q0 q1 q2 q3 q4 t0 t1 t2 t3 t4 fz
        have km := mods_set5 W7 gx (.int .i64 (a : Int)) (.int .i64 (n + 1)) (.int .i64 yt) (.bool ysh) (.slice Ay yws.length cy)
        have gb := blk_set5 hb7d (.int .i64 (a : Int)) (.int .i64 (n + 1)) (.int .i64 yt) (.bool ysh) (.slice Ay yws.length cy)
        have hI8 := (hI7.ext (x7)).beside hb7d (by omega) hno5 km
        have hG8 := (hG7.ext hB (x7)).beside hB HGX.1 km
        have hk8 : Keeps B [33] W7 (((((W7.setCell ⟨gx, 0, none⟩ (.int .i64 (a : Int))).setCell ⟨gx, 1, none⟩ (.int .i64 (n + 1))).setCell ⟨gx, 2, none⟩ (.int .i64 yt)).setCell ⟨gx, 3, none⟩ (.bool ysh)).setCell ⟨gx, 4, none⟩ (.slice Ay yws.length cy)) := Keeps.of_mods km fun i hi => by
          subst hi
          refine ⟨by omega, fun cs' t fr hk => ?_⟩
          have h2 := hb7d
          unfold Blk at h2
          rw [h2] at hk
          injection hk with hk
          injection hk with _ hk
          simp [← hk]
        have hown8 := (hown7.ext (x7)).mods km (fun b hob e => by have := (hown7.blk' hob).1; omega)
        have hINV2 : Hid (IntInv (letsSt (comesSt s' ⟨a, n, turn, shut, ws⟩) ((a : Int), n + 1)) (K + 1) ∧ (⟨a, n + 1, yt, ysh, yws⟩ : It).is = true ∧ n + 1 = (letsSt (comesSt s' ⟨a, n, turn, shut, ws⟩) ((a : Int), n + 1)).have_ a + 1 ∧ (letsSt (comesSt s' ⟨a, n, turn, shut, ws⟩) ((a : Int), n + 1)).came.length + (letsSt (comesSt s' ⟨a, n, turn, shut, ws⟩) ((a : Int), n + 1)).cnt ≤ K ∧ K < 1000000) := by
          obtain ⟨i1, i2, i3, i4, i5⟩ := HINV.out
          refine ⟨i1.row i2 i3 i4, e1, ?_, ?_, i5⟩
          · have := (i1.row_next i2 i3 hsome).2.2
            exact this
          · rw [letsSt_came, letsSt_cnt (s := comesSt s' ⟨a, n, turn, shut, ws⟩) (y := ⟨a, n + 1, yt, ysh, yws⟩) (by rw [comesSt_held]; exact hsome), comesSt_cnt, comesSt_came]
            have := HCP.out _ hsome
            split <;> simp <;> omega
        have hcnt2 : (letsSt (comesSt s' ⟨a, n, turn, shut, ws⟩) ((a : Int), n + 1)).cnt = s'.cnt - 1 := by
          rw [letsSt_cnt (s := comesSt s' ⟨a, n, turn, shut, ws⟩) (y := ⟨a, n + 1, yt, ysh, yws⟩) (by rw [comesSt_held]; exact hsome), comesSt_cnt]
        have hc1 := HCP.out _ hsome
        go_roundw
        case rel =>
          refine ⟨n + 1, yt, ysh, yws, Ay, cy, _, m3, zs ++ [(⟨⟨a, n, turn, shut, ws⟩, A', c'⟩ : Iv)], hI8, hG8, hno5, gb, (hy7.ext (x7)).keeps hk8 (by decide), ?_, ?_, ?_, ?_, hINV2, ?_⟩
          · simp only [List.length_append, List.length_singleton] at hown8; exact hown8
          · simp only [List.length_append, List.length_singleton] at hdis5; exact hdis5
          · exact fun z hz => ((hzs7 z hz).ext (x7)).keeps hk8 (by decide)
          · rw [hcnt2]; simp; omega
          · show _ = _
            rw [HR.out, HF.out, hcnt2, its_append]
            simp [its]
        case measure => simp [lenV]; omega
      · rw [if_neg hyt] at HF
        have hd : (yt != ov) = true := by simp [hyt]
        have hg8 := hG7.ext hB (ext_drewN W6 1)
        have hI8 := hI7.ext (ext_drewN W6 1)
        have hown8 := hown7.ext (ext_drewN W6 1)
        have hzs8 : ∀ z ∈ zs ++ [(⟨⟨a, n, turn, shut, ws⟩, A', c'⟩ : Iv)], IvOk W6.drew B z := fun z hz => (hzs7 z hz).ext (ext_drewN W6 1)
        have HX : Hid (∃ ys : List Iv, Own elIv W6.drew w.heap.size (.slice A2 (zs.length + 1) c2) ys ∧ its ys = (rowF s.cnt s ⟨a, n0, turn0, shut0, ws0⟩).2 ∧ (∀ z ∈ ys, IvOk W6.drew B z) ∧
            ∃ m', IntAt W6.drew B A c rs lev m' (rowF s.cnt s ⟨a, n0, turn0, shut0, ws0⟩).1 ∧ IntGo B w m W6.drew m') := by
          refine ⟨_, (by have := hown8.le (base' := w.heap.size) (by omega); simp only [List.length_append, List.length_singleton] at this; exact this), ?_, hzs8, m3, ?_, hg8⟩
          · rw [HR.out, HF.out, its_append]; rfl
          · rw [HR.out, HF.out]; exact hI8
        clear hI7 hown7 hdis5 hzs7 hg8 hI8 hown8 hzs8 hG7 HF hmg3 hb7 hno5 hno2 hmg2 hmg b6
        refine wp_region_planH3 (.reads 0 (.reads 1 (.reads 2 (.reads 3 (.reads 4 (.reads 5 (.reads 6 (.reads 7 (.reads 8 (.reads 9 (.reads 10 (.reads 11 (.reads 12 (.reads 13 (.done))))))))))))))) (by kernel_rfl) (by kernel_rfl) (fun x' => Ext W6 x') (ext_drewN _ 1) (fun ops HOPS => ?_)
        (refine segH_pure _ _ _ _ _ _ (hid_get HOPS 0 _ rfl) rfl wanted_none (fun _ _ _ _ h => h) ?_; intro K hK; go_big_quiet_op; go_big_quiet_on)
        (refine segH_pure _ _ _ _ _ _ (hid_get HOPS 1 _ rfl) rfl wanted_none (fun _ _ _ _ h => h) ?_; intro K hK; go_big_quiet_op; go_big_quiet_on)
        (refine segH_pure _ _ _ _ _ _ (hid_get HOPS 2 _ rfl) rfl wanted_none (fun _ _ _ _ h => h) ?_; intro K hK; go_big_quiet_op; go_big_quiet_on)
        first | (refine segH_pass _ _ _ _ _ _ (hid_get HOPS 3 _ rfl) (wanted_some (hid_get HOPS 2 _ rfl) rfl rfl rfl) (fun _ _ _ _ h => h) ?_; simp only [Act.put, List.setIfInBounds_toArray, List.set_cons_zero, List.set_cons_succ]) | (refine segH_pure _ _ _ _ _ _ (hid_get HOPS 3 _ rfl) rfl (wanted_some (hid_get HOPS 2 _ rfl) rfl rfl rfl) (fun _ _ _ _ h => h) ?_; intro K hK; go_big_quiet_op; go_big_quiet_on) | (refine segH_pass _ _ _ _ _ _ (hid_get HOPS 3 _ rfl) (wanted_gone (hid_get HOPS 2 _ rfl) rfl rfl) (fun _ _ _ _ h => h) ?_; simp only [Act.put, List.setIfInBounds_toArray, List.set_cons_zero, List.set_cons_succ])
        first | (refine segH_pass _ _ _ _ _ _ (hid_get HOPS 4 _ rfl) (wanted_some (hid_get HOPS 2 _ rfl) rfl rfl rfl) (fun _ _ _ _ h => h) ?_; simp only [Act.put, List.setIfInBounds_toArray, List.set_cons_zero, List.set_cons_succ]) | (refine segH_load _ _ _ _ _ _ _ _ _ (hid_get HOPS 4 _ rfl) (wanted_some (hid_get HOPS 2 _ rfl) rfl rfl rfl) rfl (fun _ _ _ _ h => h) (fun y hy => by go_simp; try with_reducible rfl) ?_; simp only [Act.put, List.setIfInBounds_toArray, List.set_cons_zero, List.set_cons_succ]) | (refine segH_pass _ _ _ _ _ _ (hid_get HOPS 4 _ rfl) (wanted_gone (hid_get HOPS 2 _ rfl) rfl rfl) (fun _ _ _ _ h => h) ?_; simp only [Act.put, List.setIfInBounds_toArray, List.set_cons_zero, List.set_cons_succ])
        first | (refine segH_pass _ _ _ _ _ _ (hid_get HOPS 5 _ rfl) (wanted_some (hid_get HOPS 2 _ rfl) rfl rfl rfl) (fun _ _ _ _ h => h) ?_; simp only [Act.put, List.setIfInBounds_toArray, List.set_cons_zero, List.set_cons_succ]) | (refine segH_pure _ _ _ _ _ _ (hid_get HOPS 5 _ rfl) rfl (wanted_some (hid_get HOPS 2 _ rfl) rfl rfl rfl) (fun _ _ _ _ h => h) ?_; intro K hK; go_big_quiet_op; go_big_quiet_on) | (refine segH_pass _ _ _ _ _ _ (hid_get HOPS 5 _ rfl) (wanted_gone (hid_get HOPS 2 _ rfl) rfl rfl) (fun _ _ _ _ h => h) ?_; simp only [Act.put, List.setIfInBounds_toArray, List.set_cons_zero, List.set_cons_succ])
        first | (refine segH_pass _ _ _ _ _ _ (hid_get HOPS 6 _ rfl) (wanted_some (hid_get HOPS 2 _ rfl) rfl rfl rfl) (fun _ _ _ _ h => h) ?_; simp only [Act.put, List.setIfInBounds_toArray, List.set_cons_zero, List.set_cons_succ]) | (refine segH_pure _ _ _ _ _ _ (hid_get HOPS 6 _ rfl) rfl (wanted_some (hid_get HOPS 2 _ rfl) rfl rfl rfl) (fun _ _ _ _ h => h) ?_; intro K hK; go_big_quiet_op; go_big_quiet_on) | (refine segH_pass _ _ _ _ _ _ (hid_get HOPS 6 _ rfl) (wanted_gone (hid_get HOPS 2 _ rfl) rfl rfl) (fun _ _ _ _ h => h) ?_; simp only [Act.put, List.setIfInBounds_toArray, List.set_cons_zero, List.set_cons_succ])
        first | (refine segH_pass _ _ _ _ _ _ (hid_get HOPS 7 _ rfl) (wanted_some (hid_get HOPS 2 _ rfl) rfl rfl rfl) (fun _ _ _ _ h => h) ?_; simp only [Act.put, List.setIfInBounds_toArray, List.set_cons_zero, List.set_cons_succ]) | (refine segH_load _ _ _ _ _ _ _ _ _ (hid_get HOPS 7 _ rfl) (wanted_some (hid_get HOPS 2 _ rfl) rfl rfl rfl) rfl (fun _ _ _ _ h => h) (fun y hy => by go_simp; try with_reducible rfl) ?_; simp only [Act.put, List.setIfInBounds_toArray, List.set_cons_zero, List.set_cons_succ]) | (refine segH_pass _ _ _ _ _ _ (hid_get HOPS 7 _ rfl) (wanted_gone (hid_get HOPS 2 _ rfl) rfl rfl) (fun _ _ _ _ h => h) ?_; simp only [Act.put, List.setIfInBounds_toArray, List.set_cons_zero, List.set_cons_succ])
        first | (refine segH_pass _ _ _ _ _ _ (hid_get HOPS 8 _ rfl) (wanted_some (hid_get HOPS 2 _ rfl) rfl rfl rfl) (fun _ _ _ _ h => h) ?_; simp only [Act.put, List.setIfInBounds_toArray, List.set_cons_zero, List.set_cons_succ]) | (refine segH_nil _ _ _ _ _ _ _ (hid_get HOPS 8 _ rfl) (wanted_some (hid_get HOPS 2 _ rfl) rfl rfl rfl) rfl (fun _ _ _ _ h => h) ?_; simp only [Act.put, List.setIfInBounds_toArray, List.set_cons_zero, List.set_cons_succ]) | (refine segH_pass _ _ _ _ _ _ (hid_get HOPS 8 _ rfl) (wanted_gone (hid_get HOPS 2 _ rfl) rfl rfl) (fun _ _ _ _ h => h) ?_; simp only [Act.put, List.setIfInBounds_toArray, List.set_cons_zero, List.set_cons_succ])
        first | (refine segH_pass _ _ _ _ _ _ (hid_get HOPS 9 _ rfl) (wanted_some (hid_get HOPS 2 _ rfl) rfl rfl rfl) (fun _ _ _ _ h => h) ?_; simp only [Act.put, List.setIfInBounds_toArray, List.set_cons_zero, List.set_cons_succ]) | (refine segH_pure _ _ _ _ _ _ (hid_get HOPS 9 _ rfl) rfl (wanted_some (hid_get HOPS 2 _ rfl) rfl rfl rfl) (fun _ _ _ _ h => h) ?_; intro K hK; go_big_quiet_op; go_big_quiet_on) | (refine segH_pass _ _ _ _ _ _ (hid_get HOPS 9 _ rfl) (wanted_gone (hid_get HOPS 2 _ rfl) rfl rfl) (fun _ _ _ _ h => h) ?_; simp only [Act.put, List.setIfInBounds_toArray, List.set_cons_zero, List.set_cons_succ])
        first | (refine segH_pass _ _ _ _ _ _ (hid_get HOPS 10 _ rfl) (wanted_some (hid_get HOPS 2 _ rfl) rfl rfl rfl) (fun _ _ _ _ h => h) ?_; simp only [Act.put, List.setIfInBounds_toArray, List.set_cons_zero, List.set_cons_succ]) | (refine segH_pure _ _ _ _ _ _ (hid_get HOPS 10 _ rfl) rfl (wanted_some (hid_get HOPS 2 _ rfl) rfl rfl rfl) (fun _ _ _ _ h => h) ?_; intro K hK; go_big_quiet_op; go_big_quiet_on) | (refine segH_pass _ _ _ _ _ _ (hid_get HOPS 10 _ rfl) (wanted_gone (hid_get HOPS 2 _ rfl) rfl rfl) (fun _ _ _ _ h => h) ?_; simp only [Act.put, List.setIfInBounds_toArray, List.set_cons_zero, List.set_cons_succ])
        first | (refine segH_pass _ _ _ _ _ _ (hid_get HOPS 11 _ rfl) (wanted_some (hid_get HOPS 2 _ rfl) rfl rfl rfl) (fun _ _ _ _ h => h) ?_; simp only [Act.put, List.setIfInBounds_toArray, List.set_cons_zero, List.set_cons_succ]) | (refine segH_load _ _ _ _ _ _ _ _ _ (hid_get HOPS 11 _ rfl) (wanted_some (hid_get HOPS 2 _ rfl) rfl rfl rfl) rfl (fun _ _ _ _ h => h) (fun y hy => by go_simp; try with_reducible rfl) ?_; simp only [Act.put, List.setIfInBounds_toArray, List.set_cons_zero, List.set_cons_succ]) | (refine segH_pass _ _ _ _ _ _ (hid_get HOPS 11 _ rfl) (wanted_gone (hid_get HOPS 2 _ rfl) rfl rfl) (fun _ _ _ _ h => h) ?_; simp only [Act.put, List.setIfInBounds_toArray, List.set_cons_zero, List.set_cons_succ])
        first | (refine segH_pass _ _ _ _ _ _ (hid_get HOPS 12 _ rfl) (wanted_some (hid_get HOPS 2 _ rfl) rfl rfl rfl) (fun _ _ _ _ h => h) ?_; simp only [Act.put, List.setIfInBounds_toArray, List.set_cons_zero, List.set_cons_succ]) | (refine segH_pure _ _ _ _ _ _ (hid_get HOPS 12 _ rfl) rfl (wanted_some (hid_get HOPS 2 _ rfl) rfl rfl rfl) (fun _ _ _ _ h => h) ?_; intro K hK; go_big_quiet_op; go_big_quiet_on) | (refine segH_pass _ _ _ _ _ _ (hid_get HOPS 12 _ rfl) (wanted_gone (hid_get HOPS 2 _ rfl) rfl rfl) (fun _ _ _ _ h => h) ?_; simp only [Act.put, List.setIfInBounds_toArray, List.set_cons_zero, List.set_cons_succ])
        (refine segH_pure _ _ _ _ _ _ (hid_get HOPS 13 _ rfl) rfl wanted_none (fun _ _ _ _ h => h) ?_; intro K hK; go_big_quiet_op; go_big_quiet_on)
        refine seg_done ?_
        clear HOPS
        clear y0 y1 y2 hd
        go_wp2
        obtain ⟨ys, h1, h2, h3, m', h4, h5⟩ := HX.out
        go_ret
        exact ⟨_, ys, m', rfl, h1, h2, h3, h4, h5⟩
end
end Go.Proofs.Ytdknkbpgkkakhaa

/- Layer 20: Put. -/
namespace Go.Proofs.Ytdknkbpgkkakhaa
open Go.RowKit Go.Maps
open Go.ChangeMaps (setBlock)

section
variable {w w' : World} {B : Nat} {A : Option Addr} {c : Nat} {rs : List Rw} {lev : Int} {m : IntMem} {s : IntSt}
theorem IntInv.mono {K K' : Nat} (h : IntInv s K) (hK : K ≤ K') : IntInv s K' := ⟨h.nums, h.held, Nat.le_trans h.came hK⟩
theorem IntInv.rowF {K : Nat} : ∀ (k : Nat) (s : IntSt) (x : It), s.cnt = k → IntInv s K → x.is = true → x.n = s.have_ x.level.toNat + 1 → IntInv (rowF k s x).1 (K + 1) := by
  intro k
  induction k with
  | zero =>
    intro s x _ h hx hn
    exact (h.mono (Nat.le_succ K)).row hx hn h.came
  | succ k ih =>
    intro s x hk h hx hn
    have h1 := (h.mono (Nat.le_succ K)).row hx hn h.came
    unfold Ytdknkbpgkkakhaa.rowF
    cases hh : s.held (x.level, x.n + 1) with
    | none => exact h1
    | some y =>
      dsimp only
      split
      · obtain ⟨i1, i2, i3⟩ := (h.mono (Nat.le_succ K)).row_next hx hn hh
        have hc : (letsSt (comesSt s x) (x.level, x.n + 1)).cnt = k := by
          rw [letsSt_cnt (y := y) (by rw [comesSt_held]; exact hh), comesSt_cnt, hk]; rfl
        refine ih _ y hc ⟨h1.nums, h1.held, ?_⟩ i1 i3
        rw [hc, letsSt_came, comesSt_came]
        have := h.came
        split <;> simp <;> omega
      · exact h1
/-- What Put tells and what it leaves. -/
def putN (ms : Mat) (lev : Int) (s : IntSt) (x : It) : Nat :=
  if x.is = true then
    if labove ms lev x.level = true then
      if x.n ≤ s.have_ x.level.toNat ∨ (s.held (x.level, x.n)).isSome = true then 0
      else if s.have_ x.level.toNat + 1 < x.n then holdsN s
      else if x.turn = s.over x.level.toNat then 0 else 22
    else 20
  else 10
def putSt (ms : Mat) (lev : Int) (s : IntSt) (x : It) : IntSt × List It :=
  if x.is = true then
    if labove ms lev x.level = true then
      if x.n ≤ s.have_ x.level.toNat ∨ (s.held (x.level, x.n)).isSome = true then (s, [])
      else if s.have_ x.level.toNat + 1 < x.n then (holdsSt s x, [])
      else if x.turn = s.over x.level.toNat then rowF s.cnt s x else (s, [])
    else (s, [])
  else (s, [])
theorem IntInv.put {K : Nat} (h : IntInv s K) (ms : Mat) (x : It) : IntInv (putSt ms lev s x).1 (K + 1) := by
  have h1 := h.mono (Nat.le_succ K)
  unfold putSt
  split
  · rename_i hx
    split
    · split
      · exact h1
      · rename_i hno
        split
        · unfold holdsSt
          split
          · refine ⟨h.nums, fun k y hk => ?_, ?_⟩
            · dsimp only at hk
              split at hk
              · injection hk with hk
                subst hk
                rename_i e
                exact ⟨e.symm, hx⟩
              · exact h.held k y hk
            · have := h.came
              show s.came.length + (s.cnt + 1) ≤ _
              omega
          · exact h1
        · split
          · exact h.rowF _ _ _ rfl hx (by omega)
          · exact h1
    · exact h1
  · exact h1
def PutPost (w : World) (B : Nat) (A : Option Addr) (c : Nat) (rs : List Rw) (lev : Int) (m : IntMem) (s : IntSt) (x : It) (e : Ending) (w' : World) : Prop :=
  ∃ v zs m', e = .returned (.tuple #[v, .int .i64 (putN (mat rs) lev s x : Int)]) ∧ Own elIv w' w.heap.size v zs ∧ its zs = (putSt (mat rs) lev s x).2 ∧ (∀ z ∈ zs, IvOk w' B z) ∧ IntAt w' B A c rs lev m' (putSt (mat rs) lev s x).1 ∧ IntGo B w m w' m'
theorem putPost_nil {x : It} {n : Nat} (h : IntAt w' B A c rs lev m s) (k : IntGo B w m w' m) (hn : putN (mat rs) lev s x = n) (hs : putSt (mat rs) lev s x = (s, [])) :
    PutPost w B A c rs lev m s x (.returned (.tuple #[.slice none 0 0, .int .i64 (n : Int)])) w' :=
  ⟨_, [], m, by rw [hn], Own.nil _ _, by rw [hs]; rfl, by simp, by rw [hs]; exact h, k⟩
set_option maxRecDepth 100000 in
set_option maxHeartbeats 4000000 in
theorem intPut_any (h : IntAt w B A c rs lev m s) (x : Iv) (hx : IvOk w B x) {K : Nat} (hi : IntInv s K) (hK : K < 1000000) (hl : rs.length ≤ 9223372036854775807) :
    Calls Try.prog 77 #[.pointer (some ⟨m.ga, 0, none⟩), .agg #[.int .i64 x.it.level, .int .i64 x.it.n, .int .i64 x.it.turn, .bool x.it.shut, .slice x.A x.it.ws.length x.c]] w (PutPost w B A c rs lev m s x.it) := by
  obtain ⟨⟨level, n, turn, shut, ws⟩, Ax, cx⟩ := x
  dsimp only
  have hB := h.base_le
  obtain ⟨W, hW⟩ : ∃ W, W = w.alloc (.cells #[.int .i64 level, .int .i64 n, .int .i64 turn, .bool shut, .slice Ax ws.length cx] 33) := ⟨_, rfl⟩
  have x0 : Ext w W := by rw [hW]; exact ext_alloc _ _
  have b0 : Blk W w.heap.size 33 #[.int .i64 level, .int .i64 n, .int .i64 turn, .bool shut, .slice Ax ws.length cx] := by rw [hW]; exact Blk.new _ _ _
  have HI := h.ext x0
  have hgo := IntGo.of_ext x0 hB m
  have hx1 := hx.ext x0
  have HW : Hid (w.alloc (.cells #[.int .i64 level, .int .i64 n, .int .i64 turn, .bool shut, .slice Ax ws.length cx] 33) = W) := hW.symm
  have hown : Hid (¬ IntOwn m w.heap.size) := fun e => by have := (h.own_lt e).2; omega
  have HINV := Lib.hid (And.intro hi hK)
  clear hW h hx x0 hi hK
  go_enter Try.func77, Try.ntmps77
  go_upto_region 1 with fail
  rw [HW.out]
  clear HW
  obtain ⟨gx, hgx⟩ : ∃ gx, gx = w.heap.size := ⟨_, rfl⟩
  rw [← hgx] at b0 hown ⊢
  have HGX : w.heap.size ≤ gx ∧ gx ≤ w.heap.size := ⟨Nat.le_of_eq hgx.symm, Nat.le_of_eq hgx⟩
  clear hgx
  have r0 := b0.cell 0
  have r1 := b0.cell 1
  have r2 := b0.cell 2
  have r3 := b0.cell 3
  have r4 := b0.cell 4
  simp only [List.getElem?_toArray, List.getElem?_cons_zero, List.getElem?_cons_succ] at r0 r1 r2 r3 r4
  go_wp2_with fail
  refine (itemIs_any (⟨level, n, turn, shut, ws⟩ : It) _ _ _ B hx1.at_ hx1.wr hx1.le).mono ?_
  rintro e w1 ⟨rfl, x1⟩
  clear r0 r1 r2 r3 r4
  replace b0 := b0.ext x1
  replace HI := HI.ext x1
  replace hgo := hgo.ext hB x1
  replace hx1 := hx1.ext x1
  clear x1 W
  rename World => W
  cases hxi : It.is ⟨level, n, turn, shut, ws⟩
  · have HF : Hid (PutPost w B A c rs lev m s ⟨level, n, turn, shut, ws⟩ (.returned (.tuple #[.slice none 0 0, .int .i64 (10 : Int)])) W) := putPost_nil (n := 10) HI hgo (by unfold putN; rw [if_neg (by rw [hxi]; exact Bool.false_ne_true)]) (by unfold putSt; rw [if_neg (by rw [hxi]; exact Bool.false_ne_true)])
    clear HI hgo b0 hx1 hown HINV
    go_wp2
    go_ret2
    exact HF.out
  obtain ⟨a, ha, rfl⟩ : ∃ a : Nat, a < 6 ∧ level = (a : Int) := by
    have := (It.is_nums hxi).1.1
    dsimp only at this
    exact ⟨level.toNat, by omega, by omega⟩
  have HXI := Lib.hid hxi
  have HNN := Lib.hid (It.is_nums hxi)
  have HN : Hid (putN (mat rs) lev s ⟨a, n, turn, shut, ws⟩ = if labove (mat rs) lev a = true then if n ≤ s.have_ a ∨ (s.held ((a : Int), n)).isSome = true then 0 else if s.have_ a + 1 < n then holdsN s else if turn = s.over a then 0 else 22 else 20) := by
    show _ = _
    unfold putN
    rw [if_pos hxi]; rfl
  have HS : Hid (putSt (mat rs) lev s ⟨a, n, turn, shut, ws⟩ = if labove (mat rs) lev a = true then if n ≤ s.have_ a ∨ (s.held ((a : Int), n)).isSome = true then (s, []) else if s.have_ a + 1 < n then (holdsSt s ⟨a, n, turn, shut, ws⟩, []) else if turn = s.over a then rowF s.cnt s ⟨a, n, turn, shut, ws⟩ else (s, []) else (s, [])) := by
    show _ = _
    unfold putSt
    rw [if_pos hxi]; rfl
  clear hxi
  go_upto_region 3 with fail
  have f0 := b0.cell 0
  have f1 := HI.blk.cell 0
  have f2 := HI.blk.cell 1
  rw [HI.lat] at f1
  rw [HI.lev_] at f2
  simp only [List.getElem?_toArray, List.getElem?_cons_zero, List.getElem?_cons_succ] at f0
  have y0 := fun x' (hx : Ext W x') => ext_cell hx f0
  have y1 := fun x' (hx : Ext W x') => ext_cell hx f1
  have y2 := fun x' (hx : Ext W x') => ext_cell hx f2
  clear f0 f1 f2
  refine wp_region_planH3 (.reads 0 (.reads 1 (.reads 2 (.reads 3 (.reads 4 (.reads 5 (.reads 6 (.reads 7 (.reads 8 (.reads 9 (.makes 10 (.reads 11 (.reads 12 (.done)))))))))))))) (by kernel_rfl) (by kernel_rfl) (fun x' => Ext W x') (ext_drewN W 1) (fun ops HOPS => ?_)
  (refine segH_pure _ _ _ _ _ _ (hid_get HOPS 0 _ rfl) rfl wanted_none (fun _ _ _ _ h => h) ?_; intro K hK; go_big_quiet_op; go_big_quiet_on)
  (refine segH_nil _ _ _ _ _ _ _ (hid_get HOPS 1 _ rfl) wanted_none rfl (fun _ _ _ _ h => h) ?_; simp only [Act.put, List.setIfInBounds_toArray, List.set_cons_zero, List.set_cons_succ])
  (refine segH_pure _ _ _ _ _ _ (hid_get HOPS 2 _ rfl) rfl wanted_none (fun _ _ _ _ h => h) ?_; intro K hK; go_big_quiet_op; go_big_quiet_on)
  (refine segH_load _ _ _ _ _ _ _ _ _ (hid_get HOPS 3 _ rfl) wanted_none rfl (fun _ _ _ _ h => h) (fun y hy => by go_simp; try with_reducible rfl) ?_; simp only [Act.put, List.setIfInBounds_toArray, List.set_cons_zero, List.set_cons_succ])
  (refine segH_pure _ _ _ _ _ _ (hid_get HOPS 4 _ rfl) rfl wanted_none (fun _ _ _ _ h => h) ?_; intro K hK; go_big_quiet_op; go_big_quiet_on)
  (refine segH_nil _ _ _ _ _ _ _ (hid_get HOPS 5 _ rfl) wanted_none rfl (fun _ _ _ _ h => h) ?_; simp only [Act.put, List.setIfInBounds_toArray, List.set_cons_zero, List.set_cons_succ])
  (refine segH_pure _ _ _ _ _ _ (hid_get HOPS 6 _ rfl) rfl wanted_none (fun _ _ _ _ h => h) ?_; intro K hK; go_big_quiet_op; go_big_quiet_on)
  (refine segH_load _ _ _ _ _ _ _ _ _ (hid_get HOPS 7 _ rfl) wanted_none rfl (fun _ _ _ _ h => h) (fun y hy => by go_simp; try with_reducible rfl) ?_; simp only [Act.put, List.setIfInBounds_toArray, List.set_cons_zero, List.set_cons_succ])
  (refine segH_pure _ _ _ _ _ _ (hid_get HOPS 8 _ rfl) rfl wanted_none (fun _ _ _ _ h => h) ?_; intro K hK; go_big_quiet_op; go_big_quiet_on)
  (refine segH_load _ _ _ _ _ _ _ _ _ (hid_get HOPS 9 _ rfl) wanted_none rfl (fun _ _ _ _ h => h) (fun y hy => by go_simp; try with_reducible rfl) ?_; simp only [Act.put, List.setIfInBounds_toArray, List.set_cons_zero, List.set_cons_succ])
  refine segH_makes _ _ _ _ _ _ (hid_get HOPS 10 _ rfl) wanted_none (fun K hK => ?_)
  go_big_op
  refine (latAbove_any A c rs lev (a : Int) _ B (HI.mat.ext (ext_drewN W 1)) hl).mono ?_
  rintro e w1 ⟨rfl, x1⟩
  have xx : Ext W w1 := ext_trans (ext_drewN W 1) x1
  refine hK _ _ (fun x' => Ext W x') xx (fun _ h => h) ?_
  clear hK
  (refine segH_pure _ _ _ _ _ _ (hid_get HOPS 11 _ rfl) rfl wanted_none (fun _ _ _ _ h => h) ?_; intro K hK; go_big_quiet_op; go_big_quiet_on)
  (refine segH_pure _ _ _ _ _ _ (hid_get HOPS 12 _ rfl) rfl wanted_none (fun _ _ _ _ h => h) ?_; intro K hK; go_big_quiet_op; go_big_quiet_on)
  refine seg_done ?_
  clear HOPS
  clear y0 y1 y2 x1
  replace b0 := b0.ext xx
  replace HI := HI.ext xx
  replace hgo := hgo.ext hB xx
  replace hx1 := hx1.ext xx
  clear xx W
  rename World => W
  cases hab : labove (mat rs) lev (a : Int)
  · have HF : Hid (PutPost w B A c rs lev m s ⟨a, n, turn, shut, ws⟩ (.returned (.tuple #[.slice none 0 0, .int .i64 (20 : Int)])) W) := putPost_nil (n := 20) HI hgo (by rw [HN.out, hab]; rfl) (by rw [HS.out, hab]; rfl)
    clear HI hgo b0 hx1 hown HINV
    go_wp2
    go_ret2
    exact HF.out
  rw [hab, if_pos rfl] at HN
  rw [hab, if_pos rfl] at HS
  clear hab
  have r0 := b0.cell 0
  have r1 := b0.cell 1
  simp only [List.getElem?_toArray, List.getElem?_cons_zero, List.getElem?_cons_succ] at r0 r1
  go_upto_region 6 with fail
  obtain ⟨V, hV⟩ : ∃ V, V = W.alloc (.cells #[.int .i64 (a : Int), .int .i64 n] 143) := ⟨_, rfl⟩
  have xv : Ext W V := by rw [hV]; exact ext_alloc _ _
  have bv : Blk V W.heap.size 143 #[.int .i64 (a : Int), .int .i64 n] := by rw [hV]; exact Blk.new _ _ _
  rw [← hV]
  replace b0 := b0.ext xv
  replace HI := HI.ext xv
  replace hgo := hgo.ext hB xv
  replace hx1 := hx1.ext xv
  clear hV r0 r1 xv
  obtain ⟨gv, hgv⟩ : ∃ gv, gv = W.heap.size := ⟨_, rfl⟩
  rw [← hgv] at bv ⊢
  clear hgv W
  rename World => W
  have f0 := b0.cell 0
  have f1 := HI.blk.cell (2 + a)
  rw [HI.hav a ha] at f1
  simp only [List.getElem?_toArray, List.getElem?_cons_zero] at f0
  have y0 := fun x' (hx : Ext W x') => ext_cell hx f0
  have y1 := fun x' (hx : Ext W x') => ext_cell hx f1
  obtain ⟨hv, hhv⟩ : ∃ hv, hv = s.have_ a := ⟨_, rfl⟩
  rw [← hhv] at y1 HN HS
  have HHV := Lib.hid hhv
  have hnum : 0 ≤ hv ∧ hv ≤ 1000000 := by rw [hhv]; have := HINV.out.1.nums a; omega
  have hwr : IntKind.i64.wrap (hv + 1) = hv + 1 := IntWalk.i64_in _ (by omega)
  have HNUM := Lib.hid hnum
  clear f0 f1 hhv hnum
  refine wp_region_planH3 (.reads 0 (.reads 1 (.reads 2 (.reads 3 (.reads 4 (.reads 5 (.reads 6 (.reads 7 (.reads 8 (.done)))))))))) (by kernel_rfl) (by kernel_rfl) (fun x' => Ext W x') (ext_drewN W 1) (fun ops HOPS => ?_)
  (refine segH_pure _ _ _ _ _ _ (hid_get HOPS 0 _ rfl) rfl wanted_none (fun _ _ _ _ h => h) ?_; intro K hK; go_big_quiet_op; go_big_quiet_on)
  (refine segH_pure _ _ _ _ _ _ (hid_get HOPS 1 _ rfl) rfl wanted_none (fun _ _ _ _ h => h) ?_; intro K hK; go_big_quiet_op; go_big_quiet_on)
  (refine segH_load _ _ _ _ _ _ _ _ _ (hid_get HOPS 2 _ rfl) wanted_none rfl (fun _ _ _ _ h => h) (fun y hy => by go_simp; try with_reducible rfl) ?_; simp only [Act.put, List.setIfInBounds_toArray, List.set_cons_zero, List.set_cons_succ])
  (refine segH_nil _ _ _ _ _ _ _ (hid_get HOPS 3 _ rfl) wanted_none rfl (fun _ _ _ _ h => h) ?_; simp only [Act.put, List.setIfInBounds_toArray, List.set_cons_zero, List.set_cons_succ])
  (refine segH_pure _ _ _ _ _ _ (hid_get HOPS 4 _ rfl) rfl wanted_none (fun _ _ _ _ h => h) ?_; intro K hK; go_big_quiet_op; go_big_quiet_on)
  (refine segH_pure _ _ _ _ _ _ (hid_get HOPS 5 _ rfl) rfl wanted_none (fun _ _ _ _ h => h) ?_; intro K hK; go_big_quiet_op; go_big_quiet_on)
  (refine segH_load _ _ _ _ _ _ _ _ _ (hid_get HOPS 6 _ rfl) wanted_none rfl (fun _ _ _ _ h => h) (fun y hy => by go_simp; try with_reducible rfl) ?_; simp only [Act.put, List.setIfInBounds_toArray, List.set_cons_zero, List.set_cons_succ])
  (refine segH_pure _ _ _ _ _ _ (hid_get HOPS 7 _ rfl) rfl wanted_none (fun _ _ _ _ h => h) ?_; intro K hK; go_big_quiet_op; go_big_quiet_on)
  (refine segH_pure _ _ _ _ _ _ (hid_get HOPS 8 _ rfl) rfl wanted_none (fun _ _ _ _ h => h) ?_; intro K hK; go_big_quiet_op; go_big_quiet_on)
  refine seg_done ?_
  clear HOPS
  obtain ⟨W1, hW1⟩ : ∃ W1, W1 = W.drew := ⟨_, rfl⟩
  have xx : Ext W W1 := by rw [hW1]; exact ext_drewN W 1
  rw [← hW1]
  clear hW1 y0 y1 hwr
  replace b0 := b0.ext xx
  replace bv := bv.ext xx
  replace HI := HI.ext xx
  replace hgo := hgo.ext hB xx
  replace hx1 := hx1.ext xx
  clear xx W
  rename World => W
  go_upto_region 7 with fail
  have f0 := bv.cell 0
  have f1 := bv.cell 1
  have f2 := HI.blk.cell 14
  rw [HI.mapc] at f2
  simp only [List.getElem?_toArray, List.getElem?_cons_zero, List.getElem?_cons_succ] at f0 f1
  have y0 := fun x' (hx : Ext W x') => ext_cell hx f0
  have y1 := fun x' (hx : Ext W x') => ext_cell hx f1
  have y2 := fun x' (hx : Ext W x') => ext_cell hx f2
  clear f0 f1 f2
  obtain ⟨l, hl'⟩ := key143 (x := ((a : Int), n)) (wf64_of (by omega)) (wf64_of (by have := HNN.out.1.2; omega))
  have hlk1 : ∀ x', Ext W x' → (Instr.lookup 137 (.map (some m.mo)) (.agg #[.int .i64 (a : Int), .int .i64 n]) true).run Try.prog x' = .ok (.tuple #[(m.fh ((a : Int), n)).getD (.agg #[.int .i64 0, .int .i64 0, .int .i64 0, .bool false, .slice none 0 0]), .bool (m.fh ((a : Int), n)).isSome]) x' := fun x' hx => (HI.map.ext hx).look keyed143 ul137 (zero33i x') wayV_inj hl'
  clear hl' l
  rcases HI.helds ((a : Int), n) with ⟨e1, e2⟩ | ⟨y, e1, e2, hy⟩
  · simp only [e1, Option.getD_none, Option.isSome_none] at hlk1
    have hlk2 := hlk1
    refine wp_region_planH3 (.reads 0 (.reads 1 (.reads 2 (.reads 3 (.reads 4 (.reads 5 (.reads 6 (.reads 7 (.reads 8 (.makes 9 (.makes 10 (.reads 11 (.done))))))))))))) (by kernel_rfl) (by kernel_rfl) (fun x' => Ext W x') (ext_drewN W 1) (fun ops HOPS => ?_)
    (refine segH_pure _ _ _ _ _ _ (hid_get HOPS 0 _ rfl) rfl wanted_none (fun _ _ _ _ h => h) ?_; intro K hK; go_big_quiet_op; go_big_quiet_on)
    (refine segH_nil _ _ _ _ _ _ _ (hid_get HOPS 1 _ rfl) wanted_none rfl (fun _ _ _ _ h => h) ?_; simp only [Act.put, List.setIfInBounds_toArray, List.set_cons_zero, List.set_cons_succ])
    (refine segH_pure _ _ _ _ _ _ (hid_get HOPS 2 _ rfl) rfl wanted_none (fun _ _ _ _ h => h) ?_; intro K hK; go_big_quiet_op; go_big_quiet_on)
    (refine segH_load _ _ _ _ _ _ _ _ _ (hid_get HOPS 3 _ rfl) wanted_none rfl (fun _ _ _ _ h => h) (fun y hy => by go_simp; try with_reducible rfl) ?_; simp only [Act.put, List.setIfInBounds_toArray, List.set_cons_zero, List.set_cons_succ])
    (refine segH_load _ _ _ _ _ _ _ _ _ (hid_get HOPS 4 _ rfl) wanted_none rfl (fun _ _ _ _ h => h) (fun y hy => by go_simp; try with_reducible rfl) ?_; simp only [Act.put, List.setIfInBounds_toArray, List.set_cons_zero, List.set_cons_succ])
    (refine segH_lookup _ _ _ _ _ _ _ _ _ _ _ _ (hid_get HOPS 5 _ rfl) wanted_none rfl rfl (fun _ _ _ _ h => h) (fun y hy => by first | exact hlk1 y hy | exact hlk2 y hy) ?_; simp only [Act.put, List.setIfInBounds_toArray, List.set_cons_zero, List.set_cons_succ])
    (refine segH_pure _ _ _ _ _ _ (hid_get HOPS 6 _ rfl) rfl wanted_none (fun _ _ _ _ h => h) ?_; intro K hK; go_big_quiet_op; go_big_quiet_on)
    (refine segH_pure _ _ _ _ _ _ (hid_get HOPS 7 _ rfl) rfl wanted_none (fun _ _ _ _ h => h) ?_; intro K hK; go_big_quiet_op; go_big_quiet_on)
    (refine segH_pure _ _ _ _ _ _ (hid_get HOPS 8 _ rfl) rfl wanted_none (fun _ _ _ _ h => h) ?_; intro K hK; go_big_quiet_op; go_big_quiet_on)
    refine segH_makes _ _ _ _ _ _ (hid_get HOPS 9 _ rfl) wanted_none (fun K hK => ?_)
    go_big_op
    have xd : Ext W (W.alloc (.cells #[.int .i64 0, .int .i64 0, .int .i64 0, .bool false, .slice none 0 0] 33)).drew := ext_trans (ext_alloc _ _) (ext_drewN _ 1)
    have b2 := Blk.new W 33 #[.int .i64 0, .int .i64 0, .int .i64 0, .bool false, .slice none 0 0]
    have q0 := b2.cell 0
    have q1 := b2.cell 1
    have q2 := b2.cell 2
    have q3 := b2.cell 3
    have q4 := b2.cell 4
    have fz := b2.frozen
    simp only [List.getElem?_toArray, List.getElem?_cons_zero, List.getElem?_cons_succ] at q0 q1 q2 q3 q4
    refine hK _ _ (fun x' => Ext W x') xd (fun _ h => h) ?_
    clear hK
    refine segH_makes _ _ _ _ _ _ (hid_get HOPS 10 _ rfl) wanted_none (fun K hK => ?_)
    go_big_op
    refine hK _ _ (fun x' => Ext W x') xd (fun _ h => h) ?_
    clear hK q0 q1 q2 q3 q4 fz b2
    (refine segH_pure _ _ _ _ _ _ (hid_get HOPS 11 _ rfl) rfl wanted_none (fun _ _ _ _ h => h) ?_; intro K hK; go_big_quiet_op; go_big_quiet_on)
    refine seg_done ?_
    clear HOPS
    clear y0 y1 y2 hlk1 hlk2
    obtain ⟨W1, hW1⟩ : ∃ W1, W1 = (W.alloc (.cells #[.int .i64 0, .int .i64 0, .int .i64 0, .bool false, .slice none 0 0] 33)).drew := ⟨_, rfl⟩
    rw [← hW1] at xd ⊢
    clear hW1 e1
    replace b0 := b0.ext xd
    replace HI := HI.ext xd
    replace hgo := hgo.ext hB xd
    replace hx1 := hx1.ext xd
    have HSZ : Hid (B ≤ W1.heap.size) := by have := HI.base_le; exact this
    clear xd bv
    obtain ⟨gq, hgq⟩ : ∃ gq, gq = W.heap.size := ⟨_, rfl⟩
    rw [← hgq]
    clear hgq W
    rename World => W
    have r0 := b0.cell 0
    have r1 := b0.cell 1
    have r2 := b0.cell 2
    have r3 := b0.cell 3
    have r4 := b0.cell 4
    simp only [List.getElem?_toArray, List.getElem?_cons_zero, List.getElem?_cons_succ] at r0 r1 r2 r3 r4
    by_cases hn1 : n < hv + 1
    · have HF : Hid (PutPost w B A c rs lev m s ⟨a, n, turn, shut, ws⟩ (.returned (.tuple #[.slice none 0 0, .int .i64 (0 : Int)])) W) := putPost_nil (n := 0) HI hgo (by rw [HN.out, if_pos (.inl (by omega))]) (by rw [HS.out, if_pos (.inl (by omega))])
      clear HI hgo b0 hx1 hown HINV
      go_wp2
      go_ret2
      exact HF.out
    have hno : ¬ (n ≤ hv ∨ (s.held ((a : Int), n)).isSome = true) := by
      rw [e2]; simp; omega
    rw [if_neg hno] at HN HS
    by_cases hn2 : hv + 1 < n
    · rw [if_pos hn2] at HN HS
      have hcm := intHolds_any HI ⟨⟨a, n, turn, shut, ws⟩, Ax, cx⟩ hx1 (wf64_of (by show _ ≤ (a : Int) ∧ (a : Int) ≤ _; omega)) (wf64_of (by have := HNN.out.1.2; show _ ≤ n ∧ n ≤ _; omega)) e2
      go_wp2_with fail
      refine hcm.mono ?_
      clear hcm r0 r1 r2 r3 r4 b0 hx1
      rintro e w2 ⟨rfl, m2, hI2, hG2⟩
      have HF : Hid (PutPost w B A c rs lev m s ⟨a, n, turn, shut, ws⟩ (.returned (.tuple #[.slice none 0 0, .int .i64 (holdsN s : Int)])) w2) :=
        ⟨_, [], m2, by rw [HN.out], Own.nil _ _, by rw [HS.out]; rfl, by simp, by rw [HS.out]; exact hI2, hgo.trans hG2⟩
      clear HI hgo hI2 hG2 hown HINV
      go_wp2
      go_ret2
      exact HF.out
    rw [if_neg hn2] at HN HS
    obtain rfl : n = hv + 1 := by omega
    go_upto_region 12 with fail
    have f0 := HI.blk.cell (8 + a)
    rw [HI.ovr a ha] at f0
    have y0 := fun x' (hx : Ext W x') => ext_cell hx r0
    have y1 := fun x' (hx : Ext W x') => ext_cell hx r2
    have y2 := fun x' (hx : Ext W x') => ext_cell hx f0
    obtain ⟨ov, hov⟩ : ∃ ov, ov = s.over a := ⟨_, rfl⟩
    rw [← hov] at y2 HN HS
    clear f0 r0 r1 r2 r3 r4 hov
    by_cases hot : turn = ov
    · subst hot
      rw [if_pos rfl] at HN HS
      refine wp_region_planH3 (.reads 0 (.reads 1 (.reads 2 (.reads 3 (.reads 4 (.reads 5 (.reads 6 (.reads 7 (.reads 8 (.reads 9 (.reads 10 (.done)))))))))))) (by kernel_rfl) (by kernel_rfl) (fun x' => Ext W x') (ext_drewN W 1) (fun ops HOPS => ?_)
      (refine segH_pure _ _ _ _ _ _ (hid_get HOPS 0 _ rfl) rfl wanted_none (fun _ _ _ _ h => h) ?_; intro K hK; go_big_quiet_op; go_big_quiet_on)
      (refine segH_load _ _ _ _ _ _ _ _ _ (hid_get HOPS 1 _ rfl) wanted_none rfl (fun _ _ _ _ h => h) (fun y hy => by go_simp; try with_reducible rfl) ?_; simp only [Act.put, List.setIfInBounds_toArray, List.set_cons_zero, List.set_cons_succ])
      (refine segH_pure _ _ _ _ _ _ (hid_get HOPS 2 _ rfl) rfl wanted_none (fun _ _ _ _ h => h) ?_; intro K hK; go_big_quiet_op; go_big_quiet_on)
      (refine segH_pure _ _ _ _ _ _ (hid_get HOPS 3 _ rfl) rfl wanted_none (fun _ _ _ _ h => h) ?_; intro K hK; go_big_quiet_op; go_big_quiet_on)
      (refine segH_load _ _ _ _ _ _ _ _ _ (hid_get HOPS 4 _ rfl) wanted_none rfl (fun _ _ _ _ h => h) (fun y hy => by go_simp; try with_reducible rfl) ?_; simp only [Act.put, List.setIfInBounds_toArray, List.set_cons_zero, List.set_cons_succ])
      (refine segH_nil _ _ _ _ _ _ _ (hid_get HOPS 5 _ rfl) wanted_none rfl (fun _ _ _ _ h => h) ?_; simp only [Act.put, List.setIfInBounds_toArray, List.set_cons_zero, List.set_cons_succ])
      (refine segH_pure _ _ _ _ _ _ (hid_get HOPS 6 _ rfl) rfl wanted_none (fun _ _ _ _ h => h) ?_; intro K hK; go_big_quiet_op; go_big_quiet_on)
      (refine segH_pure _ _ _ _ _ _ (hid_get HOPS 7 _ rfl) rfl wanted_none (fun _ _ _ _ h => h) ?_; intro K hK; go_big_quiet_op; go_big_quiet_on)
      (refine segH_load _ _ _ _ _ _ _ _ _ (hid_get HOPS 8 _ rfl) wanted_none rfl (fun _ _ _ _ h => h) (fun y hy => by go_simp; try with_reducible rfl) ?_; simp only [Act.put, List.setIfInBounds_toArray, List.set_cons_zero, List.set_cons_succ])
      (refine segH_pure _ _ _ _ _ _ (hid_get HOPS 9 _ rfl) rfl wanted_none (fun _ _ _ _ h => h) ?_; intro K hK; go_big_quiet_op; go_big_quiet_on)
      (refine segH_pure _ _ _ _ _ _ (hid_get HOPS 10 _ rfl) rfl wanted_none (fun _ _ _ _ h => h) ?_; intro K hK; go_big_quiet_op; go_big_quiet_on)
      refine seg_done ?_
      clear HOPS
      obtain ⟨W1, hW1⟩ : ∃ W1, W1 = W.drew := ⟨_, rfl⟩
      have xx : Ext W W1 := by rw [hW1]; exact ext_drewN W 1
      rw [← hW1]
      clear hW1 y0 y1 y2
      replace b0 := b0.ext xx
      replace HI := HI.ext xx
      replace hgo := hgo.ext hB xx
      replace hx1 := hx1.ext xx
      clear xx W HSZ
      rename World => W
      have r0 := b0.cell 0
      have r1 := b0.cell 1
      have r2 := b0.cell 2
      have r3 := b0.cell 3
      have r4 := b0.cell 4
      simp only [List.getElem?_toArray, List.getElem?_cons_zero, List.getElem?_cons_succ] at r0 r1 r2 r3 r4
      go_wp2_with fail
      refine (itemCopy_any (⟨(a : Int), hv + 1, turn, shut, ws⟩ : It) _ _ _ B hx1.at_ hx1.len).mono ?_
      rintro e w3 ⟨A', c', rfl, hW3, hext⟩
      have hx3 : IvOk w3 B ⟨⟨a, hv + 1, turn, shut, ws⟩, A', c'⟩ := ⟨hW3, hx1.wr, hx1.len⟩
      have HI3 := HI.ext hext
      have hgo3 := hgo.ext hB hext
      clear b0 HI hgo hx1 hext r0 r1 r2 r3 r4 hW3
      have hrw := intRow_any HI3 ⟨⟨a, hv + 1, turn, shut, ws⟩, A', c'⟩ hx3 ha rfl (HINV.out.1.mono (Nat.le_succ _)) HXI.out (by show hv + 1 = _; rw [HHV.out]) HINV.out.1.came HINV.out.2
      go_wp2_with fail
      refine hrw.mono ?_
      clear hrw hx3
      rintro e w4 ⟨v, zs, m4, rfl, hown4, hits, hzs, hI4, hG4⟩
      have HF : Hid (PutPost w B A c rs lev m s ⟨a, hv + 1, turn, shut, ws⟩ (.returned (.tuple #[v, .int .i64 (0 : Int)])) w4) :=
        ⟨_, zs, m4, by rw [HN.out]; rfl, hown4.le hgo3.below.size, by rw [HS.out]; exact hits, hzs, by rw [HS.out]; exact hI4, hgo3.trans hG4⟩
      clear hown4 hits hzs hI4 hG4 HI3 hgo3 hown HINV
      go_wp2
      go_ret2
      exact HF.out
    · rw [if_neg hot] at HN HS
      have hd : (turn != ov) = true := by simp [hot]
      have HI3 := HI.ext (ext_drewN W 1)
      have hgo3 := hgo.ext hB (ext_drewN W 1)
      have HF : Hid (PutPost w B A c rs lev m s ⟨a, hv + 1, turn, shut, ws⟩ (.returned (.tuple #[.slice none 0 0, .int .i64 (22 : Int)])) W.drew) := putPost_nil (n := 22) HI3 hgo3 HN.out HS.out
      clear HI hgo b0 hx1 hown HINV HI3 hgo3
      refine wp_region_planH3 (.reads 0 (.reads 1 (.reads 2 (.reads 3 (.reads 4 (.reads 5 (.reads 6 (.reads 7 (.reads 8 (.reads 9 (.reads 10 (.done)))))))))))) (by kernel_rfl) (by kernel_rfl) (fun x' => Ext W x') (ext_drewN W 1) (fun ops HOPS => ?_)
      (refine segH_pure _ _ _ _ _ _ (hid_get HOPS 0 _ rfl) rfl wanted_none (fun _ _ _ _ h => h) ?_; intro K hK; go_big_quiet_op; go_big_quiet_on)
      (refine segH_load _ _ _ _ _ _ _ _ _ (hid_get HOPS 1 _ rfl) wanted_none rfl (fun _ _ _ _ h => h) (fun y hy => by go_simp; try with_reducible rfl) ?_; simp only [Act.put, List.setIfInBounds_toArray, List.set_cons_zero, List.set_cons_succ])
      (refine segH_pure _ _ _ _ _ _ (hid_get HOPS 2 _ rfl) rfl wanted_none (fun _ _ _ _ h => h) ?_; intro K hK; go_big_quiet_op; go_big_quiet_on)
      (refine segH_pure _ _ _ _ _ _ (hid_get HOPS 3 _ rfl) rfl wanted_none (fun _ _ _ _ h => h) ?_; intro K hK; go_big_quiet_op; go_big_quiet_on)
      (refine segH_load _ _ _ _ _ _ _ _ _ (hid_get HOPS 4 _ rfl) wanted_none rfl (fun _ _ _ _ h => h) (fun y hy => by go_simp; try with_reducible rfl) ?_; simp only [Act.put, List.setIfInBounds_toArray, List.set_cons_zero, List.set_cons_succ])
      (refine segH_nil _ _ _ _ _ _ _ (hid_get HOPS 5 _ rfl) wanted_none rfl (fun _ _ _ _ h => h) ?_; simp only [Act.put, List.setIfInBounds_toArray, List.set_cons_zero, List.set_cons_succ])
      (refine segH_pure _ _ _ _ _ _ (hid_get HOPS 6 _ rfl) rfl wanted_none (fun _ _ _ _ h => h) ?_; intro K hK; go_big_quiet_op; go_big_quiet_on)
      (refine segH_pure _ _ _ _ _ _ (hid_get HOPS 7 _ rfl) rfl wanted_none (fun _ _ _ _ h => h) ?_; intro K hK; go_big_quiet_op; go_big_quiet_on)
      (refine segH_load _ _ _ _ _ _ _ _ _ (hid_get HOPS 8 _ rfl) wanted_none rfl (fun _ _ _ _ h => h) (fun y hy => by go_simp; try with_reducible rfl) ?_; simp only [Act.put, List.setIfInBounds_toArray, List.set_cons_zero, List.set_cons_succ])
      (refine segH_pure _ _ _ _ _ _ (hid_get HOPS 9 _ rfl) rfl wanted_none (fun _ _ _ _ h => h) ?_; intro K hK; go_big_quiet_op; go_big_quiet_on)
      (refine segH_pure _ _ _ _ _ _ (hid_get HOPS 10 _ rfl) rfl wanted_none (fun _ _ _ _ h => h) ?_; intro K hK; go_big_quiet_op; go_big_quiet_on)
      refine seg_done ?_
      clear HOPS
      clear y0 y1 y2 hd
      go_wp2
      go_ret2
      exact HF.out
  · obtain ⟨Y, Ya, Yc⟩ := y
    replace hlk1 : ∀ x', Ext W x' → (Instr.lookup 137 (.map (some m.mo)) (.agg #[.int .i64 (a : Int), .int .i64 n]) true).run Try.prog x' = .ok (.tuple #[.agg #[.int .i64 Y.level, .int .i64 Y.n, .int .i64 Y.turn, .bool Y.shut, .slice Ya Y.ws.length Yc], .bool true]) x' := fun x' hx => by
      have := hlk1 x' hx
      rw [e1] at this
      exact this
    have hlk2 := hlk1
    refine wp_region_planH3 (.reads 0 (.reads 1 (.reads 2 (.reads 3 (.reads 4 (.reads 5 (.reads 6 (.reads 7 (.reads 8 (.makes 9 (.makes 10 (.reads 11 (.done))))))))))))) (by kernel_rfl) (by kernel_rfl) (fun x' => Ext W x') (ext_drewN W 1) (fun ops HOPS => ?_)
    (refine segH_pure _ _ _ _ _ _ (hid_get HOPS 0 _ rfl) rfl wanted_none (fun _ _ _ _ h => h) ?_; intro K hK; go_big_quiet_op; go_big_quiet_on)
    (refine segH_nil _ _ _ _ _ _ _ (hid_get HOPS 1 _ rfl) wanted_none rfl (fun _ _ _ _ h => h) ?_; simp only [Act.put, List.setIfInBounds_toArray, List.set_cons_zero, List.set_cons_succ])
    (refine segH_pure _ _ _ _ _ _ (hid_get HOPS 2 _ rfl) rfl wanted_none (fun _ _ _ _ h => h) ?_; intro K hK; go_big_quiet_op; go_big_quiet_on)
    (refine segH_load _ _ _ _ _ _ _ _ _ (hid_get HOPS 3 _ rfl) wanted_none rfl (fun _ _ _ _ h => h) (fun y hy => by go_simp; try with_reducible rfl) ?_; simp only [Act.put, List.setIfInBounds_toArray, List.set_cons_zero, List.set_cons_succ])
    (refine segH_load _ _ _ _ _ _ _ _ _ (hid_get HOPS 4 _ rfl) wanted_none rfl (fun _ _ _ _ h => h) (fun y hy => by go_simp; try with_reducible rfl) ?_; simp only [Act.put, List.setIfInBounds_toArray, List.set_cons_zero, List.set_cons_succ])
    (refine segH_lookup _ _ _ _ _ _ _ _ _ _ _ _ (hid_get HOPS 5 _ rfl) wanted_none rfl rfl (fun _ _ _ _ h => h) (fun y hy => by first | exact hlk1 y hy | exact hlk2 y hy) ?_; simp only [Act.put, List.setIfInBounds_toArray, List.set_cons_zero, List.set_cons_succ])
    (refine segH_pure _ _ _ _ _ _ (hid_get HOPS 6 _ rfl) rfl wanted_none (fun _ _ _ _ h => h) ?_; intro K hK; go_big_quiet_op; go_big_quiet_on)
    (refine segH_pure _ _ _ _ _ _ (hid_get HOPS 7 _ rfl) rfl wanted_none (fun _ _ _ _ h => h) ?_; intro K hK; go_big_quiet_op; go_big_quiet_on)
    (refine segH_pure _ _ _ _ _ _ (hid_get HOPS 8 _ rfl) rfl wanted_none (fun _ _ _ _ h => h) ?_; intro K hK; go_big_quiet_op; go_big_quiet_on)
    refine segH_makes _ _ _ _ _ _ (hid_get HOPS 9 _ rfl) wanted_none (fun K hK => ?_)
    go_big_op
    have xd : Ext W (W.alloc (.cells #[.int .i64 0, .int .i64 0, .int .i64 0, .bool false, .slice none 0 0] 33)).drew := ext_trans (ext_alloc _ _) (ext_drewN _ 1)
    have b2 := Blk.new W 33 #[.int .i64 0, .int .i64 0, .int .i64 0, .bool false, .slice none 0 0]
    have q0 := b2.cell 0
    have q1 := b2.cell 1
    have q2 := b2.cell 2
    have q3 := b2.cell 3
    have q4 := b2.cell 4
    have fz := b2.frozen
    simp only [List.getElem?_toArray, List.getElem?_cons_zero, List.getElem?_cons_succ] at q0 q1 q2 q3 q4
    refine hK _ _ (fun x' => Ext W x') xd (fun _ h => h) ?_
    clear hK
    refine segH_makes _ _ _ _ _ _ (hid_get HOPS 10 _ rfl) wanted_none (fun K hK => ?_)
    go_big_op
    have xe : Ext W (W.alloc (.cells #[.int .i64 Y.level, .int .i64 Y.n, .int .i64 Y.turn, .bool Y.shut, .slice Ya Y.ws.length Yc] 33)).drew := ext_trans (ext_alloc _ _) (ext_drewN _ 1)
    refine hK _ _ (fun x' => Ext W x') xe (fun _ h => h) ?_
    clear hK q0 q1 q2 q3 q4 fz b2 xd
    (refine segH_pure _ _ _ _ _ _ (hid_get HOPS 11 _ rfl) rfl wanted_none (fun _ _ _ _ h => h) ?_; intro K hK; go_big_quiet_op; go_big_quiet_on)
    refine seg_done ?_
    clear HOPS
    clear y0 y1 y2 hlk1 hlk2
    obtain ⟨W1, hW1⟩ : ∃ W1, W1 = (W.alloc (.cells #[.int .i64 Y.level, .int .i64 Y.n, .int .i64 Y.turn, .bool Y.shut, .slice Ya Y.ws.length Yc] 33)).drew := ⟨_, rfl⟩
    rw [← hW1] at xe ⊢
    clear hW1 e1
    replace b0 := b0.ext xe
    replace HI := HI.ext xe
    replace hgo := hgo.ext hB xe
    have HF : Hid (PutPost w B A c rs lev m s ⟨a, n, turn, shut, ws⟩ (.returned (.tuple #[.slice none 0 0, .int .i64 (0 : Int)])) W1) := putPost_nil (n := 0) HI hgo (by rw [HN.out, if_pos (.inr (by rw [e2]; rfl))]) (by rw [HS.out, if_pos (.inr (by rw [e2]; rfl))])
    have r1 := b0.cell 1
    simp only [List.getElem?_toArray, List.getElem?_cons_zero, List.getElem?_cons_succ] at r1
    clear HI hgo b0 hx1 hown HINV xe bv hy e2
    by_cases hn1 : n < hv + 1
    · go_wp2
      go_ret2
      exact HF.out
    · go_wp2
      go_ret2
      exact HF.out
end
end Go.Proofs.Ytdknkbpgkkakhaa
