/- Layer 22: a road in memory; New, Offered. -/
import Derived.Test.YtdknkbpgkkakhaaMap1
import Derived.Test.YtdknkbpgkkakhaaOff1
import Derived.Test.YtdknkbpgkkakhaaStr1
import Derived.Test.YtdknkbpgkkakhaaLat14
import Derived.Carry
namespace Go.Proofs.Ytdknkbpgkkakhaa
open Go.RowKit

/-- A parcel in memory: to which level; the item. -/
structure Pv where
  lev : Int
  x : Iv
def Pv.cells (p : Pv) : List Value := .int .i64 p.lev :: p.x.cells
theorem Pv.cells_len (p : Pv) : p.cells.length = 6 := rfl
theorem Pv.one (p : Pv) : ∀ u ∈ p.cells, u.oneCell' = true := by
  intro u hu
  rcases List.mem_cons.1 hu with rfl | h
  · rfl
  · exact Iv.one p.x u h
theorem info94 : (Try.prog.info? 94).map (fun i => (i.zero, i.size, i.bytes)) = some (some (.agg #[.int .i64 0, .int .i64 0, .int .i64 0, .int .i64 0, .bool false, .slice none 0 0]), 6, 64) := by kernel_rfl
def elPv : Elem Pv := ⟨Pv.cells, 78, 94, 6, 64, _, Pv.cells_len, Pv.one, Try.underlying78, info94, rfl, by decide⟩

/-- What a road tells. -/
structure RoadSt where
  off : Int × Int → Int
  und : Int → List It
  log : List (Int × It)
def RoadSt.new : RoadSt := ⟨fun _ => 0, fun _ => [], []⟩
/-- Where a road lies. -/
structure RoadMem where
  ra : Nat
  mo : Nat
  mu : Nat
  fo : Int × Int → Option Value
  fu : Int → Option Value
  vl : Value
structure RoadAt (w : World) (B : Nat) (A : Option Addr) (c : Nat) (rs : List Rw) (m : RoadMem) (s : RoadSt) : Prop where
  base : B ≤ m.ra ∧ B ≤ m.mo ∧ B ≤ m.mu
  apart : m.mo ≠ m.mu
  blk : Blk w m.ra 133 #[.slice A rs.length c, .map (some m.mo), .map (some m.mu), m.vl]
  offm : MapIs Try.prog 135 wayV w m.mo m.fo
  offs : ∀ x, (m.fo x).getD (.int .i64 0) = .int .i64 (s.off x)
  undm : MapIs Try.prog 3 levV w m.mu m.fu
  unds : ∀ t, ∃ ys : List Iv, Off elIv w B ((m.fu t).getD (.slice none 0 0)) ys ∧ ys.map Iv.it = s.und t ∧ ∀ y ∈ ys, IvOk w B y
  sep : ∀ t t' g, t ≠ t' → ((m.fu t).getD (.slice none 0 0)).ownBlock = some g → ((m.fu t').getD (.slice none 0 0)).ownBlock ≠ some g
  log : ∃ ps : List Pv, Own elPv w B m.vl ps ∧ ps.map (fun p => (p.lev, p.x.it)) = s.log ∧ ∀ p ∈ ps, IvOk w B p.x
  mat : MatAt w B A rs
  few : ∀ t, (s.und t).length ≤ 40
  loglen : s.log.length ≤ 1000000
section
variable {w w' : World} {B : Nat} {A : Option Addr} {c : Nat} {rs : List Rw} {m : RoadMem} {s : RoadSt}
theorem RoadAt.ext (h : RoadAt w B A c rs m s) (k : Ext w w') : RoadAt w' B A c rs m s where
  base := h.base
  apart := h.apart
  blk := h.blk.ext k
  offm := h.offm.ext k
  offs := h.offs
  undm := h.undm.ext k
  unds t := by
    obtain ⟨ys, h1, h2, h3⟩ := h.unds t
    exact ⟨ys, h1.ext k, h2, fun y hy => (h3 y hy).ext k⟩
  sep := h.sep
  log := by
    obtain ⟨ps, h1, h2, h3⟩ := h.log
    exact ⟨ps, h1.ext k, h2, fun p hp => (h3 p hp).ext k⟩
  mat := h.mat.ext k
  few := h.few
  loglen := h.loglen

set_option maxRecDepth 100000 in
set_option maxHeartbeats 2000000 in
theorem roadNew_any (A : Option Addr) (c : Nat) (rs : List Rw) (w : World) (hM : MatAt w w.heap.size A rs) :
    Calls Try.prog 61 #[.agg #[.slice A rs.length c]] w fun e w' => ∃ m, e = .returned (.pointer (some ⟨m.ra, 0, none⟩)) ∧ RoadAt w' w.heap.size A c rs m RoadSt.new ∧ Ext w w' := by
  have x1 := ext_alloc w (.cells #[.slice A rs.length c] 53)
  have x2 := ext_trans x1 (ext_alloc _ (.map #[] 0))
  have x3 := ext_trans x2 (ext_alloc _ (.map #[] 0))
  have x4 := ext_trans x3 (ext_alloc _ (.cells #[.slice A rs.length c, .map (some (w.heap.size + 1)), .map (some (w.heap.size + 2)), .slice none 0 0] 133))
  have m1 : MapIs Try.prog 135 wayV ((w.alloc (.cells #[.slice A rs.length c] 53)).alloc (.map #[] 0)) (w.heap.size + 1) (fun _ => none) := by
    have := MapIs.new (P := Try.prog) (k := 135) (kv := wayV) (w.alloc (.cells #[.slice A rs.length c] 53))
    simpa using this
  have m2 : MapIs Try.prog 3 levV (((w.alloc (.cells #[.slice A rs.length c] 53)).alloc (.map #[] 0)).alloc (.map #[] 0)) (w.heap.size + 2) (fun _ => none) := by
    have := MapIs.new (P := Try.prog) (k := 3) (kv := levV) ((w.alloc (.cells #[.slice A rs.length c] 53)).alloc (.map #[] 0))
    simpa using this
  have m1' := (m1.ext (ext_alloc _ (.map #[] 0))).ext (ext_alloc _ (.cells #[.slice A rs.length c, .map (some (w.heap.size + 1)), .map (some (w.heap.size + 2)), .slice none 0 0] 133))
  have m2' := m2.ext (ext_alloc _ (.cells #[.slice A rs.length c, .map (some (w.heap.size + 1)), .map (some (w.heap.size + 2)), .slice none 0 0] 133))
  have b4 := Blk.new ((((w.alloc (.cells #[.slice A rs.length c] 53)).alloc (.map #[] 0)).alloc (.map #[] 0))) 133 #[.slice A rs.length c, .map (some (w.heap.size + 1)), .map (some (w.heap.size + 2)), .slice none 0 0]
  have hs : (((w.alloc (.cells #[.slice A rs.length c] 53)).alloc (.map #[] 0)).alloc (.map #[] 0)).heap.size = w.heap.size + 3 := by simp
  rw [hs] at b4
  have HR : Hid (RoadAt ((((w.alloc (.cells #[.slice A rs.length c] 53)).alloc (.map #[] 0)).alloc (.map #[] 0)).alloc (.cells #[.slice A rs.length c, .map (some (w.heap.size + 1)), .map (some (w.heap.size + 2)), .slice none 0 0] 133)) w.heap.size A c rs ⟨w.heap.size + 3, w.heap.size + 1, w.heap.size + 2, fun _ => none, fun _ => none, .slice none 0 0⟩ RoadSt.new ∧ Ext w ((((w.alloc (.cells #[.slice A rs.length c] 53)).alloc (.map #[] 0)).alloc (.map #[] 0)).alloc (.cells #[.slice A rs.length c, .map (some (w.heap.size + 1)), .map (some (w.heap.size + 2)), .slice none 0 0] 133))) := by
    refine ⟨⟨⟨by simp, by simp, by simp⟩, by simp, b4, m1', fun _ => rfl, m2', fun t => ⟨[], .inl ⟨rfl, rfl⟩, rfl, by simp⟩, fun t t' g _ h => by simp [Value.ownBlock] at h, ⟨[], Own.nil _ _, rfl, by simp⟩, hM.ext x4, fun _ => Nat.zero_le _, Nat.zero_le _⟩, x4⟩
  clear x1 x2 x3 x4 m1 m2 m1' m2' b4 hs hM
  have hmm := @Go.RowKit.run_makeMap Try.prog
  go_enter Try.func61, Try.ntmps61
  go_wp2
  go_ret
  exact ⟨_, rfl, HR.out⟩
end
end Go.Proofs.Ytdknkbpgkkakhaa
