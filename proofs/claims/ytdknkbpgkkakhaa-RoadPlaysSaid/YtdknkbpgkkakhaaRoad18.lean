/- Layer 22: the document's road in memory; Again. -/
import Derived.Test.YtdknkbpgkkakhaaRoadX
namespace Go.Proofs.Ytdknkbpgkkakhaa
open Go.RowKit

structure RefMem where
  g : Nat
  cs : Array Value
  to_ : Nat → Value
  vl : Value
structure RefAt (w : World) (B : Nat) (A : Option Addr) (c : Nat) (rs : List Rw) (r : RefMem) (s : RoadSt) : Prop where
  base : B ≤ r.g
  blk : Blk w r.g 80 r.cs
  size : r.cs.size = 44
  lat : r.cs[0]? = some (.slice A rs.length c)
  toc : ∀ a : Nat, a < 6 → r.cs[1 + a]? = some (r.to_ a)
  offc : ∀ a b : Nat, a < 6 → b < 6 → r.cs[7 + a * 6 + b]? = some (.int .i64 (s.off (a, b)))
  logc : r.cs[43]? = some r.vl
  unds : ∀ a : Nat, a < 6 → ∃ ys : List Iv, Off elIv w B (r.to_ a) ys ∧ ys.map Iv.it = s.und a ∧ ∀ y ∈ ys, IvOk w B y
  log : ∃ ps : List Pv, Own elPv w B r.vl ps ∧ prs ps = s.log ∧ ∀ p ∈ ps, IvOk w B p.x
  mat : MatAt w B A rs
def RefOwn (r : RefMem) (g : Nat) : Prop := g = r.g ∨ r.vl.ownBlock = some g ∨ ∃ a, a < 6 ∧ (r.to_ a).ownBlock = some g
structure RefGo (B : Nat) (w : World) (r : RefMem) (w' : World) (r' : RefMem) : Prop where
  below : Below B w w'
  mods : Mods (fun k => k = r.g) w w'
  sub : ∀ g, RefOwn r' g → RefOwn r g ∨ w.heap.size ≤ g
section
variable {w w' : World} {B : Nat} {A : Option Addr} {c : Nat} {rs : List Rw} {r : RefMem} {s : RoadSt}
theorem RefAt.ext (h : RefAt w B A c rs r s) (k : Ext w w') : RefAt w' B A c rs r s :=
  ⟨h.base, h.blk.ext k, h.size, h.lat, h.toc, h.offc, h.logc, fun a ha => by
    obtain ⟨ys, y1, y2, y3⟩ := h.unds a ha
    exact ⟨ys, y1.ext k, y2, fun y hy => (y3 y hy).ext k⟩, by
    obtain ⟨ps, p1, p2, p3⟩ := h.log
    exact ⟨ps, p1.ext k, p2, fun p hp => (p3 p hp).ext k⟩, h.mat.ext k⟩
theorem RefGo.of_ext (h : Ext w w') (hB : B ≤ w.heap.size) (r : RefMem) : RefGo B w r w' r := ⟨h.mono hB, Mods.of_below h _, fun _ h => .inl h⟩
theorem RefAt.base_le (h : RefAt w B A c rs r s) : B ≤ w.heap.size := Nat.le_trans h.base (Nat.le_of_lt h.blk.lt)

theorem RefAt.keeps80 (h : RefAt w B A c rs r s) (i : Nat) (u : Value) : Keeps B [80] w (w.setCell ⟨r.g, i, none⟩ u) := keeps_blk h.blk h.base i u
theorem RefAt.unds_set (h : RefAt w B A c rs r s) (i : Nat) (u : Value) {a : Nat} (ha : a < 6) : ∃ ys : List Iv, Off elIv (w.setCell ⟨r.g, i, none⟩ u) B (r.to_ a) ys ∧ ys.map Iv.it = s.und a ∧ ∀ y ∈ ys, IvOk (w.setCell ⟨r.g, i, none⟩ u) B y := by
  obtain ⟨ys, y1, y2, y3⟩ := h.unds a ha
  refine ⟨ys, y1.mods (mods_setCell w ⟨r.g, i, none⟩ u) (fun b hb e => ?_), y2, fun y hy => (y3 y hy).keeps (h.keeps80 i u) (by decide)⟩
  obtain ⟨_, _, cur, hB⟩ := y1.typed hb
  exact blk_ne hB h.blk (by decide) e
theorem RefAt.log_set (h : RefAt w B A c rs r s) (i : Nat) (u : Value) : ∃ ps : List Pv, Own elPv (w.setCell ⟨r.g, i, none⟩ u) B r.vl ps ∧ prs ps = s.log ∧ ∀ p ∈ ps, IvOk (w.setCell ⟨r.g, i, none⟩ u) B p.x := by
  obtain ⟨ps, p1, p2, p3⟩ := h.log
  refine ⟨ps, p1.mods (mods_setCell w ⟨r.g, i, none⟩ u) (fun b hb e => ?_), p2, fun p hp => (p3 p hp).keeps (h.keeps80 i u) (by decide)⟩
  obtain ⟨_, cur, hB⟩ := p1.blk hb
  exact blk_ne hB h.blk (by decide) e
theorem get_set_ne {cs : Array Value} {i j : Nat} {u : Value} (h : i ≠ j) : (cs.setIfInBounds i u)[j]? = cs[j]? := by
  rw [Array.getElem?_setIfInBounds_ne h]
theorem get_set_eq {cs : Array Value} {i : Nat} {u : Value} (h : i < cs.size) : (cs.setIfInBounds i u)[i]? = some u := by
  rw [Array.getElem?_setIfInBounds_self, if_pos h]
def RefMem.setOff (r : RefMem) (a b : Nat) (n : Int) : RefMem := ⟨r.g, r.cs.setIfInBounds (7 + a * 6 + b) (.int .i64 n), r.to_, r.vl⟩
theorem RefAt.setOff (h : RefAt w B A c rs r s) {a b : Nat} (ha : a < 6) (hb : b < 6) (n : Int) :
    RefAt (w.setCell ⟨r.g, 7 + a * 6 + b, none⟩ (.int .i64 n)) B A c rs (r.setOff a b n) ⟨fun y => if y = ((a : Int), (b : Int)) then n else s.off y, s.und, s.log⟩ ∧ RefGo B w r (w.setCell ⟨r.g, 7 + a * 6 + b, none⟩ (.int .i64 n)) (r.setOff a b n) := by
  refine ⟨⟨h.base, h.blk.set_ _ _, by show (r.cs.setIfInBounds _ _).size = _; rw [Array.size_setIfInBounds]; exact h.size, ?_, ?_, ?_, ?_, fun a' ha' => h.unds_set _ _ ha', h.log_set _ _, h.mat.keeps (h.keeps80 _ _) (by decide) (by decide)⟩,
    ⟨(Below.refl _ _).setCell h.base _, mods_setCell w ⟨r.g, 7 + a * 6 + b, none⟩ _, fun _ hg => .inl hg⟩⟩
  · show (r.cs.setIfInBounds _ _)[0]? = _
    rw [get_set_ne (by omega)]; exact h.lat
  · intro a' ha'
    show (r.cs.setIfInBounds _ _)[1 + a']? = _
    rw [get_set_ne (by omega)]; exact h.toc a' ha'
  · intro a' b' ha' hb'
    show (r.cs.setIfInBounds _ _)[7 + a' * 6 + b']? = some (.int .i64 (if ((a' : Int), (b' : Int)) = ((a : Int), (b : Int)) then n else s.off (a', b')))
    by_cases he : a' = a ∧ b' = b
    · obtain ⟨rfl, rfl⟩ := he
      rw [if_pos rfl, get_set_eq (by rw [h.size]; omega)]
    · rw [if_neg (by intro hc; simp only [Prod.mk.injEq] at hc; omega), get_set_ne (by omega)]
      exact h.offc a' b' ha' hb'
  · show (r.cs.setIfInBounds _ _)[43]? = _
    rw [get_set_ne (by omega)]; exact h.logc

set_option maxRecDepth 100000 in
set_option maxHeartbeats 4000000 in
theorem refAgain_any (h : RefAt w B A c rs r s) {a b n : Int} (hl : rs.length ≤ 9223372036854775807) :
    Calls Try.prog 65 #[.pointer (some ⟨r.g, 0, none⟩), .int .i64 a, .int .i64 b, .int .i64 n] w fun e w' => e = .returned (.tuple #[]) ∧ ∃ r', r'.g = r.g ∧ RefAt w' B A c rs r' (againSt (mat rs) s a b n) ∧ RefGo B w r w' r' := by
  have c0 := h.blk.cell 0
  rw [h.lat] at c0
  go_enter Try.func65, Try.ntmps65
  go_wp2_with fail
  refine (refAbove_any A c rs b a _ B h.mat hl).mono ?_
  rintro e w1 ⟨rfl, y⟩
  cases hc : labove (mat rs) b a
  · have HR : Hid (∃ r', r'.g = r.g ∧ RefAt w1 B A c rs r' (againSt (mat rs) s a b n) ∧ RefGo B w r w1 r') := ⟨r, rfl, by rw [againSt, hc]; exact h.ext y, .of_ext y h.base_le r⟩
    clear h hc c0 y
    go_wp2
    go_end0
    exact ⟨rfl, HR.out⟩
  · have hd := ldom_lt (above_iff.1 hc).2
    have hlv := levels_le (mat rs)
    obtain ⟨b', rfl⟩ := Int.eq_ofNat_of_zero_le hd.1
    obtain ⟨a', rfl⟩ := Int.eq_ofNat_of_zero_le hd.2.2.1
    have ha6 : a' < 6 := by omega
    have hb6 : b' < 6 := by omega
    have h1 := h.ext y
    have p := h1.blk.cell (7 + a' * 6 + b')
    rw [h1.offc a' b' ha6 hb6] at p
    have f := h1.blk.frozen
    clear hd hlv
    go_upto_region 1 with fail
    clear c0
    obtain ⟨q1, q2⟩ := h1.setOff ha6 hb6 (max n 0)
    have HR : Hid (∃ r', r'.g = r.g ∧ RefAt (w1.setCell ⟨r.g, 7 + a' * 6 + b', none⟩ (.int .i64 (max n 0))) B A c rs r' (againSt (mat rs) s a' b' n) ∧ RefGo B w r (w1.setCell ⟨r.g, 7 + a' * 6 + b', none⟩ (.int .i64 (max n 0))) r') :=
      ⟨r.setOff a' b' (max n 0), rfl, by rw [againSt, if_pos hc]; exact q1, ⟨(y.mono h.base_le).trans q2.below, (Mods.of_below y _).trans q2.mods (fun _ _ e => e), fun g hg => (q2.sub g hg).imp id (fun hz => Nat.le_trans y.size hz)⟩⟩
    clear q1 q2 h h1 y hc
    by_cases hn : n ≤ 0
    · rw [show max n 0 = 0 by omega] at HR
      go_wp2
      go_end0
      exact ⟨rfl, HR.out⟩
    · rw [show max n 0 = n by omega] at HR
      go_wp2
      go_end0
      exact ⟨rfl, HR.out⟩
end
end Go.Proofs.Ytdknkbpgkkakhaa
