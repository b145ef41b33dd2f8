/- Layer 22: what a store into the first map leaves; Again. -/
import Derived.Test.YtdknkbpgkkakhaaRoad3
namespace Go.Proofs.Ytdknkbpgkkakhaa
open Go.RowKit
open Go.ChangeMaps (setBlock)

section
variable {w w' : World} {B : Nat} {A : Option Addr} {c : Nat} {rs : List Rw} {m : RoadMem} {s : RoadSt}
theorem Own.blk {α : Type} {E : Elem α} {base : Nat} {v : Value} {xs : List α} (h : Own E w base v xs) {b : Nat} (hb : v.ownBlock = some b) : base ≤ b ∧ ∃ cur, Blk w b E.e cur := by
  rcases h.2 with ⟨rfl, _⟩ | ⟨g, cap, cur, rfl, hg, hh, _⟩
  · cases hb
  · have : g = b := by simpa [Value.ownBlock] using hb
    subst this
    exact ⟨hg, cur, hh⟩
theorem MapIs.not_blk {P : Program} {k : TypeId} {K : Type} {kv : K → Value} {b : Nat} {f : K → Option Value} (h : MapIs P k kv w b f) {g : Nat} {t : TypeId} {cs : Array Value} (hb : Blk w g t cs) : g ≠ b := by
  rintro rfl
  obtain ⟨es, clock, h1, _⟩ := h
  unfold Blk at hb
  rw [hb] at h1
  cases h1
theorem keeps_map {P : Program} {k : TypeId} {K : Type} {kv : K → Value} {b : Nat} {f : K → Option Value} (h : MapIs P k kv w b f) (hB : B ≤ b) (o : Obj) (T : List TypeId) : Keeps B T w (setBlock w b o) :=
  Keeps.of_mods (mods_setBlock w b o) fun i hi => by
    subst hi
    refine ⟨hB, fun cs t fr hk => ?_⟩
    obtain ⟨es, clock, h1, _⟩ := h
    rw [hk] at h1
    cases h1
theorem MatAt.keeps {T : List TypeId} (h : MatAt w B A rs) (k : Keeps B T w w') (h1 : 23 ∉ T) (h2 : 4 ∉ T) : MatAt w' B A rs :=
  ⟨h.rows.keeps k h1, fun r hr => (h.each r hr).keeps k h2⟩

/-- The blocks that a road owns. -/
def RoadOwn (m : RoadMem) (g : Nat) : Prop := g = m.ra ∨ g = m.mo ∨ g = m.mu ∨ m.vl.ownBlock = some g ∨ ∃ t, ((m.fu t).getD (.slice none 0 0)).ownBlock = some g
theorem RoadAt.own_lt (h : RoadAt w B A c rs m s) {g : Nat} (hg : RoadOwn m g) : B ≤ g ∧ g < w.heap.size := by
  rcases hg with rfl | rfl | rfl | hg | ⟨t, hg⟩
  · exact ⟨h.base.1, h.blk.lt⟩
  · exact ⟨h.base.2.1, h.offm.lt⟩
  · exact ⟨h.base.2.2, h.undm.lt⟩
  · obtain ⟨ps, h1, _⟩ := h.log
    obtain ⟨h2, cur, h3⟩ := h1.blk hg
    exact ⟨h2, h3.lt⟩
  · obtain ⟨ys, h1, _⟩ := h.unds t
    obtain ⟨h2, h3, _⟩ := h1.typed hg
    exact ⟨h2, h3⟩
/-- What a step of a road may turn: its own blocks; those that it owns behind it are old ones or new. -/
structure RoadGo (B : Nat) (w : World) (m : RoadMem) (w' : World) (m' : RoadMem) : Prop where
  below : Below B w w'
  mods : Mods (RoadOwn m) w w'
  sub : ∀ g, RoadOwn m' g → RoadOwn m g ∨ w.heap.size ≤ g
theorem RoadGo.of_ext (h : Ext w w') (hB : B ≤ w.heap.size) (m : RoadMem) : RoadGo B w m w' m := ⟨h.mono hB, Mods.of_below h _, fun _ h => .inl h⟩
theorem RoadGo.trans {w1 w2 : World} {m1 m2 : RoadMem} (h : RoadGo B w m w1 m1) (k : RoadGo B w1 m1 w2 m2) : RoadGo B w m w2 m2 :=
  ⟨h.below.trans k.below, h.mods.trans k.mods (fun i hi hs => (h.sub i hs).resolve_right (by omega)), fun g hg => by
    rcases k.sub g hg with h1 | h1
    · exact h.sub g h1
    · exact .inr (Nat.le_trans h.below.size h1)⟩
theorem RoadGo.ext {w1 w2 : World} {m1 : RoadMem} (h : RoadGo B w m w1 m1) (hB : B ≤ w.heap.size) (k : Ext w1 w2) : RoadGo B w m w2 m1 :=
  h.trans (.of_ext k (Nat.le_trans hB h.below.size) m1)
theorem RoadGo.free {m' : RoadMem} (h : RoadGo B w m w' m') {g : Nat} (hg : g < w.heap.size) (hn : ¬ RoadOwn m g) : ¬ RoadOwn m' g ∧ w'.heap[g]? = w.heap[g]? :=
  ⟨fun hc => (h.sub g hc).elim hn (by omega), h.mods.block g hg hn⟩

def updOff (s : RoadSt) (x : Int × Int) (n : Int) : RoadSt := ⟨fun y => if y = x then n else s.off y, s.und, s.log⟩
theorem RoadAt.storeOff (h : RoadAt w B A c rs m s) {a b : Int} (ha : wf64 a) (hb : wf64 b) (n : Int) :
    ∃ o m', (Instr.mapUpdate 130 (.map (some m.mo)) (.agg #[.int .i64 a, .int .i64 b]) (.int .i64 n)).run Try.prog w = .ok () (setBlock w m.mo o) ∧
      RoadAt (setBlock w m.mo o) B A c rs m' (updOff s (a, b) n) ∧ m'.ra = m.ra ∧ m'.fu = m.fu ∧ m'.mu = m.mu ∧ RoadGo B w m (setBlock w m.mo o) m' := by
  obtain ⟨l, hl⟩ := key135 (x := (a, b)) ha hb
  obtain ⟨o, h1, h2⟩ := h.offm.store keyed135 ul130 wayV_inj hl (.int .i64 n)
  have hm := mods_setBlock w m.mo o
  have hk := keeps_map h.offm h.base.2.1 o []
  refine ⟨o, ⟨m.ra, m.mo, m.mu, fun y => if y = (a, b) then some (.int .i64 n) else m.fo y, m.fu, m.vl⟩, h1, ⟨h.base, h.apart, h.blk.mods hm (h.offm.not_blk h.blk), h2, ?_, h.undm.mods hm (fun e => h.apart e.symm), ?_, h.sep, ?_, h.mat.keeps hk (by simp) (by simp), h.few, h.loglen⟩, rfl, rfl, rfl, ⟨below_setBlock w o h.base.2.1, ⟨hm.os, hm.tape, hm.output, hm.size, fun k hk hn => hm.block k hk (fun e => hn (.inr (.inl e)))⟩, fun g hg => .inl hg⟩⟩
  · intro y
    show (if y = (a, b) then some (Value.int .i64 n) else m.fo y).getD (.int .i64 0) = .int .i64 (if y = (a, b) then n else s.off y)
    by_cases hy : y = (a, b)
    · rw [if_pos hy, if_pos hy]; rfl
    · rw [if_neg hy, if_neg hy]; exact h.offs y
  · intro t
    obtain ⟨ys, g1, g2, g3⟩ := h.unds t
    refine ⟨ys, g1.mods hm (fun b' hb' => ?_), g2, fun y hy => (g3 y hy).keeps hk (by simp)⟩
    obtain ⟨_, _, cur, hB⟩ := g1.typed hb'
    exact h.offm.not_blk hB
  · obtain ⟨ps, g1, g2, g3⟩ := h.log
    refine ⟨ps, g1.mods hm (fun b' hb' => ?_), g2, fun p hp => (g3 p hp).keeps hk (by simp)⟩
    obtain ⟨_, cur, hB⟩ := g1.blk hb'
    exact h.offm.not_blk hB

def againSt (m : Mat) (s : RoadSt) (a b n : Int) : RoadSt := if labove m b a = true then updOff s (a, b) (max n 0) else s

set_option maxRecDepth 100000 in
set_option maxHeartbeats 4000000 in
theorem roadAgain_any (h : RoadAt w B A c rs m s) {a b n : Int} (ha : wf64 a) (hb : wf64 b) (hl : rs.length ≤ 9223372036854775807) :
    Calls Try.prog 64 #[.pointer (some ⟨m.ra, 0, none⟩), .int .i64 a, .int .i64 b, .int .i64 n] w fun e w' => e = .returned (.tuple #[]) ∧ ∃ m', m'.ra = m.ra ∧ RoadAt w' B A c rs m' (againSt (mat rs) s a b n) ∧ RoadGo B w m w' m' := by
  have c0 := h.blk.cell 0
  simp only [List.getElem?_toArray, List.getElem?_cons_zero] at c0
  go_enter Try.func64, Try.ntmps64
  go_wp2_with fail
  refine (latAbove_any A c rs b a _ B h.mat hl).mono ?_
  rintro e w1 ⟨rfl, y⟩
  have h1 := h.ext y
  have c1 := h1.blk.cell 1
  simp only [List.getElem?_toArray, List.getElem?_cons_zero, List.getElem?_cons_succ] at c1
  have hbel : RoadGo B w m w1 m := .of_ext y (Nat.le_trans h.base.1 (Nat.le_of_lt h.blk.lt)) m
  cases hc : labove (mat rs) b a
  · have HR : Hid (∃ m', m'.ra = m.ra ∧ RoadAt w1 B A c rs m' (againSt (mat rs) s a b n) ∧ RoadGo B w m w1 m') := ⟨m, rfl, by rw [againSt, hc]; exact h1, hbel⟩
    clear h h1 hbel hc c0 c1 y
    go_wp2
    go_end0
    exact ⟨rfl, HR.out⟩
  · obtain ⟨o, m', hrun, h2, e1, e2, e3, hb2⟩ := h1.storeOff ha hb (max n 0)
    have HR : Hid (∃ m', m'.ra = m.ra ∧ RoadAt (setBlock w1 m.mo o) B A c rs m' (againSt (mat rs) s a b n) ∧ RoadGo B w m (setBlock w1 m.mo o) m') := ⟨m', e1, by rw [againSt, hc]; exact h2, hbel.trans hb2⟩
    clear h h1 h2 hbel hb2 hc c0 y e1 e2 e3
    by_cases hn : n < 0
    · rw [show max n 0 = 0 by omega] at hrun
      go_wp2
      go_end0
      exact ⟨rfl, HR.out⟩
    · rw [show max n 0 = n by omega] at hrun
      go_wp2
      go_end0
      exact ⟨rfl, HR.out⟩
end
end Go.Proofs.Ytdknkbpgkkakhaa
