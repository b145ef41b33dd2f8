/- Layer 20: what an intake owns; its cells turned one by one. -/
import Derived.Test.YtdknkbpgkkakhaaInt2
namespace Go.Proofs.Ytdknkbpgkkakhaa
open Go.RowKit Go.Maps
open Go.ChangeMaps (setBlock)

section
variable {w w' : World} {B : Nat} {A : Option Addr} {c : Nat} {rs : List Rw} {lev : Int} {m : IntMem} {s : IntSt}
theorem MatAt.keeps {T : List TypeId} (h : MatAt w B A rs) (k : Keeps B T w w') (h1 : 23 ∉ T) (h2 : 4 ∉ T) : MatAt w' B A rs :=
  ⟨h.rows.keeps k h1, fun r hr => (h.each r hr).keeps k h2⟩
theorem get_set_ne {cs : Array Value} {i j : Nat} {u : Value} (h : i ≠ j) : (cs.setIfInBounds i u)[j]? = cs[j]? := by
  rw [Array.getElem?_setIfInBounds_ne h]
theorem get_set_eq {cs : Array Value} {i : Nat} {u : Value} (h : i < cs.size) : (cs.setIfInBounds i u)[i]? = some u := by
  rw [Array.getElem?_setIfInBounds_self, if_pos h]
theorem ChanIs.not_blk {b cap n : Nat} (h : ChanIs w b cap n) {g : Nat} {t : TypeId} {cs : Array Value} (hb : Blk w g t cs) : g ≠ b := by
  rintro rfl
  obtain ⟨_, _, _, h1, _⟩ := h
  unfold Blk at hb
  rw [hb] at h1
  cases h1

theorem Mods.mono {S S' : Nat → Prop} (h : Mods S w w') (k : ∀ i, S i → S' i) : Mods S' w w' := ⟨h.os, h.tape, h.output, h.size, fun i hi hs => h.block i hi fun e => hs (k i e)⟩

/-- The blocks that an intake owns. -/
def IntOwn (m : IntMem) (g : Nat) : Prop := g = m.ga ∨ g = m.mo ∨ g = m.pc ∨ m.vc.ownBlock = some g
theorem IntAt.ga_mo (h : IntAt w B A c rs lev m s) : m.ga ≠ m.mo := h.map.not_blk h.blk
theorem IntAt.ga_pc (h : IntAt w B A c rs lev m s) : m.ga ≠ m.pc := h.chan.not_blk h.blk
theorem IntAt.vc_blk (h : IntAt w B A c rs lev m s) {b : Nat} (hb : m.vc.ownBlock = some b) : B ≤ b ∧ ∃ cur, Blk w b 33 cur := by
  obtain ⟨ys, h1, _⟩ := h.came
  obtain ⟨h2, _, h3⟩ := h1.typed hb
  exact ⟨h2, h3⟩
theorem IntAt.vc_ga (h : IntAt w B A c rs lev m s) : m.vc.ownBlock ≠ some m.ga := fun hb => by
  obtain ⟨_, cur, h1⟩ := h.vc_blk hb
  have h2 := h.blk
  unfold Blk at h1 h2
  rw [h2] at h1
  injection h1 with h1
  injection h1 with _ h1
  cases h1
theorem IntAt.vc_mo (h : IntAt w B A c rs lev m s) : m.vc.ownBlock ≠ some m.mo := fun hb => by
  obtain ⟨_, cur, h1⟩ := h.vc_blk hb
  exact h.map.not_blk h1 rfl
theorem IntAt.vc_pc (h : IntAt w B A c rs lev m s) : m.vc.ownBlock ≠ some m.pc := fun hb => by
  obtain ⟨_, cur, h1⟩ := h.vc_blk hb
  exact h.chan.not_blk h1 rfl
theorem IntAt.own_lt (h : IntAt w B A c rs lev m s) {g : Nat} (hg : IntOwn m g) : B ≤ g ∧ g < w.heap.size := by
  rcases hg with rfl | rfl | rfl | hg
  · exact ⟨h.base.1, h.blk.lt⟩
  · exact ⟨h.base.2.1, h.map.lt⟩
  · exact ⟨h.base.2.2, h.chan.lt⟩
  · obtain ⟨h2, cur, h3⟩ := h.vc_blk hg
    exact ⟨h2, h3.lt⟩
/-- What a step of an intake may turn: its own blocks; those that it owns behind it are old ones or new. -/
structure IntGo (B : Nat) (w : World) (m : IntMem) (w' : World) (m' : IntMem) : Prop where
  below : Below B w w'
  mods : Mods (IntOwn m) w w'
  sub : ∀ g, IntOwn m' g → IntOwn m g ∨ w.heap.size ≤ g
  ga : m'.ga = m.ga
theorem IntGo.of_ext (h : Ext w w') (hB : B ≤ w.heap.size) (m : IntMem) : IntGo B w m w' m := ⟨h.mono hB, Mods.of_below h _, fun _ h => .inl h, rfl⟩
theorem IntGo.trans {w1 w2 : World} {m1 m2 : IntMem} (h : IntGo B w m w1 m1) (k : IntGo B w1 m1 w2 m2) : IntGo B w m w2 m2 :=
  ⟨h.below.trans k.below, h.mods.trans k.mods (fun i hi hs => (h.sub i hs).resolve_right (by omega)), fun g hg => by
    rcases k.sub g hg with h1 | h1
    · exact h.sub g h1
    · exact .inr (Nat.le_trans h.below.size h1), k.ga.trans h.ga⟩
theorem IntGo.ext {w1 w2 : World} {m1 : IntMem} (h : IntGo B w m w1 m1) (hB : B ≤ w.heap.size) (k : Ext w1 w2) : IntGo B w m w2 m1 :=
  h.trans (.of_ext k (Nat.le_trans hB h.below.size) m1)
theorem IntGo.free {m' : IntMem} (h : IntGo B w m w' m') {g : Nat} (hg : g < w.heap.size) (hn : ¬ IntOwn m g) : ¬ IntOwn m' g ∧ w'.heap[g]? = w.heap[g]? :=
  ⟨fun hc => (h.sub g hc).elim hn (by omega), h.mods.block g hg hn⟩
theorem IntAt.mods {S : Nat → Prop} {T : List TypeId} (h : IntAt w B A c rs lev m s) (k : Mods S w w') (hS : ∀ g, S g → ¬ IntOwn m g) (hk : Keeps B T w w') (h23 : 23 ∉ T) (h4 : 4 ∉ T) (h47 : 47 ∉ T) : IntAt w' B A c rs lev m s where
  base := h.base
  apart := h.apart
  blk := h.blk.mods k (fun e => hS _ e (.inl rfl))
  size := h.size
  lat := h.lat
  lev_ := h.lev_
  hav := h.hav
  ovr := h.ovr
  mapc := h.mapc
  chac := h.chac
  camc := h.camc
  firc := h.firc
  map := h.map.mods k (fun e => hS _ e (.inr (.inl rfl)))
  chan := h.chan.mods k (fun e => hS _ e (.inr (.inr (.inl rfl))))
  helds x := (h.helds x).keeps hk h47
  came := by
    obtain ⟨ys, h1, h2, h3⟩ := h.came
    exact ⟨ys, h1.mods k (fun b hb e => hS b e (.inr (.inr (.inr hb)))), h2, fun y hy => (h3 y hy).keeps hk h47⟩
  mat := h.mat.keeps hk h23 h4
  few := h.few
  camelen := h.camelen
theorem keeps_ga (h : IntAt w B A c rs lev m s) (k : Mods (fun g => g = m.ga) w w') : Keeps B [140] w w' := Keeps.of_mods k fun i hi => by
  subst hi
  refine ⟨h.base.1, fun cs t fr hk => ?_⟩
  have h2 := h.blk
  unfold Blk at h2
  rw [h2] at hk
  injection hk with hk
  injection hk with _ hk
  simp [hk]
/-- One of the intake's own cells is turned. -/
theorem IntAt.put (h : IntAt w B A c rs lev m s) (i : Nat) (v : Value) (s' : IntSt) (hi : 2 ≤ i ∧ i ≠ 14 ∧ i ≠ 15 ∧ i ≠ 16)
    (hav : ∀ a : Nat, a < 6 → (m.cs.setIfInBounds i v)[2 + a]? = some (.int .i64 (s'.have_ a)))
    (ovr : ∀ a : Nat, a < 6 → (m.cs.setIfInBounds i v)[8 + a]? = some (.int .i64 (s'.over a)))
    (firc : (m.cs.setIfInBounds i v)[17]? = some (.int .i64 s'.first))
    (he : s'.held = s.held ∧ s'.cnt = s.cnt ∧ s'.came = s.came) :
    IntAt (w.setCell ⟨m.ga, i, none⟩ v) B A c rs lev { m with cs := m.cs.setIfInBounds i v } s' ∧ IntGo B w m (w.setCell ⟨m.ga, i, none⟩ v) { m with cs := m.cs.setIfInBounds i v } := by
  have k : Mods (fun g => g = m.ga) w (w.setCell ⟨m.ga, i, none⟩ v) := mods_setCell w ⟨m.ga, i, none⟩ v
  have hk := keeps_ga h k
  obtain ⟨e1, e2, e3⟩ := he
  refine ⟨⟨h.base, h.apart, h.blk.set_ _ _, by show (m.cs.setIfInBounds _ _).size = _; rw [Array.size_setIfInBounds]; exact h.size, ?_, ?_, hav, ovr, ?_, ?_, ?_, firc, ?_, ?_, ?_, ?_, h.mat.keeps hk (by decide) (by decide), by rw [e2]; exact h.few, by rw [e3]; exact h.camelen⟩,
    ⟨(Below.refl _ _).setCell h.base.1 _, k.mono fun _ e => .inl e, fun _ h => .inl h, rfl⟩⟩
  · show (m.cs.setIfInBounds _ _)[0]? = _
    rw [get_set_ne (by omega)]; exact h.lat
  · show (m.cs.setIfInBounds _ _)[1]? = _
    rw [get_set_ne (by omega)]; exact h.lev_
  · show (m.cs.setIfInBounds _ _)[14]? = _
    rw [get_set_ne (by omega)]; exact h.mapc
  · show (m.cs.setIfInBounds _ _)[15]? = _
    rw [get_set_ne (by omega)]; exact h.chac
  · show (m.cs.setIfInBounds _ _)[16]? = _
    rw [get_set_ne (by omega)]; exact h.camc
  · rw [e2]; exact h.map.mods k (fun e => h.ga_mo e.symm)
  · rw [e2]; exact h.chan.mods k (fun e => h.ga_pc e.symm)
  · intro x
    rw [e1]; exact (h.helds x).keeps hk (by decide)
  · rw [e3]
    obtain ⟨ys, h1, h2, h3⟩ := h.came
    exact ⟨ys, h1.mods k (fun b hb e => h.vc_ga (by rw [hb, e])), h2, fun y hy => (h3 y hy).keeps hk (by decide)⟩
/-- The items that came are another slice. -/
theorem IntAt.putCame (h : IntAt w B A c rs lev m s) (v : Value) (ys : List Iv) (hv : Off elIv w B v ys) (hok : ∀ y ∈ ys, IvOk w B y) (hl : ys.length ≤ 1000000) (s' : IntSt) (he : s'.have_ = s.have_ ∧ s'.over = s.over ∧ s'.held = s.held ∧ s'.cnt = s.cnt ∧ s'.first = s.first) (hc : its ys = s'.came) :
    IntAt (w.setCell ⟨m.ga, 16, none⟩ v) B A c rs lev { m with cs := m.cs.setIfInBounds 16 v, vc := v } s' := by
  have k : Mods (fun g => g = m.ga) w (w.setCell ⟨m.ga, 16, none⟩ v) := mods_setCell w ⟨m.ga, 16, none⟩ v
  have hk := keeps_ga h k
  obtain ⟨e1, e2, e3, e4, e5⟩ := he
  have hne : v.ownBlock ≠ some m.ga := fun hb => by
    obtain ⟨_, _, cur, h1⟩ := hv.typed hb
    have h2 := h.blk
    unfold Blk at h1 h2
    rw [h2] at h1
    injection h1 with h1
    injection h1 with _ h1
    cases h1
  refine ⟨h.base, h.apart, h.blk.set_ _ _, by show (m.cs.setIfInBounds _ _).size = _; rw [Array.size_setIfInBounds]; exact h.size, ?_, ?_, ?_, ?_, ?_, ?_, ?_, ?_, ?_, ?_, ?_, ?_, h.mat.keeps hk (by decide) (by decide), by rw [e4]; exact h.few, by rw [← hc, its_length]; exact hl⟩
  · show (m.cs.setIfInBounds _ _)[0]? = _
    rw [get_set_ne (by omega)]; exact h.lat
  · show (m.cs.setIfInBounds _ _)[1]? = _
    rw [get_set_ne (by omega)]; exact h.lev_
  · intro a ha
    show (m.cs.setIfInBounds _ _)[2 + a]? = _
    rw [get_set_ne (by omega), e1]; exact h.hav a ha
  · intro a ha
    show (m.cs.setIfInBounds _ _)[8 + a]? = _
    rw [get_set_ne (by omega), e2]; exact h.ovr a ha
  · show (m.cs.setIfInBounds _ _)[14]? = _
    rw [get_set_ne (by omega)]; exact h.mapc
  · show (m.cs.setIfInBounds _ _)[15]? = _
    rw [get_set_ne (by omega)]; exact h.chac
  · show (m.cs.setIfInBounds _ _)[16]? = _
    rw [get_set_eq (by rw [h.size]; omega)]
  · show (m.cs.setIfInBounds _ _)[17]? = _
    rw [get_set_ne (by omega), e5]; exact h.firc
  · rw [e4]; exact h.map.mods k (fun e => h.ga_mo e.symm)
  · rw [e4]; exact h.chan.mods k (fun e => h.ga_pc e.symm)
  · intro x
    rw [e3]; exact (h.helds x).keeps hk (by decide)
  · exact ⟨ys, hv.mods k (fun b hb e => hne (by rw [hb, e])), hc, fun y hy => (hok y hy).keeps hk (by decide)⟩
def comesHave (s : IntSt) (a : Nat) : IntSt := { s with have_ := fun k => if k = a then s.have_ a + 1 else s.have_ k }
def comesOver (s : IntSt) (a : Nat) : IntSt := { s with over := fun k => if k = a then s.over a + 1 else s.over k }
theorem IntAt.putHave (h : IntAt w B A c rs lev m s) {a : Nat} (ha : a < 6) :
    IntAt (w.setCell ⟨m.ga, 2 + a, none⟩ (.int .i64 (s.have_ a + 1))) B A c rs lev { m with cs := m.cs.setIfInBounds (2 + a) (.int .i64 (s.have_ a + 1)) } (comesHave s a) ∧ IntGo B w m (w.setCell ⟨m.ga, 2 + a, none⟩ (.int .i64 (s.have_ a + 1))) { m with cs := m.cs.setIfInBounds (2 + a) (.int .i64 (s.have_ a + 1)) } := by
  refine h.put (2 + a) _ (comesHave s a) (by omega) ?_ ?_ ?_ ⟨rfl, rfl, rfl⟩
  · intro b hb
    by_cases e : b = a
    · subst e
      rw [get_set_eq (by rw [h.size]; omega)]; simp [comesHave]
    · rw [get_set_ne (by omega), h.hav b hb]; simp [comesHave, e]
  · intro b hb
    rw [get_set_ne (by omega)]; exact h.ovr b hb
  · rw [get_set_ne (by omega)]; exact h.firc
theorem IntAt.putOver (h : IntAt w B A c rs lev m s) {a : Nat} (ha : a < 6) :
    IntAt (w.setCell ⟨m.ga, 8 + a, none⟩ (.int .i64 (s.over a + 1))) B A c rs lev { m with cs := m.cs.setIfInBounds (8 + a) (.int .i64 (s.over a + 1)) } (comesOver s a) ∧ IntGo B w m (w.setCell ⟨m.ga, 8 + a, none⟩ (.int .i64 (s.over a + 1))) { m with cs := m.cs.setIfInBounds (8 + a) (.int .i64 (s.over a + 1)) } := by
  refine h.put (8 + a) _ (comesOver s a) (by omega) ?_ ?_ ?_ ⟨rfl, rfl, rfl⟩
  · intro b hb
    rw [get_set_ne (by omega)]; exact h.hav b hb
  · intro b hb
    by_cases e : b = a
    · subst e
      rw [get_set_eq (by rw [h.size]; omega)]; simp [comesOver]
    · rw [get_set_ne (by omega), h.ovr b hb]; simp [comesOver, e]
  · rw [get_set_ne (by omega)]; exact h.firc
end
end Go.Proofs.Ytdknkbpgkkakhaa
