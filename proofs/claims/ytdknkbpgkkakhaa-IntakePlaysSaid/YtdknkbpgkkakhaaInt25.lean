/- Layer 20: the intake, its old self and the document's, apart from each other. -/
import Derived.Test.YtdknkbpgkkakhaaInt24
import Derived.Test.YtdknkbpgkkakhaaInt23
namespace Go.Proofs.Ytdknkbpgkkakhaa
open Go.RowKit Go.Maps

structure Both (w : World) (B : Nat) (A : Option Addr) (c : Nat) (rs : List Rw) (lev : Int) (m : IntMem) (s : IntSt) (r : RfMem) (q : RfSt) : Prop where
  int : IntAt w B A c rs lev m s
  ref : RfAt w B A c rs lev r q
  apart : ∀ b, RfOwn r b → ¬ IntOwn m b
structure Trio (w : World) (B : Nat) (A : Option Addr) (c : Nat) (rs : List Rw) (lev : Int) (m2 : IntMem) (s2 : IntSt) (m : IntMem) (s : IntSt) (r : RfMem) (q : RfSt) : Prop where
  old : IntAt w B A c rs lev m2 s2
  both : Both w B A c rs lev m s r q
  apart1 : ∀ b, IntOwn m2 b → ¬ IntOwn m b
  apart2 : ∀ b, RfOwn r b → ¬ IntOwn m2 b
section
variable {w w' : World} {B : Nat} {A : Option Addr} {c : Nat} {rs : List Rw} {lev : Int} {m m' m2 : IntMem} {s s' s2 : IntSt} {r r' : RfMem} {q q' : RfSt}
theorem Both.ext (h : Both w B A c rs lev m s r q) (k : Ext w w') : Both w' B A c rs lev m s r q := ⟨h.int.ext k, h.ref.ext k, h.apart⟩
theorem RfAt.byInt (h : RfAt w B A c rs lev r q) (hm : IntAt w B A c rs lev m s) (k : IntGo B w m w' m') (hap : ∀ b, RfOwn r b → ¬ IntOwn m b) : RfAt w' B A c rs lev r q :=
  h.mods k.mods (fun g hg e => hap g e hg) (k.keeps hm) (by decide) (by decide) (by decide)
theorem Both.intStep (h : Both w B A c rs lev m s r q) (k : IntGo B w m w' m') (h' : IntAt w' B A c rs lev m' s') : Both w' B A c rs lev m' s' r q :=
  ⟨h', h.ref.byInt h.int k h.apart, fun b hb => (k.free (h.ref.own_lt hb).2 (h.apart b hb)).1⟩
theorem Both.rfStep (h : Both w B A c rs lev m s r q) (k : RfGo B w r w' r') (h' : RfAt w' B A c rs lev r' q') : Both w' B A c rs lev m s r' q' :=
  ⟨h.int.mods k.mods (fun g hg => by subst hg; exact h.apart _ (.inl rfl)) (k.keeps h.ref) (by decide) (by decide) (by decide), h', fun b hb => by
    rcases k.sub b hb with h1 | h1
    · exact h.apart b h1
    · exact fun e => by have := (h.int.own_lt e).2; omega⟩
theorem Both.copy (h : Both w B A c rs lev m s r q) (k : Ext w w') (h' : IntAt w' B A c rs lev m' s) (hnew : ∀ g, IntOwn m' g → w.heap.size ≤ g) : Trio w' B A c rs lev m s m' s r q :=
  ⟨h.int.ext k, ⟨h', h.ref.ext k, fun b hb e => by have := (h.ref.own_lt hb).2; have := hnew b e; omega⟩, fun b hb e => by have := (h.int.own_lt hb).2; have := hnew b e; omega, h.apart⟩
theorem Trio.ext (h : Trio w B A c rs lev m2 s2 m s r q) (k : Ext w w') : Trio w' B A c rs lev m2 s2 m s r q := ⟨h.old.ext k, h.both.ext k, h.apart1, h.apart2⟩
theorem Trio.step {m3 : IntMem} {s3 : IntSt} (h : Trio w B A c rs lev m2 s2 m s r q) (k : IntGo B w m2 w' m3) (h' : IntAt w' B A c rs lev m3 s3) : Trio w' B A c rs lev m3 s3 m s r q :=
  ⟨h', ⟨h.both.int.mods k.mods (fun g hg => h.apart1 g hg) (k.keeps h.old) (by decide) (by decide) (by decide), h.both.ref.byInt h.old k h.apart2, h.both.apart⟩, fun b hb e => by
    rcases k.sub b hb with h1 | h1
    · exact h.apart1 b h1 e
    · have := (h.both.int.own_lt e).2; omega, fun b hb => (k.free (h.both.ref.own_lt hb).2 (h.apart2 b hb)).1⟩
theorem IntAt.down {B' : Nat} (h : IntAt w B A c rs lev m IntSt.new) (hB : B' ≤ B) (hM : MatAt w B' A rs) : IntAt w B' A c rs lev m IntSt.new where
  base := ⟨Nat.le_trans hB h.base.1, Nat.le_trans hB h.base.2.1, Nat.le_trans hB h.base.2.2⟩
  apart := h.apart
  blk := h.blk
  size := h.size
  lat := h.lat
  lev_ := h.lev_
  hav := h.hav
  ovr := h.ovr
  mapc := h.mapc
  chac := h.chac
  camc := h.camc
  firc := h.firc
  map := h.map
  chan := h.chan
  helds x := by
    rcases h.helds x with h1 | ⟨y, _, h2, _⟩
    · exact .inl h1
    · cases h2
  came := by
    obtain ⟨ys, h1, h2, _⟩ := h.came
    have e : ys = [] := List.map_eq_nil_iff.1 (show ys.map Iv.it = [] from h2)
    subst e
    exact ⟨[], h1.le hB, h2, by simp⟩
  mat := hM
  few := h.few
  camelen := h.camelen
def zero101 (A : Option Addr) (n c : Nat) (lev : Int) : Array Value := #[.slice A n c, .int .i64 lev, .slice none 0 0, .slice none 0 0, .slice none 0 0, .slice none 0 0, .slice none 0 0, .slice none 0 0, .slice none 0 0, .int .i64 0]
def RfMem.new (g : Nat) (A : Option Addr) (n c : Nat) (lev : Int) : RfMem := ⟨g, zero101 A n c lev, fun _ => .slice none 0 0, .slice none 0 0⟩
theorem RfAt.new (hM : MatAt w B A rs) (hB : B ≤ w.heap.size) : RfAt (w.alloc (.cells (zero101 A rs.length c lev) 101)) B A c rs lev (RfMem.new w.heap.size A rs.length c lev) RfSt.new := by
  refine ⟨hB, Blk.new _ _ _, rfl, rfl, rfl, fun a ha => ?_, rfl, rfl, fun a ha => ⟨[], Own.nil _ _, rfl, by simp⟩, ⟨[], Own.nil _ _, rfl, by simp⟩, hM.ext (ext_alloc _ _), fun _ _ => Nat.zero_le _, Nat.zero_le _⟩
  match a, ha with
  | 0, _ => rfl
  | 1, _ => rfl
  | 2, _ => rfl
  | 3, _ => rfl
  | 4, _ => rfl
  | 5, _ => rfl
  | n + 6, h => omega
theorem RfMem.new_own {g n b : Nat} (h : RfOwn (RfMem.new g A n c lev) b) : b = g := by
  rcases h with h | h | ⟨_, _, h⟩
  · exact h
  · cases h
  · cases h
theorem rowF_first : ∀ (k : Nat) (s : IntSt) (x : It), (rowF k s x).1.first = s.first := by
  intro k
  have hc : ∀ (s : IntSt) (x : It), (comesSt s x).first = s.first := fun s x => by unfold comesSt comesHave comesOver; split <;> rfl
  induction k with
  | zero => exact fun s x => hc s x
  | succ k ih =>
    intro s x
    unfold rowF
    split
    · exact hc s x
    · split
      · rw [ih]; exact hc s x
      · exact hc s x
theorem put_first (ms : Mat) (lev : Int) (s : IntSt) (x : It) : (putSt ms lev s x).1.first = s.first := by
  unfold putSt
  split
  · split
    · split
      · rfl
      · split
        · unfold holdsSt; split <;> rfl
        · split
          · exact rowF_first _ _ _
          · rfl
    · rfl
  · rfl
theorem drop_first {s : IntSt} (h : 0 ≤ s.first ∧ s.first ≤ 1000001) (t : Int) : 0 ≤ (dropSt s t).first ∧ (dropSt s t).first ≤ 1000001 := by
  show 0 ≤ dropFirst s t ∧ dropFirst s t ≤ 1000001
  unfold dropFirst
  by_cases h1 : (1000000 : Int) < t
  · rw [if_pos h1]; split <;> omega
  · rw [if_neg h1]; split <;> omega
theorem IntInv.drop {K : Nat} (h : IntInv s K) (t : Int) : IntInv (dropSt s t) K :=
  ⟨h.nums, h.held, by
    have h1 : (dropSt s t).came.length ≤ s.came.length := List.length_filter_le _ _
    have := h.came
    show (dropSt s t).came.length + s.cnt ≤ K
    omega⟩
theorem RfInv.drop (h : RfInv q) (t : Int) : RfInv (rfDrop q t) := h
/-- Behind k rounds. -/
def PLI (w : World) (B : Nat) (A : Option Addr) (c : Nat) (rs : List Rw) (lev : Int) (p : Value) (gr k : Nat) : Prop :=
  ∃ m s r q, p = .pointer (some ⟨m.ga, 0, none⟩) ∧ r.g = gr ∧ Both w B A c rs lev m s r q ∧ Sim s q ∧ RfInv q ∧ IntInv s k ∧ 0 ≤ s.first ∧ s.first ≤ 1000001
theorem PLI.ext {p : Value} {gr k : Nat} (h : PLI w B A c rs lev p gr k) (e : Ext w w') : PLI w' B A c rs lev p gr k := by
  obtain ⟨m, s, r, q, h1, h2, h3, h4⟩ := h
  exact ⟨m, s, r, q, h1, h2, h3.ext e, h4⟩
end
end Go.Proofs.Ytdknkbpgkkakhaa
