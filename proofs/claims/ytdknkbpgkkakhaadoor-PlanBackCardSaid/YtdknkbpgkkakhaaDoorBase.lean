/- Words on memory that the proofs of this seat share: rows of structs in memory, worlds in which only named blocks have turned. -/
import Derived.Test.YtdknkbpgkkakhaaDoorRows
import Derived.WalkKit
import Derived.WalkSpells
import Derived.WalkLawsBesides
import Derived.Deep.QuietTactic
import Derived.BigQuiet
import Derived.Deep.LoopGhost
import Derived.Deep.RegionHeld3
import Derived.Deep.RegionWith
import Derived.Deep.DeepMust
import Derived.Deep.DeepFit
import Derived.Deep.DeepCutAuto
import Derived.Deep.AppendLies
import Derived.Maps.AppendAt
import Derived.Lib.Hide
namespace Go.Proofs.YtdknkbpgkkakhaaDoor
open Go.RowKit

theorem block_of_add (a : Addr) (n : Nat) : (a.add n).block = a.block := by unfold Addr.add; split <;> rfl
theorem add_of_add (a : Addr) (i j : Nat) : (a.add i).add j = a.add (i + j) := by
  unfold Addr.add
  by_cases hi : i = 0 <;> by_cases hj : j = 0 <;> simp [hi, hj, Nat.add_assoc]
theorem add_zero (a : Addr) : a.add 0 = a := rfl
theorem add_succ (a : Addr) (j : Nat) : a.add (j + 1) = ⟨a.block, a.off + (j + 1), none⟩ := by simp [Addr.add]

/-- Only blocks of S have turned; new ones may have come. -/
structure Mods (S : Nat → Prop) (w w' : World) : Prop where
  os : w'.os = w.os
  tape : w'.tape = w.tape
  output : w'.output = w.output
  size : w.heap.size ≤ w'.heap.size
  block : ∀ k, k < w.heap.size → ¬ S k → w'.heap[k]? = w.heap[k]?

abbrev Ext (w w' : World) : Prop := Below w.heap.size w w'

section
variable {S S' : Nat → Prop} {w w' w1 w2 : World} {B : Nat}
theorem Mods.refl (S : Nat → Prop) (w : World) : Mods S w w := ⟨rfl, rfl, rfl, Nat.le_refl _, fun _ _ _ => rfl⟩
theorem Mods.of_below (h : Ext w w') (S : Nat → Prop) : Mods S w w' := ⟨h.os, h.tape, h.output, h.size, fun k hk _ => h.block k hk⟩
theorem Mods.trans (h : Mods S w w1) (k : Mods S' w1 w2) (hS : ∀ k, k < w.heap.size → S' k → S k) : Mods S w w2 :=
  ⟨k.os.trans h.os, k.tape.trans h.tape, k.output.trans h.output, Nat.le_trans h.size k.size,
    fun i hi hs => (k.block i (Nat.lt_of_lt_of_le hi h.size) (fun hc => hs (hS i hi hc))).trans (h.block i hi hs)⟩
theorem Mods.below (h : Mods S w w') (hB : B ≤ w.heap.size) (hS : ∀ k, S k → B ≤ k) : Below B w w' :=
  ⟨h.os, h.tape, h.output, h.size, fun k hk => h.block k (by omega) (fun hs => by have := hS k hs; omega)⟩
theorem Mods.grown {row : Option Nat} (hg : w.grownBy w' row) : Mods (fun k => row = some k) w w' :=
  ⟨hg.os, hg.tape, hg.output, hg.size, fun k hk hr => hg.block k hk (fun e => hr e.symm)⟩
theorem ext_trans (h : Ext w w1) (k : Ext w1 w2) : Ext w w2 := h.trans (k.mono h.size)
theorem below_ext (h : Below B w w1) (hB : B ≤ w.heap.size) (k : Ext w1 w2) : Below B w w2 := h.trans (k.mono (Nat.le_trans hB h.size))
theorem ext_drewN (w : World) (n : Nat) : Ext w (w.drewN n) := ⟨rfl, rfl, rfl, Nat.le_refl _, fun _ _ => rfl⟩
theorem ext_alloc (w : World) (o : Obj) : Ext w (w.alloc o) := (Below.refl _ _).alloc (Nat.le_refl _) o
theorem ext_cell {a : Addr} {v : Value} (h : Ext w w') (hc : w.cell? a = some v) : w'.cell? a = some v := (h.cell (World.block_lt_of_cell? w a hc)).trans hc
theorem ext_block {g : Nat} {o : Obj} (h : Ext w w') (hg : w.heap[g]? = some o) : w'.heap[g]? = some o := by
  have hlt : g < w.heap.size := (Array.getElem?_eq_some_iff.1 hg).1
  exact (h.block g hlt).trans hg
end

/-- Block b is an old one (from before B), or one whose cells are of type t. -/
def Old (w : World) (B : Nat) (t : TypeId) (b : Nat) : Prop := b < B ∨ ∃ cs fr, w.heap[b]? = some (.cells cs t fr)

/-- Of the blocks from B on only those have turned that hold cells of the types T. -/
structure Keeps (B : Nat) (T : List TypeId) (w w' : World) : Prop where
  size : w.heap.size ≤ w'.heap.size
  block : ∀ k, k < w.heap.size → (k < B ∨ ∃ cs t fr, w.heap[k]? = some (.cells cs t fr) ∧ t ∉ T) → w'.heap[k]? = w.heap[k]?

section
variable {S : Nat → Prop} {w w' w1 w2 : World} {B : Nat} {T T' : List TypeId}
theorem Keeps.refl (B : Nat) (T : List TypeId) (w : World) : Keeps B T w w := ⟨Nat.le_refl _, fun _ _ _ => rfl⟩
theorem Keeps.of_ext (h : Ext w w') (B : Nat) (T : List TypeId) : Keeps B T w w' := ⟨h.size, fun k hk _ => h.block k hk⟩
theorem Keeps.trans (h : Keeps B T w w1) (k : Keeps B T w1 w2) : Keeps B T w w2 :=
  ⟨Nat.le_trans h.size k.size, fun i hi hs => by
    have e1 := h.block i hi hs
    refine (k.block i (Nat.lt_of_lt_of_le hi h.size) ?_).trans e1
    rcases hs with hs | ⟨cs, t, fr, hb, ht⟩
    · exact .inl hs
    · exact .inr ⟨cs, t, fr, e1.trans hb, ht⟩⟩
theorem Keeps.of_mods (h : Mods S w w') (hS : ∀ k, S k → B ≤ k ∧ ∀ cs t fr, w.heap[k]? = some (.cells cs t fr) → t ∈ T) : Keeps B T w w' :=
  ⟨h.size, fun k hk hs => h.block k hk (fun hc => by
    obtain ⟨h1, h2⟩ := hS k hc
    rcases hs with hs | ⟨cs, t, fr, hb, ht⟩
    · omega
    · exact ht (h2 cs t fr hb))⟩
theorem Keeps.old {t : TypeId} {b : Nat} (h : Keeps B T w w') (hb : b < w.heap.size) (ho : Old w B t b) (ht : t ∉ T) : w'.heap[b]? = w.heap[b]? :=
  h.block b hb (by rcases ho with h1 | ⟨cs, fr, h1⟩; exact .inl h1; exact .inr ⟨cs, t, fr, h1, ht⟩)
end

/-- A slice's address and length read as the list xs, each element being the cells f x (s of them, of type e). -/
def RowsAt {α : Type} (w : World) (B : Nat) (e : TypeId) (s : Nat) (f : α → List Value) (A : Option Addr) (xs : List α) : Prop :=
  ∀ i, (h : i < xs.length) → ∃ ad, A = some ad ∧ Old w B e ad.block ∧ ∀ j v, (f xs[i])[j]? = some v → w.cell? ((ad.add (i * s)).add j) = some v

section
variable {α : Type} {w w' : World} {B : Nat} {e : TypeId} {s : Nat} {f : α → List Value} {A : Option Addr} {xs : List α} {T : List TypeId}
theorem RowsAt.nil : RowsAt w B e s f A [] := fun i h => absurd h (by simp)
theorem RowsAt.ext (h : RowsAt w B e s f A xs) (k : Ext w w') : RowsAt w' B e s f A xs := fun i hi => by
  obtain ⟨ad, e1, ho, hc⟩ := h i hi
  refine ⟨ad, e1, ?_, fun j v hj => ext_cell k (hc j v hj)⟩
  rcases ho with ho | ⟨cs, fr, ho⟩
  · exact .inl ho
  · exact .inr ⟨cs, fr, ext_block k ho⟩
theorem RowsAt.keeps (h : RowsAt w B e s f A xs) (k : Keeps B T w w') (he : e ∉ T) : RowsAt w' B e s f A xs := fun i hi => by
  obtain ⟨ad, e1, ho, hc⟩ := h i hi
  have hblk : ad.block < w.heap.size → w'.heap[ad.block]? = w.heap[ad.block]? := fun hlt => k.old hlt ho he
  refine ⟨ad, e1, ?_, fun j v hj => ?_⟩
  · rcases ho with ho | ⟨cs, fr, ho⟩
    · exact .inl ho
    · exact .inr ⟨cs, fr, (hblk (Array.getElem?_eq_some_iff.1 ho).1).trans ho⟩
  · have hc' := hc j v hj
    have hlt := World.block_lt_of_cell? w _ hc'
    rw [block_of_add, block_of_add] at hlt
    refine (World.cell?_of_block (w := w) ?_).trans hc'
    rw [block_of_add, block_of_add]
    exact hblk hlt
theorem RowsAt.more {B' : Nat} (h : RowsAt w B e s f A xs) (hB : B ≤ B') : RowsAt w B' e s f A xs := fun i hi => by
  obtain ⟨ad, e1, ho, hc⟩ := h i hi
  refine ⟨ad, e1, ?_, hc⟩
  rcases ho with ho | ho
  · exact .inl (by omega)
  · exact .inr ho
theorem RowsAt.take (h : RowsAt w B e s f A xs) (n : Nat) : RowsAt w B e s f A (xs.take n) := fun i hi => by
  have hi' : i < xs.length := by simp at hi; omega
  obtain ⟨ad, e1, ho, hc⟩ := h i hi'
  exact ⟨ad, e1, ho, fun j v hj => hc j v (by simpa using hj)⟩

def flat (f : α → List Value) (xs : List α) : List Value := xs.flatMap f
theorem flat_nil : flat f [] = [] := rfl
theorem flat_cons (x : α) : flat f (x :: xs) = f x ++ flat f xs := by simp [flat]
theorem flat_append (ys : List α) : flat f (xs ++ ys) = flat f xs ++ flat f ys := by simp [flat]
theorem flat_one (x : α) : flat f [x] = f x := by simp [flat]
theorem flat_length (hs : ∀ x, (f x).length = s) : (flat f xs).length = xs.length * s := by
  induction xs with
  | nil => simp [flat]
  | cons x xs ih => rw [flat_cons, List.length_append, hs, ih, List.length_cons, Nat.succ_mul]; omega
theorem flat_get (hs : ∀ x, (f x).length = s) : ∀ (xs : List α) (i : Nat) (h : i < xs.length) (j : Nat), j < s → (flat f xs)[i * s + j]? = (f xs[i])[j]?
  | [], i, h, _, _ => absurd h (by simp)
  | x :: xs, 0, h, j, hj => by
    rw [flat_cons, List.getElem?_append_left (by rw [hs]; omega)]; simp
  | x :: xs, i + 1, h, j, hj => by
    rw [flat_cons, List.getElem?_append_right (by rw [hs, Nat.succ_mul]; omega), hs]
    have := flat_get hs xs i (by simpa using h) j hj
    rw [show (i + 1) * s + j - s = i * s + j by rw [Nat.succ_mul]; omega, this]; simp
theorem flat_split (hs : ∀ x, (f x).length = s) {k : Nat} {v : Value} (h : (flat f xs)[k]? = some v) : ∃ i j, ∃ hi : i < xs.length, j < s ∧ k = i * s + j ∧ (f xs[i])[j]? = some v := by
  have hk : k < xs.length * s := by
    have := (List.getElem?_eq_some_iff.1 h).1
    rwa [flat_length hs] at this
  have hs0 : 0 < s := by
    rcases Nat.eq_zero_or_pos s with h0 | h0
    · subst h0; omega
    · exact h0
  have hi : k / s < xs.length := by rw [Nat.div_lt_iff_lt_mul hs0]; exact hk
  have hj := Nat.mod_lt k hs0
  have hkk : k / s * s + k % s = k := by rw [Nat.mul_comm]; exact Nat.div_add_mod k s
  refine ⟨k / s, k % s, hi, hj, hkk.symm, ?_⟩
  have := flat_get hs xs (k / s) hi (k % s) hj
  rw [hkk, h] at this
  exact this.symm

/-- What the laws on append ask of the source. -/
theorem RowsAt.news (h : RowsAt w B e s f A xs) (hs : ∀ x, (f x).length = s) (hn : xs ≠ []) : ∃ ad, A = some ad ∧ ∀ j u, (flat f xs)[j]? = some u → w.cell? (ad.add j) = some u := by
  have h0 : 0 < xs.length := List.length_pos_iff.2 hn
  obtain ⟨ad, e1, _, _⟩ := h 0 h0
  refine ⟨ad, e1, fun j u hj => ?_⟩
  obtain ⟨i, j', hi, _, rfl, hv⟩ := flat_split hs hj
  obtain ⟨ad', e2, _, hc⟩ := h i hi
  rw [e1] at e2
  injection e2 with e2
  subst e2
  rw [← add_of_add]
  exact hc j' u hv

theorem RowsAt.of_own {base n c : Nat} (h : w.ownsRow base e s (.slice A n c) n (flat f xs)) (hs : ∀ x, (f x).length = s) (hn : xs.length = n) : RowsAt w B e s f A xs := by
  intro i hi
  have hn0 : 0 < n := by omega
  rcases h.2 with ⟨_, h0⟩ | ⟨g, cap, cur, hv, hg, hh, hnc, hcm, hsz, htk⟩
  · omega
  · injection hv with hA _ _
    subst hA
    refine ⟨_, rfl, .inr ⟨_, _, hh⟩, fun j v hj => ?_⟩
    have hjs : j < s := by have := (List.getElem?_eq_some_iff.1 hj).1; rwa [hs] at this
    rw [add_of_add]
    refine h.cells (g := g) rfl _ v ?_
    rw [flat_get hs xs i hi j hjs]
    exact hj
end

/-- A slice value that reads as xs. -/
def SliceOf {α : Type} (w : World) (B : Nat) (e : TypeId) (s : Nat) (f : α → List Value) (v : Value) (xs : List α) : Prop :=
  ∃ A c, v = .slice A xs.length c ∧ RowsAt w B e s f A xs

theorem own_form {w : World} {base n : Nat} {e : TypeId} {size : Nat} {v : Value} {xs : List Value} (h : w.ownsRow base e size v n xs) : ∃ A c, v = .slice A n c := by
  rcases h.2 with ⟨rfl, rfl⟩ | ⟨g, cap, cur, rfl, _⟩
  · exact ⟨_, _, rfl⟩
  · exact ⟨_, _, rfl⟩
theorem SliceOf.of_own {α : Type} {w : World} {B : Nat} {e : TypeId} {s : Nat} {f : α → List Value} {v : Value} {xs : List α} {base n : Nat} (h : w.ownsRow base e s v n (flat f xs)) (hs : ∀ x, (f x).length = s) (hn : xs.length = n) : SliceOf w B e s f v xs := by
  subst hn
  obtain ⟨A, c, rfl⟩ := own_form h
  exact ⟨A, c, rfl, .of_own h hs rfl⟩

/-- A whole block. -/
def Blk (w : World) (g : Nat) (t : TypeId) (cs : Array Value) : Prop := w.heap[g]? = some (.cells cs t (0, 0))
section
variable {w w' : World} {g : Nat} {t : TypeId} {cs : Array Value} {S : Nat → Prop}
theorem Blk.lt (h : Blk w g t cs) : g < w.heap.size := (Array.getElem?_eq_some_iff.1 h).1
theorem Blk.cell (h : Blk w g t cs) (i : Nat) : w.cell? ⟨g, i, none⟩ = cs[i]? := cell_of_row w g i cs t (0, 0) h
theorem Blk.frozen (h : Blk w g t cs) (i : Nat) : w.frozen? ⟨g, i, none⟩ = false := by
  unfold Blk at h
  simp [World.frozen?, h]
theorem Blk.new (w : World) (t : TypeId) (cs : Array Value) : Blk (w.alloc (.cells cs t)) w.heap.size t cs := heap_alloc_new w _
theorem Blk.ext (h : Blk w g t cs) (k : Ext w w') : Blk w' g t cs := ext_block k h
theorem Blk.mods (h : Blk w g t cs) (k : Mods S w w') (hg : ¬ S g) : Blk w' g t cs := (k.block g h.lt hg).trans h
theorem Blk.set_ (h : Blk w g t cs) (i : Nat) (u : Value) : Blk (w.setCell ⟨g, i, none⟩ u) g t (cs.setIfInBounds i u) := by
  unfold Blk at h ⊢
  simp [World.setCell, Array.getElem?_modify, h]
theorem mods_setCell (w : World) (a : Addr) (u : Value) : Mods (fun k => k = a.block) w (w.setCell a u) :=
  ⟨rfl, rfl, rfl, by simp [World.setCell], fun k _ hk => Below.heap_setCell w a u k hk⟩
theorem Blk.ne_own {base : Nat} {e : TypeId} {size n : Nat} {v : Value} {xs : List Value} (hg : Blk w g t cs) (h : w.ownsRow base e size v n xs) (hne : e ≠ t) : v.ownBlock ≠ some g := by
  rcases h.2 with ⟨rfl, _⟩ | ⟨g', cap, cur, rfl, _, hh, _⟩
  · simp [Value.ownBlock]
  · intro he
    have : g' = g := by simpa [Value.ownBlock] using he
    subst this
    unfold Blk at hg
    rw [hg] at hh
    injection hh with hh
    injection hh with _ ht
    exact hne ht.symm
theorem own_mods {base : Nat} {e : TypeId} {size n : Nat} {v : Value} {xs : List Value} (h : w.ownsRow base e size v n xs) (k : Mods S w w') (hS : ∀ b, v.ownBlock = some b → ¬ S b) : w'.ownsRow base e size v n xs := by
  refine ⟨h.1, ?_⟩
  rcases h.2 with h2 | ⟨g, cap, cur, hv, hg, hh, r⟩
  · exact .inl h2
  · refine .inr ⟨g, cap, cur, hv, hg, (k.block g (Array.getElem?_eq_some_iff.1 hh).1 (hS g ?_)).trans hh, r⟩
    rw [hv]; rfl
theorem own_ext {base : Nat} {e : TypeId} {size n : Nat} {v : Value} {xs : List Value} (h : w.ownsRow base e size v n xs) (k : Ext w w') : w'.ownsRow base e size v n xs :=
  own_mods h (Mods.of_below k (fun _ => False)) (fun _ _ h => h)
theorem own_typed {base : Nat} {e : TypeId} {size n : Nat} {v : Value} {xs : List Value} (h : w.ownsRow base e size v n xs) {b : Nat} (hb : v.ownBlock = some b) : base ≤ b ∧ ∀ cs t fr, w.heap[b]? = some (.cells cs t fr) → t = e := by
  rcases h.2 with ⟨rfl, _⟩ | ⟨g, cap, cur, rfl, hg, hh, _⟩
  · simp [Value.ownBlock] at hb
  · have : g = b := by simpa [Value.ownBlock] using hb
    subst this
    refine ⟨hg, fun cs t fr h => ?_⟩
    rw [hh] at h
    injection h with h
    injection h with _ h
    exact h.symm
end

theorem ret_int {k : IntKind} {a b : Int} (h : a = b) : Ending.returned (.int k a) = .returned (.int k b) := by rw [h]
theorem ret_bool {a b : Bool} (h : a = b) : Ending.returned (.bool a) = .returned (.bool b) := by rw [h]

end Go.Proofs.YtdknkbpgkkakhaaDoor
