/- append of one element, and of a whole list, onto a row of the call's own. -/
import Derived.Test.YtdknkbpgkkakhaaDoorPlan
namespace Go.Proofs.YtdknkbpgkkakhaaDoor
open Go.RowKit

theorem one_flat {α : Type} {f : α → List Value} {xs : List α} (h : ∀ x, ∀ u ∈ f x, u.oneCell' = true) : ∀ u ∈ flat f xs, u.oneCell' = true := by
  intro u hu
  simp only [flat, List.mem_flatMap] at hu
  obtain ⟨x, _, hx⟩ := hu
  exact h x u hx
/-- What append needs to know of an element type. -/
structure Elem (α : Type) where
  f : α → List Value
  t : TypeId
  e : TypeId
  size : Nat
  bytes : Nat
  z : Value
  len : ∀ x, (f x).length = size
  one : ∀ x, ∀ u ∈ f x, u.oneCell' = true
  ht : Tryd.prog.underlying t = some (.slice e)
  info : (Tryd.prog.info? e).map (fun i => (i.zero, i.size, i.bytes)) = some (some z, size, bytes)
  hz : z.cells.size = size
  pos : 0 < size

/-- The slice v is the call's own row and reads as xs. -/
def Own {α : Type} (E : Elem α) (w : World) (base : Nat) (v : Value) (xs : List α) : Prop := w.ownsRow base E.e E.size v xs.length (flat E.f xs)
section
variable {α : Type} {E : Elem α} {w w' : World} {base : Nat} {v : Value} {xs : List α}
theorem Own.ext (h : Own E w base v xs) (k : Ext w w') : Own E w' base v xs := own_ext h k
theorem Own.nil (w : World) (base : Nat) : Own E w base (.slice none 0 0) [] := World.ownsRow_nil _ _ _ _
theorem Own.form (h : Own E w base v xs) : ∃ A c, v = .slice A xs.length c := own_form h
theorem Own.rows {A : Option Addr} {c : Nat} {B : Nat} (h : Own E w base (.slice A xs.length c) xs) : RowsAt w B E.e E.size E.f A xs := RowsAt.of_own h E.len rfl
theorem Own.typed (h : Own E w base v xs) {b : Nat} (hb : v.ownBlock = some b) : base ≤ b ∧ ∀ cs t fr, w.heap[b]? = some (.cells cs t fr) → t = E.e := own_typed h hb
theorem Own.mods {S : Nat → Prop} (h : Own E w base v xs) (k : Mods S w w') (hS : ∀ b, v.ownBlock = some b → ¬ S b) : Own E w' base v xs := own_mods h k hS
theorem own_le' {base base' : Nat} {e : TypeId} {size n : Nat} {v : Value} {xs : List Value} (h : w.ownsRow base e size v n xs) (hb : base' ≤ base) : w.ownsRow base' e size v n xs := by
  refine ⟨h.1, ?_⟩
  rcases h.2 with h2 | ⟨g, cap, cur, hv, hg, r⟩
  · exact .inl h2
  · exact .inr ⟨g, cap, cur, hv, by omega, r⟩
theorem Own.le {base' : Nat} (h : Own E w base v xs) (hb : base' ≤ base) : Own E w base' v xs := own_le' h hb
theorem Own.keeps {w' : World} {B : Nat} (h : Own E w base v xs) (hg : w.grownBy w' v.ownBlock) (hB : B ≤ base) : Keeps B [E.e] w w' :=
  Keeps.of_mods (Mods.grown hg) fun k hk => by
    obtain ⟨h1, h2⟩ := h.typed hk
    exact ⟨by omega, fun cs t fr h => by rw [h2 cs t fr h]; simp⟩
end

section
variable {α : Type} (E : Elem α) {ops : Array Oper} {rest : List Oper} {o : Oper} {a : Act} {K : Act → World → Prop} {Q : Exit → Act → World → Prop} {w : World}

theorem run_append (ty : TypeId) (base : Nat) (v : Value) (xs : List α) (hown : Own E w base v xs) (A : Option Addr) (c : Nat) (ys : List α) (B : Nat) (hr : RowsAt w B E.e E.size E.f A ys)
    (hlen : (xs.length + ys.length) * E.bytes ≤ 140737488355328) (hl2 : xs.length + ys.length ≤ 9223372036854775807) (hbase : base ≤ w.heap.size) :
    ∃ v' w', (Builtin.append_ #[E.t, E.t] ty #[v, .slice A ys.length c]).run Tryd.prog w = .ok v' w' ∧ Own E w' base v' (xs ++ ys) ∧ w.grownBy w' v.ownBlock ∧ (v'.ownBlock = v.ownBlock ∨ v'.ownBlock = some w.heap.size) := by
  obtain ⟨i0, hi, hz0, hz1, hz2⟩ := info_parts E.info
  rcases A with _ | ad
  · have h0 : ys = [] := by
      cases ys with
      | nil => rfl
      | cons x xs => obtain ⟨ad, h, _⟩ := hr 0 (by simp); cases h
    subst h0
    refine ⟨v, w, ?_, by simpa using hown, World.grownBy.refl w _, .inl rfl⟩
    have hsz := E.pos
    rcases hown.2 with ⟨rfl, _⟩ | ⟨g, cap, cur, rfl, _, _, hnc, _⟩
    · simp [Builtin.append_, run_underlying E.ht, sizeOf, typeInfo, hi, Builtin.lenOf, Builtin.firstCells]
    · simp [Builtin.append_, run_underlying E.ht, sizeOf, typeInfo, hi, Builtin.lenOf, Builtin.firstCells, hnc, storeCells]
  · have hnews : ∀ j u, (flat E.f ys)[j]? = some u → w.cell? (ad.add j) = some u := by
      intro j u hj
      have hne : ys ≠ [] := fun h => by subst h; simp [flat] at hj
      obtain ⟨ad', e1, hc⟩ := hr.news E.len hne
      have e2 : ad = ad' := Option.some.inj e1
      rw [e2]
      exact hc j u hj
    obtain ⟨v', w', hrun, h2, h3, _, h5⟩ := run_append_own_at (P := Tryd.prog) w base E.t ty E.e i0 E.z E.size E.bytes E.ht hi hz0 hz1 hz2 E.hz E.pos v xs.length (flat E.f xs) hown ad ys.length c (flat E.f ys) (flat_length E.len) hnews (one_flat E.one) hl2 hlen hbase
    refine ⟨v', w', hrun, ?_, h3, h5⟩
    unfold Own
    rw [List.length_append, flat_append]
    exact h2

theorem wp_append (s x : Operand) (ho : o.op = .call { callee := .builtin .append, args := #[s, x], argTypes := #[E.t, E.t] })
    (base : Nat) (v : Value) (xs : List α) (hs : a.eval s = v) (hown : Own E w base v xs) (A : Option Addr) (c : Nat) (ys : List α) (hx : a.eval x = .slice A ys.length c) (B : Nat) (hr : RowsAt w B E.e E.size E.f A ys)
    (hlen : (xs.length + ys.length) * E.bytes ≤ 140737488355328) (hl2 : xs.length + ys.length ≤ 9223372036854775807) (hbase : base ≤ w.heap.size)
    (h : ∀ A' c' w', Own E w' base (.slice A' (xs ++ ys).length c') (xs ++ ys) → w.grownBy w' v.ownBlock → ((Value.slice A' (xs ++ ys).length c').ownBlock = v.ownBlock ∨ (Value.slice A' (xs ++ ys).length c').ownBlock = some w.heap.size) → K (a.put o.dst (.slice A' (xs ++ ys).length c')) w') :
    o.wp Tryd.prog a w K Q := by
  obtain ⟨v', w', hrun, h2, h3, h4⟩ := run_append E o.type base v xs hown A c ys B hr hlen hl2 hbase
  obtain ⟨A', c', rfl⟩ := h2.form
  unfold Oper.wp execOp
  simp only [ho, resolve, invoke, builtin, Sem.run_bind, Sem.run_pure, Result.andThen_ok, List.map_toArray, List.map_cons, List.map_nil, hs, hx, hrun]
  exact h A' c' w' h2 h3 h4

theorem wpList_append (hgd : o.guard = none) (s x : Operand) (ho : o.op = .call { callee := .builtin .append, args := #[s, x], argTypes := #[E.t, E.t] })
    (base : Nat) (v : Value) (xs : List α) (hs : a.eval s = v) (hown : Own E w base v xs) (A : Option Addr) (c : Nat) (ys : List α) (hx : a.eval x = .slice A ys.length c) (B : Nat) (hr : RowsAt w B E.e E.size E.f A ys)
    (hlen : (xs.length + ys.length) * E.bytes ≤ 140737488355328) (hl2 : xs.length + ys.length ≤ 9223372036854775807) (hbase : base ≤ w.heap.size)
    (h : ∀ A' c' w', Own E w' base (.slice A' (xs ++ ys).length c') (xs ++ ys) → w.grownBy w' v.ownBlock → ((Value.slice A' (xs ++ ys).length c').ownBlock = v.ownBlock ∨ (Value.slice A' (xs ++ ys).length c').ownBlock = some w.heap.size) → wpList Tryd.prog ops Q rest (a.put o.dst (.slice A' (xs ++ ys).length c')) w') :
    wpList Tryd.prog ops Q (o :: rest) a w :=
  wpList_plain hgd fun _ hK => wp_append E s x ho base v xs hs hown A c ys hx B hr hlen hl2 hbase fun A' c' w' h2 h3 h4 => hK _ _ (h A' c' w' h2 h3 h4)

theorem step_append {R : Prop} (hgd : o.guard = none) (s x : Operand) (ho : o.op = .call { callee := .builtin .append, args := #[s, x], argTypes := #[E.t, E.t] })
    (base : Nat) (v : Value) (xs : List α) (hs : a.eval s = v) (hown : Own E w base v xs) (A : Option Addr) (c : Nat) (ys : List α) (hx : a.eval x = .slice A ys.length c) (B : Nat) (hr : RowsAt w B E.e E.size E.f A ys)
    (hlen : (xs.length + ys.length) * E.bytes ≤ 140737488355328) (hl2 : xs.length + ys.length ≤ 9223372036854775807) (hbase : base ≤ w.heap.size)
    (h : ∀ A' c' w', Own E w' base (.slice A' (xs ++ ys).length c') (xs ++ ys) → w.grownBy w' v.ownBlock → ((Value.slice A' (xs ++ ys).length c').ownBlock = v.ownBlock ∨ (Value.slice A' (xs ++ ys).length c').ownBlock = some w.heap.size) → K (a.put o.dst (.slice A' (xs ++ ys).length c')) w') :
    if Region.wanted o (yielded ops a.tmps) = true then Oper.wp Tryd.prog o a w K Q else R := by
  have hw : Region.wanted o (yielded ops a.tmps) = true := by simp [Region.wanted, hgd]
  rw [if_pos hw]
  exact wp_append E s x ho base v xs hs hown A c ys hx B hr hlen hl2 hbase h

/-- A block that was just laid reads as the one element. -/
theorem rows_block {g : Nat} {fr : Nat × Nat} {B : Nat} (y : α) (hb : w.heap[g]? = some (.cells (E.f y).toArray E.e fr)) : RowsAt w B E.e E.size E.f (some ⟨g, 0, none⟩) [y] := by
  intro i hi
  have h0 : i = 0 := by simpa using hi
  subst h0
  refine ⟨_, rfl, .inr ⟨_, _, hb⟩, fun j v hj => ?_⟩
  rw [Nat.zero_mul]
  exact World.news_of_block hb j v (by simpa using hj)
end
end Go.Proofs.YtdknkbpgkkakhaaDoor
