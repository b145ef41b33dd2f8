/- Lattices as matrices: plain mathematics, no program in sight. -/
namespace Go.Proofs.YtdknkbpgkkakhaaDoor

abbrev Mat := List (List Bool)
def at2 (m : Mat) (a b : Nat) : Bool := (m.getD a []).getD b false
def squareB (m : Mat) : Bool := m.all (fun r => r.length == m.length) && decide (1 ≤ m.length) && decide (m.length ≤ 6)
def okAt (m : Mat) (a b c : Nat) : Bool := !at2 m a b || !at2 m b c || at2 m a c
def okTwo (m : Mat) (a b : Nat) : Bool := (at2 m a b || a != b) && (a == b || !at2 m a b || !at2 m b a)
def okPair (m : Mat) (a b : Nat) : Bool := okTwo m a b && (List.range m.length).all (fun c => okAt m a b c)
def orderedB (m : Mat) : Bool := (List.range m.length).all fun a => (List.range m.length).all fun b => okPair m a b
def lchk (m : Mat) : Nat := if squareB m then (if orderedB m then 0 else 11) else 10
def levels (m : Mat) : Nat := if lchk m = 0 then m.length else 0
def ldom (m : Mat) (a b : Int) : Bool := decide (0 ≤ a) && decide (a < levels m) && decide (0 ≤ b) && decide (b < levels m) && at2 m a.toNat b.toNat
def labove (m : Mat) (a b : Int) : Bool := a != b && ldom m a b
def lbelow (m : Mat) (a : Int) : List Nat := (List.range (levels m)).filter fun b => labove m a b
def lcovers (m : Mat) (a : Int) : List Nat := (lbelow m a).filter fun b => (lbelow m a).all fun c => !labove m c b
def lfree (m : Mat) (out : List Nat) (a : Nat) : Bool := !out.contains a && (lbelow m a).all fun b => out.contains b
def orderGo (m : Mat) : Nat → List Nat → List Nat
  | 0, out => out
  | k + 1, out => match (List.range (levels m)).find? (lfree m out) with
    | some a => orderGo m k (out ++ [a])
    | none => out
def lorder (m : Mat) : List Nat := orderGo m (levels m) []
def ltop (m : Mat) (a b : Int) (c : Nat) : Bool := ldom m c a && ldom m c b && (List.range (levels m)).all fun d => !ldom m d a || !ldom m d b || ldom m d c
def ljoin (m : Mat) (a b : Int) : Option Nat := (List.range (levels m)).find? (ltop m a b)
def chainK (n : Int) : Nat := (min (max n 1) 6).toNat
def chainRow (k a : Nat) : List Bool := (List.range k).map fun b => decide (b ≤ a)
def lchain (n : Int) : Mat := (List.range (chainK n)).map fun a => chainRow (chainK n) a

theorem levels_le (m : Mat) : levels m ≤ 6 := by
  unfold levels lchk
  by_cases hs : squareB m = true
  · have : m.length ≤ 6 := by simp [squareB] at hs; omega
    by_cases h : (if squareB m = true then if orderedB m = true then 0 else 11 else 10) = 0
    · rw [if_pos h]; exact this
    · rw [if_neg h]; omega
  · simp [hs]
theorem levels_of (m : Mat) (h : lchk m = 0) : levels m = m.length := by simp [levels, h]
theorem levels_no (m : Mat) (h : lchk m ≠ 0) : levels m = 0 := by simp [levels, h]
theorem levels_or (m : Mat) : (lchk m = 0 ∧ levels m = m.length) ∨ levels m = 0 := by
  by_cases h : lchk m = 0
  · exact .inl ⟨h, levels_of m h⟩
  · exact .inr (levels_no m h)
theorem lchk_square {m : Mat} (h : lchk m = 0) : squareB m = true := by
  unfold lchk at h
  by_cases hs : squareB m = true
  · exact hs
  · simp [hs] at h
theorem lchk_ordered {m : Mat} (h : lchk m = 0) : orderedB m = true := by
  have hs := lchk_square h
  unfold lchk at h
  rw [if_pos hs] at h
  by_cases ho : orderedB m = true
  · exact ho
  · simp [ho] at h
theorem ldom_eq {m : Mat} {a b : Nat} (ha : a < levels m) (hb : b < levels m) : ldom m a b = at2 m a b := by
  simp [ldom, ha, hb]
theorem ldom_lt {m : Mat} {a b : Int} (h : ldom m a b = true) : 0 ≤ a ∧ a < levels m ∧ 0 ≤ b ∧ b < levels m := by
  simp [ldom] at h; omega
theorem dom_refl {m : Mat} {a : Nat} (ha : a < levels m) : ldom m a a = true := by
  rw [ldom_eq ha ha]
  rcases levels_or m with ⟨h, e⟩ | h
  · have ho := lchk_ordered h
    simp only [orderedB, List.all_eq_true, List.mem_range] at ho
    have := ho a (by omega) a (by omega)
    simp [okPair, okTwo] at this
    exact this.1
  · omega
theorem dom_anti {m : Mat} {a b : Nat} (hab : ldom m a b = true) (hba : ldom m b a = true) : a = b := by
  have h1 := ldom_lt hab
  rcases levels_or m with ⟨h, e⟩ | h
  · have ho := lchk_ordered h
    simp only [orderedB, List.all_eq_true, List.mem_range] at ho
    have := ho a (by omega) b (by omega)
    rw [ldom_eq (by omega) (by omega)] at hab hba
    simp [okPair, okTwo, hab, hba] at this
    exact this.1
  · omega
theorem dom_trans {m : Mat} {a b c : Nat} (hab : ldom m a b = true) (hbc : ldom m b c = true) : ldom m a c = true := by
  have h1 := ldom_lt hab
  have h2 := ldom_lt hbc
  rcases levels_or m with ⟨h, e⟩ | h
  · have ho := lchk_ordered h
    simp only [orderedB, List.all_eq_true, List.mem_range] at ho
    have := ho a (by omega) b (by omega)
    rw [ldom_eq (by omega) (by omega)] at hab hbc ⊢
    simp only [okPair, Bool.and_eq_true, List.all_eq_true, List.mem_range] at this
    have := this.2 c (by omega)
    simpa [okAt, hab, hbc] using this
  · omega
theorem above_iff {m : Mat} {a b : Int} : labove m a b = true ↔ a ≠ b ∧ ldom m a b = true := by simp [labove]
theorem above_trans {m : Mat} {a b c : Nat} (hab : labove m a b = true) (hbc : labove m b c = true) : labove m a c = true := by
  rw [above_iff] at *
  refine ⟨fun e => ?_, dom_trans hab.2 hbc.2⟩
  have e' : a = c := by omega
  subst e'
  have := dom_anti hab.2 hbc.2
  omega
theorem above_irrefl {m : Mat} {a : Int} : labove m a a = false := by simp [labove]
theorem mem_below {m : Mat} {a : Int} {b : Nat} : b ∈ lbelow m a ↔ labove m a b = true := by
  simp only [lbelow, List.mem_filter, List.mem_range, and_iff_right_iff_imp]
  intro h
  have := ldom_lt (above_iff.1 h).2
  omega
theorem below_lt {m : Mat} {a : Int} {b : Nat} (h : b ∈ lbelow m a) : b < levels m := by
  simp only [lbelow, List.mem_filter, List.mem_range] at h; exact h.1

/-- Strictly fewer lie below what lies below. -/
theorem below_shrinks {m : Mat} {a b : Nat} (h : labove m a b = true) : (lbelow m b).length < (lbelow m a).length := by
  unfold lbelow
  have hb : b < levels m := below_lt (mem_below.2 h)
  have key : ∀ (l : List Nat), b ∈ l → (l.filter fun (c : Nat) => labove m b c).length < (l.filter fun (c : Nat) => labove m a c).length := by
    have le : ∀ (l : List Nat), (l.filter fun (c : Nat) => labove m b c).length ≤ (l.filter fun (c : Nat) => labove m a c).length := by
      intro l
      induction l with
      | nil => simp
      | cons c l ih =>
        simp only [List.filter_cons]
        by_cases hc : labove m b c = true
        · rw [if_pos hc, if_pos (above_trans h hc)]; simp; omega
        · rw [if_neg hc]; split <;> first | (simp; omega) | omega
    intro l hl
    induction l with
    | nil => cases hl
    | cons c l ih =>
      simp only [List.filter_cons]
      by_cases hcb : c = b
      · subst hcb
        rw [if_neg (by rw [above_irrefl]; decide), if_pos h]
        have := le l
        simp; omega
      · have hl' : b ∈ l := by
          rcases List.mem_cons.1 hl with e | e
          · exact absurd e.symm hcb
          · exact e
        have := ih hl'
        by_cases hc : labove m b c = true
        · rw [if_pos hc, if_pos (above_trans h hc)]; simp; omega
        · rw [if_neg hc]; split <;> first | (simp; omega) | omega
  exact key _ (List.mem_range.2 hb)

/-- Where not all are taken, one is free. -/
theorem exists_free {m : Mat} {out : List Nat} (hn : ∃ a, a < levels m ∧ a ∉ out) : ∃ a, a < levels m ∧ lfree m out a = true := by
  have key : ∀ (k : Nat) (a : Nat), (lbelow m a).length ≤ k → a < levels m → a ∉ out → ∃ a, a < levels m ∧ lfree m out a = true := by
    intro k
    induction k with
    | zero =>
      intro a hk ha hout
      refine ⟨a, ha, ?_⟩
      have : lbelow m a = [] := List.length_eq_zero_iff.1 (by omega)
      simp [lfree, this, hout]
    | succ k ih =>
      intro a hk ha hout
      by_cases hall : ∀ b ∈ lbelow m a, b ∈ out
      · exact ⟨a, ha, by simpa [lfree, hout] using hall⟩
      · simp only [Classical.not_forall] at hall
        obtain ⟨b, hb, hbo⟩ := hall
        have h1 := below_shrinks (mem_below.1 hb)
        exact ih b (by omega) (below_lt hb) hbo
  obtain ⟨a, ha, hout⟩ := hn
  exact key _ a (Nat.le_refl _) ha hout

/-- What a row of levels taken so far is. -/
structure Taken (m : Mat) (out : List Nat) : Prop where
  nodup : out.Nodup
  lt : ∀ a ∈ out, a < levels m
theorem exists_left {m : Mat} {out : List Nat} (h : Taken m out) (hl : out.length < levels m) : ∃ a, a < levels m ∧ a ∉ out := by
  by_cases hc : ∀ a, a < levels m → a ∈ out
  · exfalso
    have hsub : List.range (levels m) ⊆ out := fun a ha => hc a (List.mem_range.1 ha)
    have := (List.nodup_range (n := levels m)).length_le_of_subset hsub
    simp at this
    omega
  · simp only [Classical.not_forall] at hc
    obtain ⟨a, h1, h2⟩ := hc
    exact ⟨a, h1, h2⟩
theorem find_some {m : Mat} {out : List Nat} (h : Taken m out) (hl : out.length < levels m) : ∃ a, (List.range (levels m)).find? (lfree m out) = some a ∧ a < levels m ∧ lfree m out a = true := by
  obtain ⟨b, hb, hf⟩ := exists_free (exists_left h hl)
  cases hfind : (List.range (levels m)).find? (lfree m out) with
  | none =>
    rw [List.find?_eq_none] at hfind
    exact absurd hf (hfind b (List.mem_range.2 hb))
  | some a => exact ⟨a, rfl, List.mem_range.1 (List.mem_of_find?_eq_some hfind), List.find?_some hfind⟩
theorem Taken.snoc {m : Mat} {out : List Nat} (h : Taken m out) {a : Nat} (ha : a < levels m) (hf : lfree m out a = true) : Taken m (out ++ [a]) := by
  have hn : a ∉ out := by simp [lfree] at hf; exact hf.1
  refine ⟨?_, fun b hb => ?_⟩
  · rw [List.nodup_append]
    refine ⟨h.nodup, by simp, fun x hx y hy e => ?_⟩
    have hy' : y = a := by simpa using hy
    rw [e, hy'] at hx
    exact hn hx
  · rcases List.mem_append.1 hb with h1 | h1
    · exact h.lt b h1
    · have e : b = a := by simpa using h1
      omega
theorem Taken.nil (m : Mat) : Taken m [] := ⟨List.nodup_nil, by simp⟩
theorem orderGo_spec {m : Mat} : ∀ (k : Nat) (out : List Nat), Taken m out → out.length + k = levels m → Taken m (orderGo m k out) ∧ (orderGo m k out).length = levels m ∧ ∃ r, orderGo m k out = out ++ r
  | 0, out, h, hl => ⟨h, by simpa [orderGo] using hl, [], by simp [orderGo]⟩
  | k + 1, out, h, hl => by
    obtain ⟨a, e, ha, hf⟩ := find_some h (by omega)
    rw [orderGo, e]
    dsimp only
    obtain ⟨h1, h2, r, h3⟩ := orderGo_spec k (out ++ [a]) (h.snoc ha hf) (by simp; omega)
    exact ⟨h1, h2, a :: r, by rw [h3]; simp⟩
theorem order_taken (m : Mat) : Taken m (lorder m) ∧ (lorder m).length = levels m := by
  obtain ⟨h1, h2, _⟩ := orderGo_spec (m := m) (levels m) [] (Taken.nil m) (by simp)
  exact ⟨h1, h2⟩
theorem order_step {m : Mat} {k : Nat} {out : List Nat} (h : Taken m out) (hl : out.length + (k + 1) = levels m) : ∃ a, (List.range (levels m)).find? (lfree m out) = some a ∧ orderGo m (k + 1) out = orderGo m k (out ++ [a]) ∧ a < levels m ∧ lfree m out a = true := by
  obtain ⟨a, e, ha, hf⟩ := find_some h (by omega)
  exact ⟨a, e, by rw [orderGo, e], ha, hf⟩
/-- Behind all that it is above. -/
def Behind (m : Mat) (out : List Nat) : Prop := ∀ i k, (hi : i < out.length) → (hk : k < i) → labove m (out[k]'(by omega)) out[i] = false
theorem orderGo_behind {m : Mat} : ∀ (k : Nat) (out : List Nat), Taken m out → out.length + k = levels m → (∀ a ∈ out, ∀ b ∈ lbelow m a, b ∈ out) → Behind m out → Behind m (orderGo m k out)
  | 0, out, _, _, _, hb => by simpa [orderGo] using hb
  | k + 1, out, h, hl, hd, hb => by
    obtain ⟨a, e, ha, hf⟩ := find_some h (by omega)
    rw [orderGo, e]
    dsimp only
    have hf' : a ∉ out ∧ ∀ b ∈ lbelow m a, b ∈ out := by simpa [lfree] using hf
    refine orderGo_behind k (out ++ [a]) (h.snoc ha hf) (by simp; omega) ?_ ?_
    · intro x hx b hbx
      rcases List.mem_append.1 hx with h1 | h1
      · exact List.mem_append.2 (.inl (hd x h1 b hbx))
      · have e : x = a := by simpa using h1
        subst e
        exact List.mem_append.2 (.inl (hf'.2 b hbx))
    · intro i j hi hj
      by_cases hil : i < out.length
      · rw [List.getElem_append_left (by omega), List.getElem_append_left hil]
        exact hb i j hil hj
      · have : i = out.length := by simp at hi; omega
        subst this
        rw [List.getElem_append_left hj, List.getElem_append_right (Nat.le_refl _)]
        simp only [Nat.sub_self, List.getElem_cons_zero]
        cases hab : labove m (out[j] : Nat) a
        · rfl
        · exact absurd (hd _ (List.getElem_mem hj) a (mem_below.2 hab)) hf'.1
theorem order_behind (m : Mat) : Behind m (lorder m) :=
  orderGo_behind (levels m) [] (Taken.nil m) (by simp) (by simp) (fun i k hi _ => absurd hi (by simp))

/-- Below what is above something there is a cover that reaches it. -/
theorem cover_reaches {m : Mat} {i : Int} {b : Nat} (hb : b ∈ lbelow m i) : ∃ c, c ∈ lcovers m i ∧ ldom m c b = true := by
  have key : ∀ (k : Nat) (b : Nat), (levels m - (lbelow m b).length) ≤ k → b ∈ lbelow m i → ∃ c, c ∈ lcovers m i ∧ ldom m c b = true := by
    intro k
    induction k with
    | zero =>
      intro b hk hb
      exfalso
      have h1 : (lbelow m b).length < levels m := by
        have hlt := below_lt hb
        have : (lbelow m b).length < (List.range (levels m)).length := by
          refine Nat.lt_of_le_of_ne (List.length_filter_le _ _) fun e => ?_
          have := List.length_filter_eq_length_iff.1 e b (List.mem_range.2 hlt)
          rw [above_irrefl] at this
          cases this
        simpa using this
      omega
    | succ k ih =>
      intro b hk hb
      by_cases hc : ∀ c ∈ lbelow m i, labove m c b = false
      · exact ⟨b, List.mem_filter.2 ⟨hb, by simpa using hc⟩, dom_refl (below_lt hb)⟩
      · simp only [Classical.not_forall] at hc
        obtain ⟨c, hci, hcb⟩ := hc
        have hcb' : labove m c b = true := by simpa using hcb
        have h1 := below_shrinks hcb'
        have hlc : (lbelow m c).length ≤ levels m := by
          have := List.length_filter_le (fun (b : Nat) => labove m c b) (List.range (levels m))
          simpa [lbelow] using this
        obtain ⟨d, hd, hdc⟩ := ih c (by omega) hci
        exact ⟨d, hd, dom_trans hdc (above_iff.1 hcb').2⟩
  exact key _ b (Nat.le_refl _) hb
theorem covers_le (m : Mat) (i : Int) : (lcovers m i).length ≤ (lbelow m i).length := List.length_filter_le _ _
theorem covers_pos (m : Mat) (i : Int) : decide (0 < (lbelow m i).length) = decide (0 < (lcovers m i).length) := by
  rw [Bool.eq_iff_iff]
  simp only [decide_eq_true_eq]
  constructor
  · intro h
    obtain ⟨c, hc, _⟩ := cover_reaches (List.getElem_mem h)
    exact List.length_pos_of_mem hc
  · intro h; have := covers_le m i; omega
end Go.Proofs.YtdknkbpgkkakhaaDoor
