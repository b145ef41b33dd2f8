/- Chains: plain mathematics. -/
import Derived.Test.YtdknkbpgkkakhaaLat11
namespace Go.Proofs.Ytdknkbpgkkakhaa

theorem at2_chain {k a b : Nat} (ha : a < k) (hb : b < k) : at2 (chainUp k k) a b = decide (b ≤ a) := by
  simp [at2, chainUp, chainRow, ha, hb]
theorem chainUp_length (k : Nat) : (chainUp k k).length = k := by simp [chainUp]
theorem lchk_chain {k : Nat} (h1 : 1 ≤ k) (h6 : k ≤ 6) : lchk (chainUp k k) = 0 := by
  have hs : squareB (chainUp k k) = true := by
    simp only [squareB, chainUp_length, Bool.and_eq_true, List.all_eq_true, decide_eq_true_eq, beq_iff_eq]
    refine ⟨⟨?_, h1⟩, h6⟩
    intro r hr
    simp only [chainUp, List.mem_map] at hr
    obtain ⟨a, _, rfl⟩ := hr
    simp [chainRow]
  have ho : orderedB (chainUp k k) = true := by
    simp only [orderedB, List.all_eq_true, List.mem_range, chainUp_length, okPair, okTwo, okAt, Bool.and_eq_true]
    intro a ha b hb
    refine ⟨⟨?_, ?_⟩, fun c hc => ?_⟩
    · rw [at2_chain ha hb]; by_cases h : a = b
      · subst h; simp
      · simp [h]
    · rw [at2_chain ha hb, at2_chain hb ha]
      by_cases h : a = b
      · simp [h]
      · by_cases h2 : b ≤ a
        · have : ¬ a ≤ b := by omega
          simp [this]
        · simp [h2]
    · rw [at2_chain ha hb, at2_chain hb hc, at2_chain ha hc]
      by_cases h2 : b ≤ a
      · by_cases h3 : c ≤ b
        · have : c ≤ a := by omega
          simp [this]
        · simp [h3]
      · simp [h2]
  simp [lchk, hs, ho]
theorem levels_chain {k : Nat} (h1 : 1 ≤ k) (h6 : k ≤ 6) : levels (chainUp k k) = k := by rw [levels_of _ (lchk_chain h1 h6), chainUp_length]
section
variable {k : Nat} (h1 : 1 ≤ k) (h6 : k ≤ 6)
include h1 h6
theorem ldom_chain {a b : Nat} (ha : a < k) (hb : b < k) : ldom (chainUp k k) a b = decide (b ≤ a) := by
  rw [ldom_eq (by rw [levels_chain h1 h6]; exact ha) (by rw [levels_chain h1 h6]; exact hb), at2_chain ha hb]
theorem labove_chain {a b : Nat} (ha : a < k) (hb : b < k) : labove (chainUp k k) a b = decide (b < a) := by
  rw [labove, ldom_chain h1 h6 ha hb]
  by_cases h : a = b
  · subst h; simp
  · have e : (b ≤ a) = (b < a) := by rw [eq_iff_iff]; omega
    have : ((a : Int) != (b : Int)) = true := by simp; omega
    rw [this, Bool.true_and]; simp only [e]
theorem lbelow_chain {i : Nat} (hi : i < k) : lbelow (chainUp k k) i = List.range i := by
  have e : lbelow (chainUp k k) i = (List.range k).filter fun b => decide (b < i) := by
    rw [lbelow, levels_chain h1 h6]
    apply List.filter_congr
    intro b hb
    exact labove_chain h1 h6 hi (List.mem_range.1 hb)
  rw [e]
  have key : ∀ n, i ≤ n → (List.range n).filter (fun b => decide (b < i)) = List.range i := by
    intro n
    induction n with
    | zero => intro h; have : i = 0 := by omega
              subst this; rfl
    | succ n ih =>
      intro h
      rw [List.range_succ, List.filter_append]
      by_cases hn : n < i
      · have e2 : i = n + 1 := by omega
        subst e2
        rw [List.filter_eq_self.2 (fun x hx => by have := List.mem_range.1 hx; simp; omega), List.range_succ]
        simp
      · rw [ih (by omega)]
        simp [hn]
  exact key k (by omega)
theorem lcovers_chain {i : Nat} (hi : i < k) : lcovers (chainUp k k) i = if i = 0 then [] else [i - 1] := by
  have e : lcovers (chainUp k k) i = (List.range i).filter fun b => (List.range i).all fun c => !decide (b < c) := by
    rw [lcovers, lbelow_chain h1 h6 hi]
    apply List.filter_congr
    intro b hb
    rw [Bool.eq_iff_iff, List.all_eq_true, List.all_eq_true]
    have hb' := List.mem_range.1 hb
    constructor
    · intro h c hc
      have := h c hc
      rwa [labove_chain h1 h6 (by have := List.mem_range.1 hc; omega) (by omega)] at this
    · intro h c hc
      rw [labove_chain h1 h6 (by have := List.mem_range.1 hc; omega) (by omega)]
      exact h c hc
  rw [e]
  have : i = 0 ∨ i = 1 ∨ i = 2 ∨ i = 3 ∨ i = 4 ∨ i = 5 := by omega
  rcases this with rfl | rfl | rfl | rfl | rfl | rfl <;> decide
theorem lfree_chain {j : Nat} (hj : j < k) : lfree (chainUp k k) (List.range j) j = true ∧ ∀ i, i < j → lfree (chainUp k k) (List.range j) i = false := by
  refine ⟨?_, fun i hi => ?_⟩
  · rw [lfree, lbelow_chain h1 h6 hj]; simp
  · simp [lfree, hi]
theorem orderGo_chain : ∀ n j, j + n = k → orderGo (chainUp k k) n (List.range j) = List.range k
  | 0, j, h => by rw [orderGo, show j = k by omega]
  | n + 1, j, h => by
    have hf : (List.range (levels (chainUp k k))).find? (lfree (chainUp k k) (List.range j)) = some j := by
      rw [levels_chain h1 h6, List.find?_range_eq_some]
      obtain ⟨a, b⟩ := lfree_chain h1 h6 (j := j) (by omega)
      exact ⟨a, List.mem_range.2 (by omega), fun i hi => by simp [b i hi]⟩
    rw [orderGo, hf]
    dsimp only
    rw [← List.range_succ]
    exact orderGo_chain n (j + 1) (by omega)
theorem lorder_chain : lorder (chainUp k k) = List.range k := by
  rw [lorder, levels_chain h1 h6]
  exact orderGo_chain h1 h6 k 0 (by omega)
theorem ljoin_chain {i j : Nat} (hi : i < k) (hj : j < k) : ljoin (chainUp k k) i j = some (if i ≤ j then j else i) := by
  rw [ljoin, levels_chain h1 h6, List.find?_range_eq_some]
  have hm : (if i ≤ j then j else i) < k := by split <;> omega
  refine ⟨?_, List.mem_range.2 hm, fun c hc => ?_⟩
  · simp only [ltop, Bool.and_eq_true, List.all_eq_true, List.mem_range, levels_chain h1 h6]
    refine ⟨⟨?_, ?_⟩, fun d hd => ?_⟩
    · rw [ldom_chain h1 h6 hm hi]; simp; split <;> omega
    · rw [ldom_chain h1 h6 hm hj]; simp; split <;> omega
    · rw [ldom_chain h1 h6 hd hi, ldom_chain h1 h6 hd hj, ldom_chain h1 h6 hd hm]
      by_cases a : i ≤ d
      · by_cases b : j ≤ d
        · have : (if i ≤ j then j else i) ≤ d := by split <;> omega
          simp [this]
        · simp [b]
      · simp [a]
  · have hck : c < k := by omega
    simp only [ltop]
    rw [ldom_chain h1 h6 hck hi, ldom_chain h1 h6 hck hj]
    by_cases a : i ≤ j
    · rw [if_pos a] at hc
      have : ¬ j ≤ c := by omega
      simp [this]
    · rw [if_neg a] at hc
      have : ¬ i ≤ c := by omega
      simp [this]
end
structure ChainIs (m : Mat) (k i j : Nat) : Prop where
  chk : lchk m = 0
  lev : levels m = k
  ord : lorder m = List.range k
  below : (lbelow m i).length = i
  covers : lcovers m i = (if i = 0 then [] else [i - 1])
  above : labove m i j = decide (j < i)
  join : ljoin m i j = some (if i ≤ j then j else i)
theorem chain_is {k i j : Nat} (hk : 1 ≤ k) (hk6 : k ≤ 6) (hi : i < k) (hj : j < k) : ChainIs (chainUp k k) k i j :=
  ⟨lchk_chain hk hk6, levels_chain hk hk6, lorder_chain hk hk6, by rw [lbelow_chain hk hk6 hi]; simp, lcovers_chain hk hk6 hi, labove_chain hk hk6 hi hj, ljoin_chain hk hk6 hi hj⟩
theorem lchain_up {k : Nat} (hk : 1 ≤ k) (hk6 : k ≤ 6) : lchain (k : Int) = chainUp k k := by
  have : chainK (k : Int) = k := by unfold chainK; omega
  rw [← chainUp_all, this]
end Go.Proofs.Ytdknkbpgkkakhaa
