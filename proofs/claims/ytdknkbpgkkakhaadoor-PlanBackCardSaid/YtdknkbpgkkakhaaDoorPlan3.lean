/- The walk by a plan where an operation that only reads may stand three steps ahead of a bar. -/
import Derived.Test.YtdknkbpgkkakhaaDoorPlanF
namespace Go.Proofs.YtdknkbpgkkakhaaDoor
open Go.RowKit

section
variable {P : Program} {ops : Array Oper} {Q : Exit → Act → World → Prop} {S : World → Prop} {b : Nat → Bool}

/-- Operation k waits for operation i, by itself or through another one. -/
def reach (ops : Array Oper) (k i : Nat) : Bool := direct ops k i || match ops[k]? with
  | some o => o.after.any fun e => Region.binds .any e && direct ops e.on i
  | none => false
theorem reach_spec {k i : Nat} {o : Oper} (ho : ops[k]? = some o) (h : reach ops k i = true) : ∃ e ∈ o.after, Region.binds .any e = true ∧ (e.on = i ∨ direct ops e.on i = true) := by
  simp only [reach, ho, Bool.or_eq_true] at h
  rcases h with h | h
  · obtain ⟨e, he, hb, hon⟩ := direct_spec ho h
    exact ⟨e, he, hb, .inl hon⟩
  · obtain ⟨m, hm, hb⟩ := Array.any_eq_true.1 h
    simp only [Bool.and_eq_true] at hb
    exact ⟨_, Array.getElem_mem hm, hb.1, .inr hb.2⟩

theorem wpAnyB_first3 {i : Nat} {oi : Oper} {v : Value} (hi : ops[i]? = some oi) (hsel : ∀ (j : Nat) (o : Oper) cs c, ops[j]? = some o → o.op ≠ .select cs c)
    (hQ : ∀ c a w, Q (.panic c) (a.put oi.dst v) w → Q (.panic c) a w) (hbi : b i = false) :
    ∀ (fuel : Nat) (listed : Array Bool) (a : Act) (w : World),
      (∀ j oj, ops[j]? = some oj → j ≠ i → listed.getD j true = false → (∀ e ∈ oj.after, Region.binds .any e = true → e.on ≠ i ∧ reach ops e.on i = false) → b j = false ∧ oi.apart ops oj = true) →
      (∀ k, reach ops k i = true → listed.getD k false = false) →
      i ∈ Region.ready .any ops listed → YieldsIf P ops S oi v a → S w →
      wpAnyB P ops Q S b fuel (listed.setIfInBounds i true) (a.put oi.dst v) w → wpAnyB P ops Q S b (fuel + 1) listed a w := by
  intro fuel
  induction fuel with
  | zero =>
    intro listed a w _ _ hr hy hS H
    refine ⟨fun h => (by rw [h] at hr; cases hr), fun j hj => ?_⟩
    by_cases hji : j = i
    · subst hji
      refine hy.wpOp hi hS ?_
      rw [if_neg (by simp [hbi])]
      exact ⟨hS, H⟩
    · have := ready_mono hj hji
      rw [H.1] at this
      cases this
  | succ fuel ih =>
    intro listed a w hfree hun hr hy hS H
    refine ⟨fun h => (by rw [h] at hr; cases hr), fun j hj => ?_⟩
    by_cases hji : j = i
    · subst hji
      refine hy.wpOp hi hS ?_
      rw [if_neg (by simp [hbi])]
      exact ⟨hS, H⟩
    · have h1 := H.2 j (ready_mono hj hji)
      obtain ⟨hjun, oj, hoj, hall⟩ := mem_ready.1 hj
      have hnot0 : ∀ e ∈ oj.after, Region.binds .any e = true → e.on ≠ i := fun e he hb heq => by
        have h1 := hall e he hb
        have h0 := (mem_ready.1 hr).1
        rw [heq] at h1
        rcases Nat.lt_or_ge i listed.size with h' | h'
        · simp only [Array.getD_eq_getD_getElem?, Array.getElem?_eq_getElem h', Option.getD_some] at h0 h1
          rw [h0] at h1; cases h1
        · simp [Array.getElem?_eq_none h'] at h1
      have hnot : ∀ e ∈ oj.after, Region.binds .any e = true → e.on ≠ i ∧ reach ops e.on i = false := fun e he hb => by
        refine ⟨hnot0 e he hb, ?_⟩
        cases hd : reach ops e.on i
        · rfl
        · have h1 := hall e he hb
          rw [hun _ hd] at h1; cases h1
      obtain ⟨hbj, hap⟩ := hfree j oj hoj hji hjun hnot
      simp only [hbj, Bool.false_eq_true, if_false] at h1 ⊢
      have h2 := wpOp_putIf (S := S) hoj hap (fun cs c => hsel i oi cs c hi) (fun cs c => hsel j oj cs c hoj) hQ hy h1
      refine wpOp_mono (fun a' w' ⟨hy', hS', hk⟩ => ⟨hS', ?_⟩) h2
      refine ih (listed.setIfInBounds j true) a' w' ?_ ?_ (ready_mono hr (Ne.symm hji)) hy' hS' ?_
      · intro k ok hk1 hk2 hk3 hk4
        refine hfree k ok hk1 hk2 ?_ hk4
        by_cases hkj : j = k
        · subst hkj
          rw [show (listed.setIfInBounds j true).getD j true = true by
            rcases Nat.lt_or_ge j listed.size with h' | h'
            · simp [h']
            · simp] at hk3
          cases hk3
        · rwa [getD_set_ne true hkj] at hk3
      · intro k hk'
        have hkj : j ≠ k := fun e => by
          subst e
          obtain ⟨e, he, hb, hon⟩ := reach_spec hoj hk'
          rcases hon with hon | hon
          · exact hnot0 e he hb hon
          · have h5 := hall e he hb
            rw [hun e.on (by simp [reach, hon])] at h5; cases h5
        rw [getD_set_ne false hkj]
        exact hun k hk'
      · rw [Array.setIfInBounds_comm _ _ hji]
        exact hk

def firstOk3 (ops : Array Oper) (b : Nat → Bool) (listed : Array Bool) (i : Nat) : Bool :=
  (Region.ready .any ops listed).contains i && !b i && match ops[i]? with
  | none => false
  | some oi => (List.range ops.size).all fun j => j == i || (listed.getD j true && !reach ops j i) || (!listed.getD j true && match ops[j]? with
      | some oj => oj.after.any (fun e => Region.binds .any e && (e.on == i || reach ops e.on i)) || (!b j && oi.apart ops oj)
      | none => false)

def planOk3 (ops : Array Oper) (b : Nat → Bool) : Plan → Array Bool → Bool
  | .done, listed => (Region.ready .any ops listed).isEmpty
  | .reads i p, listed => firstOk3 ops b listed i && planOk3 ops b p (listed.setIfInBounds i true)
  | .makes i p, listed => (Region.ready .any ops listed == [i]) && !b i && planOk3 ops b p (listed.setIfInBounds i true)
  | .turns i p, listed => (Region.ready .any ops listed == [i]) && b i && planOk3 ops b p (listed.setIfInBounds i true)
  | .fork i p j q, listed => (Region.ready .any ops listed == [i, j]) && !b i && !b j && planOk3 ops b p (listed.setIfInBounds i true) && planOk3 ops b q (listed.setIfInBounds j true)

theorem firstOk3_spec {listed : Array Bool} {i : Nat} {oi : Oper} (hi : ops[i]? = some oi) (h : firstOk3 ops b listed i = true) :
    i ∈ Region.ready .any ops listed ∧ b i = false ∧
    (∀ j oj, ops[j]? = some oj → j ≠ i → listed.getD j true = false → (∀ e ∈ oj.after, Region.binds .any e = true → e.on ≠ i ∧ reach ops e.on i = false) → b j = false ∧ oi.apart ops oj = true) ∧
    (∀ k, reach ops k i = true → listed.getD k false = false) := by
  simp only [firstOk3, hi, Bool.and_eq_true, List.all_eq_true, List.mem_range, Bool.not_eq_true', List.contains_iff_mem] at h
  obtain ⟨⟨h1, h2⟩, h3⟩ := h
  refine ⟨h1, h2, fun j oj hj hne hun hnot => ?_, fun k hk => ?_⟩
  · have := h3 j (Array.getElem?_eq_some_iff.1 hj).1
    rw [hj] at this
    simp only [Bool.or_eq_true, beq_iff_eq, hne, hun, Bool.false_eq_true, false_or, Bool.and_eq_true, Bool.not_eq_true', Bool.not_false, false_and, true_and] at this
    rcases this with h4 | h4
    · obtain ⟨k, hk, hb⟩ := Array.any_eq_true.1 h4
      simp only [Bool.and_eq_true, Bool.or_eq_true, beq_iff_eq] at hb
      have hh := hnot _ (Array.getElem_mem hk) hb.1
      rcases hb.2 with h5 | h5
      · exact absurd h5 hh.1
      · rw [hh.2] at h5; cases h5
    · exact h4
  · cases hlk : listed.getD k false
    · rfl
    · exfalso
      cases hok : ops[k]? with
      | none => simp [reach, direct, hok] at hk
      | some ok =>
        have := h3 k (Array.getElem?_eq_some_iff.1 hok).1
        have hkt : listed.getD k true = true := by
          rcases Nat.lt_or_ge k listed.size with h' | h'
          · simp only [Array.getD_eq_getD_getElem?, Array.getElem?_eq_getElem h', Option.getD_some] at hlk ⊢; exact hlk
          · simp [Array.getElem?_eq_none h'] at hlk
        simp only [hk, hkt, Bool.not_true, Bool.and_false, Bool.false_and, Bool.or_false, beq_iff_eq] at this
        subst this
        have h0 := (mem_ready.1 h1).1
        rw [hkt] at h0; cases h0

theorem wpSeg_sound3 (hsel : Region.noSelect ops = true) : ∀ (plan : Plan) (listed : Array Bool) (S : World → Prop) (a : Act) (w : World) (n : Nat), plan.size = n → n < 1000000 →
    planOk3 ops b plan listed = true → S w → wpSeg P ops Q plan S a w → wpAnyB P ops Q S b n listed a w
  | .done, listed, S, a, w, n, hn, _, hp, hS, h => by
    subst hn
    simp only [planOk3, List.isEmpty_iff] at hp
    exact ⟨hp, h⟩
  | .reads i p, listed, S, a, w, n, hn, hlt, hp, hS, h => by
    obtain ⟨o, v, ho, hy, hQ, h⟩ := h
    simp only [planOk3, Bool.and_eq_true] at hp
    obtain ⟨h1, h2, h3, h4⟩ := firstOk3_spec ho hp.1
    subst hn
    exact wpAnyB_first3 ho (Region.noSelect_spec hsel) hQ h2 p.size listed a w h3 h4 h1 hy hS (wpSeg_sound3 hsel p _ S _ w _ rfl (by simp only [Plan.size] at hlt; omega) hp.2 hS h)
  | .makes i p, listed, S, a, w, n, hn, hlt, hp, hS, h => by
    simp only [planOk3, Bool.and_eq_true, beq_iff_eq, Bool.not_eq_true'] at hp
    subst hn
    refine wpAnyB_only hp.1.1 (wpOp_mono (fun a' w' ⟨S', hS', hSS, h'⟩ => ?_) h)
    rw [if_neg (by simp [hp.1.2])]
    exact ⟨hSS _ hS', wpAnyB_mono hSS _ _ _ _ (wpSeg_sound3 hsel p _ S' a' w' _ rfl (by simp only [Plan.size] at hlt; omega) hp.2 hS' h')⟩
  | .turns i p, listed, S, a, w, n, hn, hlt, hp, hS, h => by
    simp only [planOk3, Bool.and_eq_true, beq_iff_eq] at hp
    subst hn
    refine wpAnyB_only hp.1.1 (wpOp_mono (fun a' w' ⟨S', hS', h'⟩ => ?_) h)
    rw [if_pos hp.1.2]
    exact wpAny_of_B _ _ _ _ (wpSeg_sound3 hsel p _ S' a' w' _ rfl (by simp only [Plan.size] at hlt; omega) hp.2 hS' h')
  | .fork i p j q, listed, S, a, w, n, hn, hlt, hp, hS, h => by
    simp only [planOk3, Bool.and_eq_true, beq_iff_eq, Bool.not_eq_true'] at hp
    obtain ⟨⟨⟨⟨hr, hbi⟩, hbj⟩, hpi⟩, hpj⟩ := hp
    have hsz : p.size = q.size ∧ n = p.size + 1 := by
      simp only [Plan.size] at hn
      by_cases he : p.size = q.size
      · simp [he] at hn; exact ⟨he, by omega⟩
      · simp [he] at hn; omega
    obtain ⟨he, rfl⟩ := hsz
    refine ⟨fun h0 => absurd (hr ▸ h0) (by simp), fun k hk => ?_⟩
    rw [hr] at hk
    simp only [List.mem_cons, List.not_mem_nil, or_false] at hk
    rcases hk with rfl | rfl
    · refine wpOp_mono (fun a' w' ⟨S', hS', hSS, h'⟩ => ?_) h.1
      rw [if_neg (by simp [hbi])]
      exact ⟨hSS _ hS', wpAnyB_mono hSS _ _ _ _ (wpSeg_sound3 hsel p _ S' a' w' _ rfl (by omega) hpi hS' h')⟩
    · refine wpOp_mono (fun a' w' ⟨S', hS', hSS, h'⟩ => ?_) h.2
      rw [if_neg (by simp [hbj])]
      exact ⟨hSS _ hS', wpAnyB_mono hSS _ _ _ _ (wpSeg_sound3 hsel q _ S' a' w' _ he.symm (by omega) hpj hS' h')⟩

/-- **A region that draws its order goes by a plan.** -/
theorem wp_region_plan3 (plan : Plan) {id : Nat} {l : List Oper} {a : Act} {w : World} (hm : P.follows .mixedOrders = true)
    (hp : (Region.noSelect l.toArray && planOk3 l.toArray (fun k => plan.bar k) plan (Array.replicate l.length false) && plan.size == l.length && decide (l.length < 1000000)) = true)
    (S : World → Prop) (hS : S w.drew) (h : wpSeg P l.toArray Q plan S a w.drew) : (Code.region id l.toArray true).wp P Q a w := by
  simp only [Bool.and_eq_true, beq_iff_eq, decide_eq_true_eq] at hp
  obtain ⟨⟨⟨h1, h2⟩, h3⟩, h4⟩ := hp
  have h5 := wpAny_of_B _ _ _ _ (wpSeg_sound3 (b := fun k => plan.bar k) h1 plan (Array.replicate l.length false) S a w.drew _ h3 h4 h2 hS h)
  exact wp_region_any hm (by simpa using h5)

theorem wp_region_planH3 {id : Nat} {l : List Oper} {a : Act} {w : World} (plan : Plan) (hm : P.follows .mixedOrders = true)
    (hp : (Region.noSelect l.toArray && planOk3 l.toArray (fun k => plan.bar k) plan (Array.replicate l.length false) && plan.size == l.length && decide (l.length < 1000000)) = true)
    (S : World → Prop) (hS : S w.drew) (h : ∀ ops, Hid (ops = l.toArray) → wpSeg P ops Q plan S a w.drew) : (Code.region id l.toArray true).wp P Q a w :=
  wp_region_plan3 plan hm hp S hS (h _ rfl)
theorem segH_fork {i j : Nat} {p q : Plan} {a : Act} {w : World} (dst : Option Tmp) (op : Op) (ty : TypeId) (pos : String) (after : Array Edge) (guard : Option (Nat × Bool)) (dst' : Option Tmp) (op' : Op) (ty' : TypeId) (pos' : String) (after' : Array Edge) (guard' : Option (Nat × Bool))
    (ho : ops[i]? = some ⟨dst, op, ty, pos, after, guard⟩) (ho' : ops[j]? = some ⟨dst', op', ty', pos', after', guard'⟩)
    (hw : Region.wanted ⟨dst, op, ty, pos, after, guard⟩ (yielded ops a.tmps) = true) (hw' : Region.wanted ⟨dst', op', ty', pos', after', guard'⟩ (yielded ops a.tmps) = true)
    (h : ∀ K : Act → World → Prop, (∀ (a' : Act) (w' : World) (S' : World → Prop), S' w' → (∀ x, S' x → S x) → wpSeg P ops Q p S' a' w' → K a' w') → Oper.wp P ⟨dst, op, ty, pos, after, guard⟩ a w K Q)
    (h' : ∀ K : Act → World → Prop, (∀ (a' : Act) (w' : World) (S' : World → Prop), S' w' → (∀ x, S' x → S x) → wpSeg P ops Q q S' a' w' → K a' w') → Oper.wp P ⟨dst', op', ty', pos', after', guard'⟩ a w K Q) :
    wpSeg P ops Q (.fork i p j q) S a w :=
  seg_fork _ _ ho ho' (fun K hK => by rw [if_pos hw]; exact h K hK) (fun K hK => by rw [if_pos hw']; exact h' K hK)
end
end Go.Proofs.YtdknkbpgkkakhaaDoor
