/- The plans of the text Plan, with a place where three operations may come up. -/
import Derived.Test.YtdknkbpgkkakhaaPlan
namespace Go.Proofs.Ytdknkbpgkkakhaa
open Go.RowKit

section
variable {P : Program} {ops : Array Oper} {Q : Exit → Act → World → Prop} {S : World → Prop} {b : Nat → Bool}

/-- A plan: an operation that only reads is taken as soon as it may come up; one that makes memory is the only one that may come up; one that turns memory is the only one, and all others ahead of it wait for nothing more; two that make memory may come up in either order. -/
inductive PlanT where
  | done
  | reads (i : Nat) (p : PlanT)
  | makes (i : Nat) (p : PlanT)
  | turns (i : Nat) (p : PlanT)
  | fork (i : Nat) (p : PlanT) (j : Nat) (q : PlanT)
  | fork3 (i : Nat) (p : PlanT) (j : Nat) (q : PlanT) (k : Nat) (r : PlanT)

/-- The walk along a plan. -/
def wpSegT (P : Program) (ops : Array Oper) (Q : Exit → Act → World → Prop) : PlanT → (World → Prop) → Act → World → Prop
  | .done, _, a, w => Q .normal a w
  | .reads i p, S, a, w => ∃ o v, ops[i]? = some o ∧ YieldsIf P ops S o v a ∧ (∀ c a w, Q (.panic c) (a.put o.dst v) w → Q (.panic c) a w) ∧ wpSegT P ops Q p S (a.put o.dst v) w
  | .makes i p, S, a, w => wpOp P ops Q i (fun a' w' => ∃ S' : World → Prop, S' w' ∧ (∀ x, S' x → S x) ∧ wpSegT P ops Q p S' a' w') a w
  | .turns i p, _, a, w => wpOp P ops Q i (fun a' w' => ∃ S' : World → Prop, S' w' ∧ wpSegT P ops Q p S' a' w') a w
  | .fork i p j q, S, a, w => wpOp P ops Q i (fun a' w' => ∃ S' : World → Prop, S' w' ∧ (∀ x, S' x → S x) ∧ wpSegT P ops Q p S' a' w') a w ∧
      wpOp P ops Q j (fun a' w' => ∃ S' : World → Prop, S' w' ∧ (∀ x, S' x → S x) ∧ wpSegT P ops Q q S' a' w') a w
  | .fork3 i p j q k r, S, a, w => wpOp P ops Q i (fun a' w' => ∃ S' : World → Prop, S' w' ∧ (∀ x, S' x → S x) ∧ wpSegT P ops Q p S' a' w') a w ∧
      wpOp P ops Q j (fun a' w' => ∃ S' : World → Prop, S' w' ∧ (∀ x, S' x → S x) ∧ wpSegT P ops Q q S' a' w') a w ∧
      wpOp P ops Q k (fun a' w' => ∃ S' : World → Prop, S' w' ∧ (∀ x, S' x → S x) ∧ wpSegT P ops Q r S' a' w') a w

def PlanT.bar (k : Nat) : PlanT → Bool
  | .done => false
  | .reads _ p => p.bar k
  | .makes _ p => p.bar k
  | .turns i p => i == k || p.bar k
  | .fork _ p _ q => p.bar k || q.bar k
  | .fork3 _ p _ q _ r => p.bar k || q.bar k || r.bar k

def planOkT (ops : Array Oper) (b : Nat → Bool) : PlanT → Array Bool → Bool
  | .done, listed => (Region.ready .any ops listed).isEmpty
  | .reads i p, listed => firstOk ops b listed i && planOkT ops b p (listed.setIfInBounds i true)
  | .makes i p, listed => (Region.ready .any ops listed == [i]) && !b i && planOkT ops b p (listed.setIfInBounds i true)
  | .turns i p, listed => (Region.ready .any ops listed == [i]) && b i && planOkT ops b p (listed.setIfInBounds i true)
  | .fork i p j q, listed => (Region.ready .any ops listed == [i, j]) && !b i && !b j && planOkT ops b p (listed.setIfInBounds i true) && planOkT ops b q (listed.setIfInBounds j true)
  | .fork3 i p j q k r, listed => (Region.ready .any ops listed == [i, j, k]) && (!b i && !b j && !b k) && planOkT ops b p (listed.setIfInBounds i true) && planOkT ops b q (listed.setIfInBounds j true) && planOkT ops b r (listed.setIfInBounds k true)

def PlanT.size : PlanT → Nat
  | .done => 0
  | .reads _ p | .makes _ p | .turns _ p => p.size + 1
  | .fork _ p _ q => (if p.size == q.size then p.size else 1000000) + 1
  | .fork3 _ p _ q _ r => (if p.size == q.size && p.size == r.size then p.size else 1000000) + 1

theorem wpSegT_sound (hsel : Region.noSelect ops = true) : ∀ (plan : PlanT) (listed : Array Bool) (S : World → Prop) (a : Act) (w : World) (n : Nat), plan.size = n → n < 1000000 →
    planOkT ops b plan listed = true → S w → wpSegT P ops Q plan S a w → wpAnyB P ops Q S b n listed a w
  | .done, listed, S, a, w, n, hn, _, hp, hS, h => by
    subst hn
    simp only [planOkT, List.isEmpty_iff] at hp
    exact ⟨hp, h⟩
  | .reads i p, listed, S, a, w, n, hn, hlt, hp, hS, h => by
    obtain ⟨o, v, ho, hy, hQ, h⟩ := h
    simp only [planOkT, Bool.and_eq_true] at hp
    obtain ⟨h1, h2, h3, h4⟩ := firstOk_spec ho hp.1
    subst hn
    exact wpAnyB_first ho (Region.noSelect_spec hsel) hQ h2 p.size listed a w h3 h4 h1 hy hS (wpSegT_sound hsel p _ S _ w _ rfl (by simp only [PlanT.size] at hlt; omega) hp.2 hS h)
  | .makes i p, listed, S, a, w, n, hn, hlt, hp, hS, h => by
    simp only [planOkT, Bool.and_eq_true, beq_iff_eq, Bool.not_eq_true'] at hp
    subst hn
    refine wpAnyB_only hp.1.1 (wpOp_mono (fun a' w' ⟨S', hS', hSS, h'⟩ => ?_) h)
    rw [if_neg (by simp [hp.1.2])]
    exact ⟨hSS _ hS', wpAnyB_mono hSS _ _ _ _ (wpSegT_sound hsel p _ S' a' w' _ rfl (by simp only [PlanT.size] at hlt; omega) hp.2 hS' h')⟩
  | .turns i p, listed, S, a, w, n, hn, hlt, hp, hS, h => by
    simp only [planOkT, Bool.and_eq_true, beq_iff_eq] at hp
    subst hn
    refine wpAnyB_only hp.1.1 (wpOp_mono (fun a' w' ⟨S', hS', h'⟩ => ?_) h)
    rw [if_pos hp.1.2]
    exact wpAny_of_B _ _ _ _ (wpSegT_sound hsel p _ S' a' w' _ rfl (by simp only [PlanT.size] at hlt; omega) hp.2 hS' h')
  | .fork i p j q, listed, S, a, w, n, hn, hlt, hp, hS, h => by
    simp only [planOkT, Bool.and_eq_true, beq_iff_eq, Bool.not_eq_true'] at hp
    obtain ⟨⟨⟨⟨hr, hbi⟩, hbj⟩, hpi⟩, hpj⟩ := hp
    have hsz : p.size = q.size ∧ n = p.size + 1 := by
      simp only [PlanT.size] at hn
      by_cases he : p.size = q.size
      · simp [he] at hn; exact ⟨he, by omega⟩
      · simp [he] at hn; omega
    obtain ⟨he, rfl⟩ := hsz
    refine ⟨fun h0 => absurd (hr ▸ h0) (by simp), fun k hk => ?_⟩
    rw [hr] at hk
    simp only [List.mem_cons, List.not_mem_nil, or_false] at hk
    rcases hk with rfl | rfl
    · refine wpOp_mono (fun a' w' ⟨S', hS', hSS, h'⟩ => ?_) h.1
      rw [if_neg (by simp [hbi])]
      exact ⟨hSS _ hS', wpAnyB_mono hSS _ _ _ _ (wpSegT_sound hsel p _ S' a' w' _ rfl (by omega) hpi hS' h')⟩
    · refine wpOp_mono (fun a' w' ⟨S', hS', hSS, h'⟩ => ?_) h.2
      rw [if_neg (by simp [hbj])]
      exact ⟨hSS _ hS', wpAnyB_mono hSS _ _ _ _ (wpSegT_sound hsel q _ S' a' w' _ he.symm (by omega) hpj hS' h')⟩

  | .fork3 i p j q k r, listed, S, a, w, n, hn, hlt, hp, hS, h => by
    simp only [planOkT, Bool.and_eq_true, beq_iff_eq, Bool.not_eq_true'] at hp
    obtain ⟨⟨⟨⟨hr, hb⟩, hpi⟩, hpj⟩, hpk⟩ := hp
    have hsz : p.size = q.size ∧ p.size = r.size ∧ n = p.size + 1 := by
      simp only [PlanT.size] at hn
      by_cases he : (p.size == q.size && p.size == r.size) = true
      · rw [if_pos he] at hn
        simp only [Bool.and_eq_true, beq_iff_eq] at he
        exact ⟨he.1, he.2, by omega⟩
      · rw [if_neg he] at hn; omega
    obtain ⟨he, he', rfl⟩ := hsz
    refine ⟨fun h0 => absurd (hr ▸ h0) (by simp), fun m hm => ?_⟩
    rw [hr] at hm
    simp only [List.mem_cons, List.not_mem_nil, or_false] at hm
    rcases hm with rfl | rfl | rfl
    · refine wpOp_mono (fun a' w' ⟨S', hS', hSS, h'⟩ => ?_) h.1
      rw [if_neg (by simp [hb.1.1])]
      exact ⟨hSS _ hS', wpAnyB_mono hSS _ _ _ _ (wpSegT_sound hsel p _ S' a' w' _ rfl (by omega) hpi hS' h')⟩
    · refine wpOp_mono (fun a' w' ⟨S', hS', hSS, h'⟩ => ?_) h.2.1
      rw [if_neg (by simp [hb.1.2])]
      exact ⟨hSS _ hS', wpAnyB_mono hSS _ _ _ _ (wpSegT_sound hsel q _ S' a' w' _ he.symm (by omega) hpj hS' h')⟩
    · refine wpOp_mono (fun a' w' ⟨S', hS', hSS, h'⟩ => ?_) h.2.2
      rw [if_neg (by simp [hb.2])]
      exact ⟨hSS _ hS', wpAnyB_mono hSS _ _ _ _ (wpSegT_sound hsel r _ S' a' w' _ he'.symm (by omega) hpk hS' h')⟩

/-- **A region that draws its order goes by a plan.** -/
theorem wp_region_planT (plan : PlanT) {id : Nat} {l : List Oper} {a : Act} {w : World} (hm : P.follows .mixedOrders = true)
    (hp : (Region.noSelect l.toArray && planOkT l.toArray (fun k => plan.bar k) plan (Array.replicate l.length false) && plan.size == l.length && decide (l.length < 1000000)) = true)
    (S : World → Prop) (hS : S w.drew) (h : wpSegT P l.toArray Q plan S a w.drew) : (Code.region id l.toArray true).wp P Q a w := by
  simp only [Bool.and_eq_true, beq_iff_eq, decide_eq_true_eq] at hp
  obtain ⟨⟨⟨h1, h2⟩, h3⟩, h4⟩ := hp
  have h5 := wpAny_of_B _ _ _ _ (wpSegT_sound (b := fun k => plan.bar k) h1 plan (Array.replicate l.length false) S a w.drew _ h3 h4 h2 hS h)
  exact wp_region_any hm (by simpa using h5)

section
variable {i : Nat} {p : PlanT} {a : Act} {w : World}
theorem segT_done (h : Q .normal a w) : wpSegT P ops Q .done S a w := h
theorem segT_take (o : Oper) (v : Value) (ho : ops[i]? = some o) (hw : Region.wanted o (yielded ops a.tmps) = true)
    (hy : ∀ x, S x → (execOp a.eval o).run P x = .ok (.value v) x) (hQ : ∀ c a w, Q (.panic c) (a.put o.dst v) w → Q (.panic c) a w) (h : wpSegT P ops Q p S (a.put o.dst v) w) : wpSegT P ops Q (.reads i p) S a w :=
  ⟨o, v, ho, .inl ⟨hw, hy⟩, hQ, h⟩
theorem segT_pass (o : Oper) (ho : ops[i]? = some o) (hw : Region.wanted o (yielded ops a.tmps) = false)
    (hQ : ∀ c a w, Q (.panic c) (a.put o.dst undef) w → Q (.panic c) a w) (h : wpSegT P ops Q p S (a.put o.dst undef) w) : wpSegT P ops Q (.reads i p) S a w :=
  ⟨o, undef, ho, .inr ⟨hw, rfl⟩, hQ, h⟩
theorem segT_take0 (o : Oper) (v : Value) (ho : ops[i]? = some o) (hg : o.guard = none)
    (hy : ∀ x, S x → (execOp a.eval o).run P x = .ok (.value v) x) (hQ : ∀ c a w, Q (.panic c) (a.put o.dst v) w → Q (.panic c) a w) (h : wpSegT P ops Q p S (a.put o.dst v) w) : wpSegT P ops Q (.reads i p) S a w :=
  segT_take o v ho (by simp [Region.wanted, hg]) hy hQ h
theorem segT_take1 {j : Nat} {c : Bool} (o : Oper) (v : Value) (ho : ops[i]? = some o) (hg : o.guard = some (j, c)) (hw : yielded ops a.tmps j = some c)
    (hy : ∀ x, S x → (execOp a.eval o).run P x = .ok (.value v) x) (hQ : ∀ c a w, Q (.panic c) (a.put o.dst v) w → Q (.panic c) a w) (h : wpSegT P ops Q p S (a.put o.dst v) w) : wpSegT P ops Q (.reads i p) S a w :=
  segT_take o v ho (by simp [Region.wanted, hg, hw]) hy hQ h
theorem segT_pass1 {j : Nat} {c : Bool} {d : Option Bool} (o : Oper) (ho : ops[i]? = some o) (hg : o.guard = some (j, c)) (hw : yielded ops a.tmps j = d) (hc : (d == some c) = false)
    (hQ : ∀ c a w, Q (.panic c) (a.put o.dst undef) w → Q (.panic c) a w) (h : wpSegT P ops Q p S (a.put o.dst undef) w) : wpSegT P ops Q (.reads i p) S a w :=
  segT_pass o ho (by simp only [Region.wanted, hg, hw]; exact hc) hQ h
theorem segT_makes (o : Oper) (ho : ops[i]? = some o)
    (h : ∀ K : Act → World → Prop, (∀ (a' : Act) (w' : World) (S' : World → Prop), S' w' → (∀ x, S' x → S x) → wpSegT P ops Q p S' a' w' → K a' w') → if Region.wanted o (yielded ops a.tmps) = true then Oper.wp P o a w K Q else K (a.put o.dst undef) w) :
    wpSegT P ops Q (.makes i p) S a w := wpOp_step ho fun K hK => h K fun a' w' S' h1 h2 h3 => hK a' w' ⟨S', h1, h2, h3⟩
theorem segT_turns (o : Oper) (ho : ops[i]? = some o)
    (h : ∀ K : Act → World → Prop, (∀ (a' : Act) (w' : World) (S' : World → Prop), S' w' → wpSegT P ops Q p S' a' w' → K a' w') → if Region.wanted o (yielded ops a.tmps) = true then Oper.wp P o a w K Q else K (a.put o.dst undef) w) :
    wpSegT P ops Q (.turns i p) S a w := wpOp_step ho fun K hK => h K fun a' w' S' h1 h2 => hK a' w' ⟨S', h1, h2⟩
theorem segT_fork {j : Nat} {q : PlanT} (o o' : Oper) (ho : ops[i]? = some o) (ho' : ops[j]? = some o')
    (h : ∀ K : Act → World → Prop, (∀ (a' : Act) (w' : World) (S' : World → Prop), S' w' → (∀ x, S' x → S x) → wpSegT P ops Q p S' a' w' → K a' w') → if Region.wanted o (yielded ops a.tmps) = true then Oper.wp P o a w K Q else K (a.put o.dst undef) w)
    (h' : ∀ K : Act → World → Prop, (∀ (a' : Act) (w' : World) (S' : World → Prop), S' w' → (∀ x, S' x → S x) → wpSegT P ops Q q S' a' w' → K a' w') → if Region.wanted o' (yielded ops a.tmps) = true then Oper.wp P o' a w K Q else K (a.put o'.dst undef) w) :
    wpSegT P ops Q (.fork i p j q) S a w :=
  ⟨wpOp_step ho fun K hK => h K fun a' w' S' h1 h2 h3 => hK a' w' ⟨S', h1, h2, h3⟩, wpOp_step ho' fun K hK => h' K fun a' w' S' h1 h2 h3 => hK a' w' ⟨S', h1, h2, h3⟩⟩
theorem segT_fork3 {j k : Nat} {q r : PlanT} (o o' o2 : Oper) (ho : ops[i]? = some o) (ho' : ops[j]? = some o') (ho2 : ops[k]? = some o2)
    (h : ∀ K : Act → World → Prop, (∀ (a' : Act) (w' : World) (S' : World → Prop), S' w' → (∀ x, S' x → S x) → wpSegT P ops Q p S' a' w' → K a' w') → if Region.wanted o (yielded ops a.tmps) = true then Oper.wp P o a w K Q else K (a.put o.dst undef) w)
    (h' : ∀ K : Act → World → Prop, (∀ (a' : Act) (w' : World) (S' : World → Prop), S' w' → (∀ x, S' x → S x) → wpSegT P ops Q q S' a' w' → K a' w') → if Region.wanted o' (yielded ops a.tmps) = true then Oper.wp P o' a w K Q else K (a.put o'.dst undef) w)
    (h2 : ∀ K : Act → World → Prop, (∀ (a' : Act) (w' : World) (S' : World → Prop), S' w' → (∀ x, S' x → S x) → wpSegT P ops Q r S' a' w' → K a' w') → if Region.wanted o2 (yielded ops a.tmps) = true then Oper.wp P o2 a w K Q else K (a.put o2.dst undef) w) :
    wpSegT P ops Q (.fork3 i p j q k r) S a w :=
  ⟨wpOp_step ho fun K hK => h K fun a' w' S' h1 h2 h3 => hK a' w' ⟨S', h1, h2, h3⟩, wpOp_step ho' fun K hK => h' K fun a' w' S' h1 h2 h3 => hK a' w' ⟨S', h1, h2, h3⟩,
    wpOp_step ho2 fun K hK => h2 K fun a' w' S' h1 h2 h3 => hK a' w' ⟨S', h1, h2, h3⟩⟩
end
end
end Go.Proofs.Ytdknkbpgkkakhaa
