/- The plans with forks, walked cheaply. -/
import Derived.Test.YtdknkbpgkkakhaaPlanF
import Derived.Test.YtdknkbpgkkakhaaPlanT
namespace Go.Proofs.Ytdknkbpgkkakhaa
open Go.RowKit

section
variable {P : Program} {ops : Array Oper} {Q : Exit → Act → World → Prop} {S : World → Prop} {i : Nat} {p : PlanT} {a : Act} {w : World}
theorem segTH_pure (dst : Option Tmp) (op : Op) (ty : TypeId) (pos : String) (after : Array Edge) (guard : Option (Nat × Bool)) (ho : ops[i]? = some ⟨dst, op, ty, pos, after, guard⟩) (hk : readKind op = true) (hw : Region.wanted ⟨dst, op, ty, pos, after, guard⟩ (yielded ops a.tmps) = true)
    (hQ : ∀ v c a w, Q (.panic c) (a.put dst v) w → Q (.panic c) a w)
    (h : ∀ K : Act → Prop, (∀ a', wpSegT P ops Q p S a' w → K a') → Oper.quiet P ⟨dst, op, ty, pos, after, guard⟩ a (fun _ => True) K) : wpSegT P ops Q (.reads i p) S a w := by
  obtain ⟨v, h1, h2⟩ := h _ (fun _ h => h)
  refine ⟨_, v, ho, .inl ⟨hw, fun x _ => ?_⟩, hQ v, h2⟩
  have h3 := h1 x trivial
  unfold Oper.quietAt at h3
  cases hr : (execOp a.eval ⟨dst, op, ty, pos, after, guard⟩).run P x with
  | halt e w1 => rw [hr] at h3; simp [Oper.quietUpon] at h3
  | ok n w1 =>
    obtain ⟨u, rfl⟩ := readKind_run hk hr
    rw [hr] at h3
    simp only [Oper.quietUpon] at h3
    rw [h3.1, h3.2]
theorem segTH_load (dst : Option Tmp) (t : TypeId) (x : Operand) (ty : TypeId) (pos : String) (after : Array Edge) (guard : Option (Nat × Bool)) (ad : Addr) (v : Value) (ho : ops[i]? = some ⟨dst, .load t x, ty, pos, after, guard⟩) (hw : Region.wanted ⟨dst, .load t x, ty, pos, after, guard⟩ (yielded ops a.tmps) = true)
    (hx : a.eval x = .pointer (some ad)) (hQ : ∀ v c a w, Q (.panic c) (a.put dst v) w → Q (.panic c) a w)
    (hr : ∀ y, S y → (Instr.loadAt t (.pointer (some ad))).run P y = .ok v y) (h : wpSegT P ops Q p S (a.put dst v) w) : wpSegT P ops Q (.reads i p) S a w := by
  refine ⟨_, v, ho, .inl ⟨hw, fun y hy => ?_⟩, hQ v, h⟩
  have := hr y hy
  simp only [execOp, hx, Sem.run_bind, this, Result.andThen_ok, Sem.run_pure]
theorem segTH_nil (dst : Option Tmp) (x : Operand) (ty : TypeId) (pos : String) (after : Array Edge) (guard : Option (Nat × Bool)) (ad : Addr) (ho : ops[i]? = some ⟨dst, .nilCheck x, ty, pos, after, guard⟩) (hw : Region.wanted ⟨dst, .nilCheck x, ty, pos, after, guard⟩ (yielded ops a.tmps) = true)
    (hx : a.eval x = .pointer (some ad)) (hQ : ∀ v c a w, Q (.panic c) (a.put dst v) w → Q (.panic c) a w)
    (h : wpSegT P ops Q p S (a.put dst (.pointer (some ad))) w) : wpSegT P ops Q (.reads i p) S a w := by
  refine ⟨_, .pointer (some ad), ho, .inl ⟨hw, fun y hy => ?_⟩, hQ _, h⟩
  simp only [execOp, hx, Sem.run_pure]
theorem segTH_pass (dst : Option Tmp) (op : Op) (ty : TypeId) (pos : String) (after : Array Edge) (guard : Option (Nat × Bool)) (ho : ops[i]? = some ⟨dst, op, ty, pos, after, guard⟩) (hw : Region.wanted ⟨dst, op, ty, pos, after, guard⟩ (yielded ops a.tmps) = false)
    (hQ : ∀ v c a w, Q (.panic c) (a.put dst v) w → Q (.panic c) a w) (h : wpSegT P ops Q p S (a.put dst undef) w) : wpSegT P ops Q (.reads i p) S a w :=
  ⟨_, undef, ho, .inr ⟨hw, rfl⟩, hQ undef, h⟩
theorem segTH_makes (dst : Option Tmp) (op : Op) (ty : TypeId) (pos : String) (after : Array Edge) (guard : Option (Nat × Bool)) (ho : ops[i]? = some ⟨dst, op, ty, pos, after, guard⟩) (hw : Region.wanted ⟨dst, op, ty, pos, after, guard⟩ (yielded ops a.tmps) = true)
    (h : ∀ K : Act → World → Prop, (∀ (a' : Act) (w' : World) (S' : World → Prop), S' w' → (∀ x, S' x → S x) → wpSegT P ops Q p S' a' w' → K a' w') → Oper.wp P ⟨dst, op, ty, pos, after, guard⟩ a w K Q) :
    wpSegT P ops Q (.makes i p) S a w := segT_makes _ ho fun K hK => by rw [if_pos hw]; exact h K hK
theorem segTH_makes_pass (dst : Option Tmp) (op : Op) (ty : TypeId) (pos : String) (after : Array Edge) (guard : Option (Nat × Bool)) (ho : ops[i]? = some ⟨dst, op, ty, pos, after, guard⟩) (hw : Region.wanted ⟨dst, op, ty, pos, after, guard⟩ (yielded ops a.tmps) = false)
    (hS : S w) (h : wpSegT P ops Q p S (a.put dst undef) w) :
    wpSegT P ops Q (.makes i p) S a w := segT_makes _ ho fun K hK => by rw [if_neg (by rw [hw]; exact Bool.false_ne_true)]; exact hK _ _ S hS (fun _ h => h) h
theorem segTH_turns (dst : Option Tmp) (op : Op) (ty : TypeId) (pos : String) (after : Array Edge) (guard : Option (Nat × Bool)) (ho : ops[i]? = some ⟨dst, op, ty, pos, after, guard⟩) (hw : Region.wanted ⟨dst, op, ty, pos, after, guard⟩ (yielded ops a.tmps) = true)
    (h : ∀ K : Act → World → Prop, (∀ (a' : Act) (w' : World) (S' : World → Prop), S' w' → wpSegT P ops Q p S' a' w' → K a' w') → Oper.wp P ⟨dst, op, ty, pos, after, guard⟩ a w K Q) :
    wpSegT P ops Q (.turns i p) S a w := segT_turns _ ho fun K hK => by rw [if_pos hw]; exact h K hK
theorem segTH_fork {j : Nat} {q : PlanT} (dst : Option Tmp) (op : Op) (ty : TypeId) (pos : String) (after : Array Edge) (guard : Option (Nat × Bool)) (dst' : Option Tmp) (op' : Op) (ty' : TypeId) (pos' : String) (after' : Array Edge) (guard' : Option (Nat × Bool))
    (ho : ops[i]? = some ⟨dst, op, ty, pos, after, guard⟩) (ho' : ops[j]? = some ⟨dst', op', ty', pos', after', guard'⟩)
    (hw : Region.wanted ⟨dst, op, ty, pos, after, guard⟩ (yielded ops a.tmps) = true) (hw' : Region.wanted ⟨dst', op', ty', pos', after', guard'⟩ (yielded ops a.tmps) = true)
    (h : ∀ K : Act → World → Prop, (∀ (a' : Act) (w' : World) (S' : World → Prop), S' w' → (∀ x, S' x → S x) → wpSegT P ops Q p S' a' w' → K a' w') → Oper.wp P ⟨dst, op, ty, pos, after, guard⟩ a w K Q)
    (h' : ∀ K : Act → World → Prop, (∀ (a' : Act) (w' : World) (S' : World → Prop), S' w' → (∀ x, S' x → S x) → wpSegT P ops Q q S' a' w' → K a' w') → Oper.wp P ⟨dst', op', ty', pos', after', guard'⟩ a w K Q) :
    wpSegT P ops Q (.fork i p j q) S a w :=
  segT_fork _ _ ho ho' (fun K hK => by rw [if_pos hw]; exact h K hK) (fun K hK => by rw [if_pos hw']; exact h' K hK)
theorem segTH_fork3 {j k : Nat} {q r : PlanT} (dst : Option Tmp) (op : Op) (ty : TypeId) (pos : String) (after : Array Edge) (guard : Option (Nat × Bool)) (dst' : Option Tmp) (op' : Op) (ty' : TypeId) (pos' : String) (after' : Array Edge) (guard' : Option (Nat × Bool))
    (dst2 : Option Tmp) (op2 : Op) (ty2 : TypeId) (pos2 : String) (after2 : Array Edge) (guard2 : Option (Nat × Bool))
    (ho : ops[i]? = some ⟨dst, op, ty, pos, after, guard⟩) (ho' : ops[j]? = some ⟨dst', op', ty', pos', after', guard'⟩) (ho2 : ops[k]? = some ⟨dst2, op2, ty2, pos2, after2, guard2⟩)
    (hw : Region.wanted ⟨dst, op, ty, pos, after, guard⟩ (yielded ops a.tmps) = true) (hw' : Region.wanted ⟨dst', op', ty', pos', after', guard'⟩ (yielded ops a.tmps) = true) (hw2 : Region.wanted ⟨dst2, op2, ty2, pos2, after2, guard2⟩ (yielded ops a.tmps) = true)
    (h : ∀ K : Act → World → Prop, (∀ (a' : Act) (w' : World) (S' : World → Prop), S' w' → (∀ x, S' x → S x) → wpSegT P ops Q p S' a' w' → K a' w') → Oper.wp P ⟨dst, op, ty, pos, after, guard⟩ a w K Q)
    (h' : ∀ K : Act → World → Prop, (∀ (a' : Act) (w' : World) (S' : World → Prop), S' w' → (∀ x, S' x → S x) → wpSegT P ops Q q S' a' w' → K a' w') → Oper.wp P ⟨dst', op', ty', pos', after', guard'⟩ a w K Q)
    (h2 : ∀ K : Act → World → Prop, (∀ (a' : Act) (w' : World) (S' : World → Prop), S' w' → (∀ x, S' x → S x) → wpSegT P ops Q r S' a' w' → K a' w') → Oper.wp P ⟨dst2, op2, ty2, pos2, after2, guard2⟩ a w K Q) :
    wpSegT P ops Q (.fork3 i p j q k r) S a w :=
  segT_fork3 _ _ _ ho ho' ho2 (fun K hK => by rw [if_pos hw]; exact h K hK) (fun K hK => by rw [if_pos hw']; exact h' K hK) (fun K hK => by rw [if_pos hw2]; exact h2 K hK)
end

/-- A region by a plan, its operations behind a name. -/
theorem wp_region_planTH {P : Program} {Q : Exit → Act → World → Prop} (plan : PlanT) {id : Nat} {l : List Oper} {a : Act} {w : World} (hm : P.follows .mixedOrders = true)
    (hp : (Region.noSelect l.toArray && planOkT l.toArray (fun k => plan.bar k) plan (Array.replicate l.length false) && plan.size == l.length && decide (l.length < 1000000)) = true)
    (S : World → Prop) (hS : S w.drew) (h : ∀ ops, Hid (ops = l.toArray) → wpSegT P ops Q plan S a w.drew) : (Code.region id l.toArray true).wp P Q a w :=
  wp_region_planT plan hm hp S hS (h _ rfl)
end Go.Proofs.Ytdknkbpgkkakhaa
