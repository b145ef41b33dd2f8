/- The walk along a plan, cheaper: the region's operations behind a name; each operation that only reads by itself. -/
import Derived.Test.YtdknkbpgkkakhaaDoorPlan
namespace Go.Proofs.YtdknkbpgkkakhaaDoor
open Go.RowKit

/-- Operations that hand back a value, whatever the operands. -/
def readKind : Op → Bool
  | .move _ | .assign _ | .pick .. | .build .. | .load .. | .binOp .. | .unOp .. | .convert .. | .fieldAddr .. | .field .. | .indexAddr .. | .index .. | .lookup .. | .extract .. | .slice .. | .makeInterface .. => true
  | .call { callee := .builtin .len, .. } => true
  | .call { callee := .builtin .cap, .. } => true
  | .call { callee := .builtin .max, .. } => true
  | .call { callee := .builtin .min, .. } => true
  | _ => false

theorem value_run {P : Program} {s : Sem Value} {x : World} {n : Next} {x' : World} (h : (do pure (Next.value (← s)) : Sem Next).run P x = .ok n x') : ∃ u, n = .value u := by
  simp only [Sem.run_bind] at h
  cases hs : s.run P x with
  | ok u w1 => rw [hs] at h; simp [Result.andThen] at h; exact ⟨u, h.1.symm⟩
  | halt e w1 => rw [hs] at h; simp [Result.andThen] at h

theorem readKind_run {P : Program} {ρ : Operand → Value} {dst : Option Tmp} {op : Op} {ty : TypeId} {pos : String} {after : Array Edge} {guard : Option (Nat × Bool)} (hk : readKind op = true) {x : World} {n : Next} {x' : World}
    (h : (execOp ρ ⟨dst, op, ty, pos, after, guard⟩).run P x = .ok n x') : ∃ u, n = .value u := by
  unfold readKind at hk
  split at hk
  case h_1 => simp [execOp] at h; exact ⟨_, h.1.symm⟩
  case h_2 => simp [execOp] at h; exact ⟨_, h.1.symm⟩
  case h_3 c a b =>
    have h' : (do pure (Next.value (if ← asBool (ρ c) then ρ a else ρ b)) : Sem Next).run P x = .ok n x' := h
    simp only [Sem.run_bind] at h'
    cases hs : (asBool (ρ c)).run P x with
    | ok u w1 => rw [hs] at h'; simp [Result.andThen] at h'; exact ⟨_, h'.1.symm⟩
    | halt e w1 => rw [hs] at h'; simp [Result.andThen] at h'
  all_goals first
    | exact value_run h
    | exact value_run (s := Builtin.len_ _ _ _) h
    | exact value_run (s := Builtin.cap_ _ _ _) h
    | exact value_run (s := Builtin.max_ _ _ _) h
    | exact value_run (s := Builtin.min_ _ _ _) h
    | exact absurd hk Bool.false_ne_true

section
variable {P : Program} {ops : Array Oper} {Q : Exit → Act → World → Prop} {S : World → Prop} {i : Nat} {p : Plan} {a : Act} {w : World}
theorem segH_pure (dst : Option Tmp) (op : Op) (ty : TypeId) (pos : String) (after : Array Edge) (guard : Option (Nat × Bool)) (ho : ops[i]? = some ⟨dst, op, ty, pos, after, guard⟩) (hk : readKind op = true) (hw : Region.wanted ⟨dst, op, ty, pos, after, guard⟩ (yielded ops a.tmps) = true)
    (hQ : ∀ v c a w, Q (.panic c) (a.put dst v) w → Q (.panic c) a w)
    (h : ∀ K : Act → Prop, (∀ a', wpSeg P ops Q p S a' w → K a') → Oper.quiet P ⟨dst, op, ty, pos, after, guard⟩ a (fun _ => True) K) : wpSeg P ops Q (.reads i p) S a w := by
  obtain ⟨v, h1, h2⟩ := h _ (fun _ h => h)
  refine ⟨_, v, ho, .inl ⟨hw, fun x _ => ?_⟩, hQ v, h2⟩
  have h3 := h1 x trivial
  unfold Oper.quietAt at h3
  cases hr : (execOp a.eval ⟨dst, op, ty, pos, after, guard⟩).run P x with
  | halt e w1 => rw [hr] at h3; simp [Oper.quietUpon] at h3
  | ok n w1 =>
    obtain ⟨u, rfl⟩ := readKind_run hk hr
    rw [hr] at h3
    simp only [Oper.quietUpon] at h3
    rw [h3.1, h3.2]
theorem segH_load (dst : Option Tmp) (t : TypeId) (x : Operand) (ty : TypeId) (pos : String) (after : Array Edge) (guard : Option (Nat × Bool)) (ad : Addr) (v : Value) (ho : ops[i]? = some ⟨dst, .load t x, ty, pos, after, guard⟩) (hw : Region.wanted ⟨dst, .load t x, ty, pos, after, guard⟩ (yielded ops a.tmps) = true)
    (hx : a.eval x = .pointer (some ad)) (hQ : ∀ v c a w, Q (.panic c) (a.put dst v) w → Q (.panic c) a w)
    (hr : ∀ y, S y → (Instr.loadAt t (.pointer (some ad))).run P y = .ok v y) (h : wpSeg P ops Q p S (a.put dst v) w) : wpSeg P ops Q (.reads i p) S a w := by
  refine ⟨_, v, ho, .inl ⟨hw, fun y hy => ?_⟩, hQ v, h⟩
  have := hr y hy
  simp only [execOp, hx, Sem.run_bind, this, Result.andThen_ok, Sem.run_pure]
theorem segH_nil (dst : Option Tmp) (x : Operand) (ty : TypeId) (pos : String) (after : Array Edge) (guard : Option (Nat × Bool)) (ad : Addr) (ho : ops[i]? = some ⟨dst, .nilCheck x, ty, pos, after, guard⟩) (hw : Region.wanted ⟨dst, .nilCheck x, ty, pos, after, guard⟩ (yielded ops a.tmps) = true)
    (hx : a.eval x = .pointer (some ad)) (hQ : ∀ v c a w, Q (.panic c) (a.put dst v) w → Q (.panic c) a w)
    (h : wpSeg P ops Q p S (a.put dst (.pointer (some ad))) w) : wpSeg P ops Q (.reads i p) S a w := by
  refine ⟨_, .pointer (some ad), ho, .inl ⟨hw, fun y hy => ?_⟩, hQ _, h⟩
  simp only [execOp, hx, Sem.run_pure]
theorem segH_pass (dst : Option Tmp) (op : Op) (ty : TypeId) (pos : String) (after : Array Edge) (guard : Option (Nat × Bool)) (ho : ops[i]? = some ⟨dst, op, ty, pos, after, guard⟩) (hw : Region.wanted ⟨dst, op, ty, pos, after, guard⟩ (yielded ops a.tmps) = false)
    (hQ : ∀ v c a w, Q (.panic c) (a.put dst v) w → Q (.panic c) a w) (h : wpSeg P ops Q p S (a.put dst undef) w) : wpSeg P ops Q (.reads i p) S a w :=
  ⟨_, undef, ho, .inr ⟨hw, rfl⟩, hQ undef, h⟩
theorem segH_makes (dst : Option Tmp) (op : Op) (ty : TypeId) (pos : String) (after : Array Edge) (guard : Option (Nat × Bool)) (ho : ops[i]? = some ⟨dst, op, ty, pos, after, guard⟩) (hw : Region.wanted ⟨dst, op, ty, pos, after, guard⟩ (yielded ops a.tmps) = true)
    (h : ∀ K : Act → World → Prop, (∀ (a' : Act) (w' : World) (S' : World → Prop), S' w' → (∀ x, S' x → S x) → wpSeg P ops Q p S' a' w' → K a' w') → Oper.wp P ⟨dst, op, ty, pos, after, guard⟩ a w K Q) :
    wpSeg P ops Q (.makes i p) S a w := seg_makes _ ho fun K hK => by rw [if_pos hw]; exact h K hK
theorem segH_makes_pass (dst : Option Tmp) (op : Op) (ty : TypeId) (pos : String) (after : Array Edge) (guard : Option (Nat × Bool)) (ho : ops[i]? = some ⟨dst, op, ty, pos, after, guard⟩) (hw : Region.wanted ⟨dst, op, ty, pos, after, guard⟩ (yielded ops a.tmps) = false)
    (hS : S w) (h : wpSeg P ops Q p S (a.put dst undef) w) :
    wpSeg P ops Q (.makes i p) S a w := seg_makes _ ho fun K hK => by rw [if_neg (by rw [hw]; exact Bool.false_ne_true)]; exact hK _ _ S hS (fun _ h => h) h
theorem segH_turns (dst : Option Tmp) (op : Op) (ty : TypeId) (pos : String) (after : Array Edge) (guard : Option (Nat × Bool)) (ho : ops[i]? = some ⟨dst, op, ty, pos, after, guard⟩) (hw : Region.wanted ⟨dst, op, ty, pos, after, guard⟩ (yielded ops a.tmps) = true)
    (h : ∀ K : Act → World → Prop, (∀ (a' : Act) (w' : World) (S' : World → Prop), S' w' → wpSeg P ops Q p S' a' w' → K a' w') → Oper.wp P ⟨dst, op, ty, pos, after, guard⟩ a w K Q) :
    wpSeg P ops Q (.turns i p) S a w := seg_turns _ ho fun K hK => by rw [if_pos hw]; exact h K hK
theorem wanted_none {dst : Option Tmp} {op : Op} {ty : TypeId} {pos : String} {after : Array Edge} {f : Nat → Option Bool} : Region.wanted ⟨dst, op, ty, pos, after, none⟩ f = true := rfl
theorem wanted_some {dst : Option Tmp} {op : Op} {ty : TypeId} {pos : String} {after : Array Edge} {j : Nat} {c : Bool} {ops : Array Oper} {tmps : Array Value} {oj : Oper} {d : Nat} {b r : Bool} (hj : ops[j]? = some oj) (hd : oj.dst = some d) (hv : tmps[d]? = some (.bool b)) (hr : (b == c) = r) :
    Region.wanted ⟨dst, op, ty, pos, after, some (j, c)⟩ (yielded ops tmps) = r := by
  have : yielded ops tmps j = some b := by simp [yielded, hj, hd, hv]
  simp only [Region.wanted, this]
  rw [← hr]
  cases b <;> cases c <;> rfl
end

/-- A region by a plan, its operations behind a name. -/
theorem wp_region_planH {P : Program} {Q : Exit → Act → World → Prop} (plan : Plan) {id : Nat} {l : List Oper} {a : Act} {w : World} (hm : P.follows .mixedOrders = true)
    (hp : (Region.noSelect l.toArray && planOk l.toArray (fun k => plan.bar k) plan (Array.replicate l.length false) && plan.size == l.length && decide (l.length < 1000000)) = true)
    (S : World → Prop) (hS : S w.drew) (h : ∀ ops, Hid (ops = l.toArray) → wpSeg P ops Q plan S a w.drew) : (Code.region id l.toArray true).wp P Q a w :=
  wp_region_plan plan hm hp S hS (h _ rfl)
theorem hid_get {ops : Array Oper} {l : List Oper} (H : Hid (ops = l.toArray)) (i : Nat) (o : Oper) (h : l[i]? = some o) : ops[i]? = some o := by
  rw [show ops = l.toArray from H, List.getElem?_toArray]; exact h
end Go.Proofs.YtdknkbpgkkakhaaDoor
