/- From a function's walk, over opened arguments, to its given statement: what all rows of this seat share. -/
import Derived.Test.YtdknkbpgkkakhaaDoorBase
import Derived.ProofKit
import Derived.SizedLaws
import Derived.Deep.Slices
import Derived.Deep.Fields
import Derived.ChangeSame
import Derived.HandedShaped
import Derived.Shelf.Vars
import Derived.LaidMore
import Derived.Lay
namespace Go.Proofs.YtdknkbpgkkakhaaDoor
open Go.ChangeShapes Go.WideShapes Go.ChangeAt Go.RowKit Go.Deep

theorem seatOwn : ownKnob Tryd.prog.godebug = none := by kernel_rfl
theorem seatLaid : laidOutB Tryd.prog = true := by kernel_rfl

theorem trodAll_below {H : Type} {enc : TypeId × Value → H} {P : Program} (hl : laidOutB P = true) {W W' : World} (hb : Below W.heap.size W W') :
    ∀ {ts : List TypeId} {vs : List Value} {ds : List (DataW H)} {ps : List MemPlace}, (ts.all fun t => P.readableRec t && decide (t < P.types.size)) = true →
      DataW.TrodAll enc P W 0 (fun _ => true) true ts vs ds ps → (∀ x ∈ ps, x.block < W.heap.size) → DataW.TrodAll enc P W' 0 (fun b => decide (b < W.heap.size)) true ts vs ds ps
  | [], [], [], _, _, h, _ => h
  | t :: ts, v :: vs, d :: ds, ps, hr, h, hlt => by
    obtain ⟨p, q, h1, h2, rfl⟩ := h
    simp only [List.all_cons, Bool.and_eq_true, decide_eq_true_eq] at hr
    exact ⟨p, q, Below.trod hl hr.1.1 hr.1.2 h1 hb (fun x hx => hlt x (List.mem_append.2 (.inl hx))), trodAll_below hl hb (by simpa using hr.2) h2 (fun x hx => hlt x (List.mem_append.2 (.inr hx))), rfl⟩
  | [], _ :: _, _, _, _, h, _ => h.elim
  | [], [], _ :: _, _, _, h, _ => h.elim
  | _ :: _, [], _, _, _, h, _ => h.elim
  | _ :: _, _ :: _, [], _, _, h, _ => h.elim

set_option maxRecDepth 100000 in
/-- A law that hands back true and only reads, from its walk over opened arguments; the row lists variables. -/
theorem law_laid {f : FuncId} {fn : Func} {s : ChangeSpec} {laid : List (String × DataW Unit)} (os : Os) (started : os.Started) {H : Type} {enc : TypeId × Value → H}
    (noInit : Tryd.checked.prog.inits.idxOf? f = none) (hfn : Tryd.checked.prog.funcs[f]? = some fn) (hs : s.vars = []) (hres : fn.resultTypes = #[4])
    (htypes : (fn.params.toList.all fun t => Tryd.prog.readableRec t && decide (t < Tryd.prog.types.size)) = true)
    (hfnspec : ∀ ds : List (DataW H), ds.length = fn.params.toList.length → (s.fn H (ds ++ [])).results = [.lit (.bool true)] ∧ (s.fn H (ds ++ [])).args = ds ∧ (s.fn H (ds ++ [])).vars = [])
    (witness : ∃ (w : World) (tape : Tape) (i : Input), w.os = os ∧ (w.forCall tape i).Shaped Tryd.checked.prog ∧ i.vars = [] ∧ Input.okWide Tryd.checked.prog (w.forCall tape i) .any w.heap.size f i ∧
      ((s.pre enc Tryd.checked.prog fn [] false (w.forCall tape i).memory i.args ∧ laidMetH Tryd.prog laid (w.forCall tape i).memory) ∧ sizedMet enc Tryd.checked.prog fn (OpenSpec.ofChange s) false (w.forCall tape i).memory i.args) ∧ Assume.holds {} Tryd.checked.prog (lone (Frame.enter Tryd.checked.prog f i.args .normal) [] (w.forCall tape i)))
    (walk : ∀ (W : World) (base : Nat) (args : Array Value) (ds : List (DataW H)) (p : List MemPlace),
      (∀ (j : Nat) t v, fn.params[j]? = some t → args[j]? = some v → Value.okWide Tryd.prog W .any base t v) →
      DataW.TrodAll enc Tryd.prog W 0 (fun _ => true) true fn.params.toList args.toList ds p → (∀ x ∈ p, x.block < W.heap.size) →
      (DataW.weightsEach Tryd.prog fn.params.toList ds).all (· ≤ reachBytes) = true →
      (∃ m, W.cell? ⟨0, 0, none⟩ = some (.int .i64 m)) →
      Calls Tryd.prog f args W fun e W' => e = .returned (.bool true) ∧ Ext W W') :
    ReturnsInHanded {} Tryd.checked os f .any (fun w args => (s.pre enc Tryd.prog fn [] false w args ∧ laidMetH Tryd.prog laid w) ∧ sizedMet enc Tryd.prog fn (OpenSpec.ofChange s) false w args) (s.post enc Tryd.checked.prog fn false true false false) := by
  refine returnsInHanded_of_calls seatOwn started noInit witness ?_
  intro W0 tape i _ hsh _ hok hpre hholds
  obtain ⟨_, _, _, fn', hfn', _, _, _, _, hval⟩ := hok
  have e : fn' = fn := Option.some.inj (hfn'.symm.trans hfn)
  subst e
  obtain ⟨⟨⟨ds, gs, before, hw, hc⟩, hx⟩, hz⟩ := hpre
  have hsz := hz.weights hw
  obtain ⟨base, hbase⟩ : ∃ base, base = W0.heap.size := ⟨_, rfl⟩
  rw [← hbase] at hval
  have hW := DataW.Whole.of_heap (w' := W0.forCall tape i) (by rfl) hw
  have hmax := cell_of_shapedOpen_int (g := 0) (t := 3) (zero := #[.int .i64 0]) (k := .i64) hsh (of_decide_eq_true (by kernel_rfl)) (by kernel_rfl) rfl (by kernel_rfl) (by kernel_rfl) Tryd.underlying3
  obtain ⟨W, hWW⟩ : ∃ W, W = W0.forCall tape i := ⟨_, rfl⟩
  rw [← hWW] at hval hW hmax ⊢
  obtain ⟨args, hargs⟩ : ∃ args, args = i.args := ⟨_, rfl⟩
  rw [← hargs] at hval hW ⊢
  clear hw hz hx hc hholds hsh
  have hW' := hW
  obtain ⟨p, q, hA, hV, rfl, hfz, hnd⟩ := hW
  rw [hs] at hV
  obtain ⟨rfl, rfl⟩ := trodVars_none hV
  simp only [List.append_nil] at hW'
  have hlt : ∀ x ∈ p, x.block < W.heap.size := fun x hx => by simpa using hW'.lt x hx
  have hlen : ds.length = fn'.params.toList.length := by
    have : ∀ {ts : List TypeId} {vs : List Value} {ds : List (DataW H)} {ps : List MemPlace}, DataW.TrodAll enc Tryd.prog W 0 (fun _ => true) true ts vs ds ps → ds.length = ts.length := by
      intro ts
      induction ts with
      | nil => intro vs ds ps h; cases vs <;> cases ds <;> first | rfl | exact h.elim
      | cons t ts ih =>
        intro vs ds ps h
        cases vs with
        | nil => exact h.elim
        | cons v vs =>
          cases ds with
          | nil => exact h.elim
          | cons d ds => obtain ⟨_, _, _, h2, _⟩ := h; simp [ih h2]
    exact this hA
  have hsz' : (DataW.weightsEach Tryd.prog fn'.params.toList ds).all (· ≤ reachBytes) = true := by
    have : s.plain.varTypes Tryd.checked.prog = [] := by
      show DataSpec.varTypes Tryd.checked.prog s.plain = []
      simp [DataSpec.varTypes, ChangeSpec.plain, hs]
    have hsz2 : (DataW.weightsEach Tryd.checked.prog (fn'.params.toList ++ s.plain.varTypes Tryd.checked.prog) (ds ++ [])).all (· ≤ reachBytes) = true := hsz
    rw [this, List.append_nil, List.append_nil] at hsz2
    exact hsz2
  have hbl : Calls Tryd.checked.prog f args W fun e W' => ∃ v, e = .returned v ∧ s.post enc Tryd.checked.prog fn' false true false false W args v W' := by
    refine (walk W base args ds p hval hA hlt hsz' hmax).mono fun e W' ⟨he, hx⟩ => ?_
    subst he
    obtain ⟨er, ea, ev⟩ := hfnspec ds hlen
    refine ⟨_, rfl, ds, [], p, [], p, [], hW', ?_, ?_, ?_, hx.frame _, fun h => by cases h⟩
    · rw [er, hres]
      exact trodAll_mk1 (shut_bool Tryd.underlying4 _)
    · rw [ea]
      exact trodAll_below seatLaid hx htypes hA hlt
    · rw [ev, hs]; rfl
  refine hbl.mono fun e W' ⟨v, he, hp⟩ => ?_
  subst he
  exact ChangeSpec.post_blind hp

theorem u8_bounds {n : Int} (h : (Lit.int .u8 n).wf = true) : 0 ≤ n ∧ n ≤ 255 := by
  simp [Lit.wf, IntKind.min, IntKind.max, IntKind.signed, IntKind.bits] at h
  omega
theorem i64_bounds {n : Int} (h : (Lit.int .i64 n).wf = true) : -9223372036854775808 ≤ n ∧ n ≤ 9223372036854775807 := by
  simp [Lit.wf, IntKind.min, IntKind.max, IntKind.signed, IntKind.bits] at h
  omega

/-- A slice of bools, opened. -/
theorem open_bools {H : Type} {enc : TypeId × Value → H} {W : World} {t : TypeId} {v : Value} {d : DataW H} {p : List MemPlace} (ht : Tryd.prog.underlying t = some (.slice 4))
    (hv : ∃ A n c, v = .slice A n c) (h0 : DataW.Trod enc Tryd.prog W 0 (fun _ => true) true t v d p) (hlt : ∀ x ∈ p, x.block < W.heap.size) :
    ∃ (A : Option Addr) (c : Nat) (ks : List Bool), v = .slice A ks.length c ∧ ks.length ≤ maxLen ∧ RowsAt W W.heap.size 4 1 (fun b => [Value.bool b]) A ks := by
  obtain ⟨A, n, c, rfl⟩ := hv
  obtain ⟨fuel, hf⟩ := h0
  rcases open_slice1 ht (by kernel_rfl) hf with ⟨hcs, hx⟩ | ⟨a, len, cap, m, n', V, D, Pl, hcs, hb, hl, hm, hmm, hx, hi⟩
  · simp [Value.cells] at hcs
    obtain ⟨rfl, rfl, rfl⟩ := hcs
    exact ⟨none, 0, [], rfl, Nat.zero_le _, RowsAt.nil⟩
  · simp [Value.cells] at hcs
    obtain ⟨rfl, rfl, rfl⟩ := hcs
    simp only [if_true] at hmm
    subst hmm
    simp only [Prod.mk.injEq] at hx
    obtain ⟨hd, hp⟩ := hx
    obtain ⟨g, hg⟩ := choose_lt (n := n) (p := fun i (b : Bool) => V i = .bool b) (fun i hi' => by
      obtain ⟨b, h1, _⟩ := DataW.trod_bool Tryd.underlying4 (hi i (by omega)).2
      simp at h1
      exact ⟨b, h1⟩)
    refine ⟨some a, m, (List.range n).map g, by simp, by simp; omega, fun i h => ⟨a, rfl, .inl ?_, fun j u hj => ?_⟩⟩
    · have h' : i < n := by simpa using h
      have hmem : (MemPlace.cell a.block a.off) ∈ p := by
        rw [hp]
        refine List.mem_append.2 (.inl ?_)
        simp [MemPlace.row]
        omega
      exact hlt _ hmem
    · have h' : i < n := by simpa using h
      match j, hj with
      | 0, hj =>
        simp at hj
        subst hj
        have := (hi i (by omega)).1
        rw [hg i h'] at this
        simpa [add_zero] using this
end Go.Proofs.YtdknkbpgkkakhaaDoor
