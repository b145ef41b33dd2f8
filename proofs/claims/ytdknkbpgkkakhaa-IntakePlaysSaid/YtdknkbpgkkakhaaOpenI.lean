/- Items among the arguments, opened. -/
import Derived.Test.YtdknkbpgkkakhaaItem5
import Derived.Test.YtdknkbpgkkakhaaOpen
import Derived.Deep.Strs
namespace Go.Proofs.Ytdknkbpgkkakhaa
open Go.ChangeShapes Go.WideShapes Go.ChangeAt Go.RowKit Go.Deep

theorem cellsOf3 : Try.prog.cellsOf 3 = 1 := by kernel_rfl
theorem cellsOf4 : Try.prog.cellsOf 4 = 1 := by kernel_rfl
theorem cellsOf9 : Try.prog.cellsOf 9 = 1 := by kernel_rfl
theorem cellsOf31 : Try.prog.cellsOf 31 = 1 := by kernel_rfl
theorem cellsOf47 : Try.prog.cellsOf 47 = 3 := by kernel_rfl
theorem cellsOf33 : Try.prog.cellsOf 33 = 5 := by kernel_rfl
theorem place_lt {W : World} {a : Addr} {n : Nat} {p : List MemPlace} (hp : ∀ x ∈ MemPlace.row a n, x ∈ p) (hlt : ∀ x ∈ p, x.block < W.heap.size) (hn : 0 < n) : a.block < W.heap.size := by
  have hmem : (MemPlace.cell a.block a.off) ∈ p := by
    refine hp _ ?_
    simp [MemPlace.row]
    omega
  exact hlt _ hmem

section
variable {H : Type} {enc : TypeId × Value → H} {W : World} {base fuel : Nat} {cs : List Value} {x : DataW H × List MemPlace}

theorem cells_get {a : Addr} {n : Nat} {l : List Value} (h : W.cells? base a n = some l) (j : Nat) (v : Value) (hj : l[j]? = some v) : W.cell? (a.add j) = some v := by
  obtain ⟨_, hl, hi⟩ := World.cells?_some h
  have hjn : j < n := by have := (List.getElem?_eq_some_iff.1 hj).1; omega
  rw [hi j hjn, hj]

set_option maxRecDepth 100000 in
theorem open_wr (h : DataW.trod enc Try.prog W base (fun _ => true) true fuel 47 cs = some x) : ∃ y : Wr, cs = y.cells ∧ y.ok := by
  obtain ⟨y0, y1, y2, n, _, hl, h0, h1, h2⟩ := trod_struct3 Try.underlying47 h
  rw [cellsOf47] at hl
  match cs, hl with
  | [c0, c1, c2], _ =>
    simp only [cellsOf9, cellsOf4, List.drop_zero, List.drop_succ_cons, List.take_succ_cons, List.take_zero] at h0 h1 h2
    obtain ⟨s0, e0, _, l0⟩ := DataW.trod_string Try.underlying9 h0
    obtain ⟨b1, e1, _⟩ := DataW.trod_bool Try.underlying4 h1
    obtain ⟨s2, e2, _, l2⟩ := DataW.trod_string Try.underlying9 h2
    simp only [List.cons.injEq, and_true] at e0 e1 e2
    subst e0 e1 e2
    exact ⟨⟨s0, b1, s2⟩, rfl, by simp only [maxLen] at l0; exact l0, by simp only [maxLen] at l2; exact l2⟩

set_option maxRecDepth 100000 in
theorem open_wrs (h : DataW.trod enc Try.prog W base (fun _ => true) true fuel 31 cs = some x) (hlt : ∀ p ∈ x.2, p.block < W.heap.size) :
    ∃ (A : Option Addr) (c : Nat) (ws : List Wr), cs = [Value.slice A ws.length c] ∧ (∀ y ∈ ws, y.ok) ∧ WrsAt W W.heap.size A ws := by
  rcases open_slice Try.underlying31 h with ⟨rfl, _⟩ | ⟨a, len, cap, m, n, D, Pl, rfl, hb, hl, hm, hmm, hx, hi⟩
  · exact ⟨none, 0, [], rfl, by simp, RowsAt.nil⟩
  · simp only [if_true] at hmm
    subst hmm
    rw [cellsOf47] at hx hi
    haveI : Inhabited Wr := ⟨⟨ByteArray.empty, false, ByteArray.empty⟩⟩
    obtain ⟨g, hg⟩ := choose_lt (n := m) (p := fun i (y : Wr) => W.cells? base (a.add (i * 3)) 3 = some y.cells ∧ y.ok) (fun i hi' => by
      obtain ⟨cs', h1, h2⟩ := hi i hi'
      obtain ⟨y, rfl, hy⟩ := open_wr h2
      exact ⟨y, h1, hy⟩)
    refine ⟨some a, m, (List.range len).map g, by simp, ?_, ?_⟩
    · intro y hy
      obtain ⟨i, hir, rfl⟩ := List.mem_map.1 hy
      exact (hg i (by have := List.mem_range.1 hir; omega)).2
    · intro i hi'
      have hil : i < len := by simpa using hi'
      refine ⟨a, rfl, .inl (place_lt (n := m * 3) (fun p hp => ?_) hlt (by omega)), fun j v hj => ?_⟩
      · rw [hx]; exact List.mem_append.2 (.inl hp)
      · have h1 := (hg i (by omega)).1
        exact cells_get h1 j v (by simpa using hj)

set_option maxRecDepth 100000 in
theorem open_it (h : DataW.trod enc Try.prog W base (fun _ => true) true fuel 33 cs = some x) (hlt : ∀ p ∈ x.2, p.block < W.heap.size) :
    ∃ y : Iv, cs = y.cells ∧ (∀ z ∈ y.it.ws, z.ok) ∧ WrsAt W W.heap.size y.A y.it.ws := by
  obtain ⟨xs, n, _, rfl, hl, hxl, hf⟩ := DataW.trod_struct Try.underlying33 h
  rw [cellsOf33] at hl
  have hxl5 : xs.length = 5 := hxl
  match cs, hl, xs, hxl5 with
  | [c0, c1, c2, c3, c4], _, [x0, x1, x2, x3, x4], _ =>
    have f0 : DataW.trod enc Try.prog W base (fun _ => true) true n 3 (([c0, c1, c2, c3, c4].drop 0).take (Try.prog.cellsOf 3)) = some x0 := hf 0 _ rfl
    have f1 : DataW.trod enc Try.prog W base (fun _ => true) true n 3 (([c0, c1, c2, c3, c4].drop 1).take (Try.prog.cellsOf 3)) = some x1 := hf 1 _ rfl
    have f2 : DataW.trod enc Try.prog W base (fun _ => true) true n 3 (([c0, c1, c2, c3, c4].drop 2).take (Try.prog.cellsOf 3)) = some x2 := hf 2 _ rfl
    have f3 : DataW.trod enc Try.prog W base (fun _ => true) true n 4 (([c0, c1, c2, c3, c4].drop 3).take (Try.prog.cellsOf 4)) = some x3 := hf 3 _ rfl
    have f4 : DataW.trod enc Try.prog W base (fun _ => true) true n 31 (([c0, c1, c2, c3, c4].drop 4).take (Try.prog.cellsOf 31)) = some x4 := hf 4 _ rfl
    simp only [cellsOf3, cellsOf4, cellsOf31, List.drop_zero, List.drop_succ_cons, List.take_succ_cons, List.take_zero] at f0 f1 f2 f3 f4
    obtain ⟨n0, e0, _⟩ := DataW.trod_int Try.underlying3 f0
    obtain ⟨n1, e1, _⟩ := DataW.trod_int Try.underlying3 f1
    obtain ⟨n2, e2, _⟩ := DataW.trod_int Try.underlying3 f2
    obtain ⟨b3, e3, _⟩ := DataW.trod_bool Try.underlying4 f3
    obtain ⟨A, c, ws, e4, hok, hW⟩ := open_wrs f4 (fun p hp => hlt p (by simp [hp]))
    simp only [List.cons.injEq, and_true] at e0 e1 e2 e3 e4
    subst e0 e1 e2 e3 e4
    exact ⟨⟨⟨n0, n1, n2, b3, ws⟩, A, c⟩, rfl, hok, hW⟩

set_option maxRecDepth 100000 in
/-- A slice of items, opened. -/
theorem open_its {v : Value} {d : DataW H} {p : List MemPlace} (hv : ∃ A n c, v = .slice A n c) (h0 : DataW.Trod enc Try.prog W 0 (fun _ => true) true 22 v d p) (hlt : ∀ x ∈ p, x.block < W.heap.size) :
    ∃ (A : Option Addr) (c : Nat) (ls : List Iv), v = .slice A ls.length c ∧ ls.length ≤ maxLen ∧ RowsIv W W.heap.size A ls ∧ ∀ y ∈ ls, WrsAt W W.heap.size y.A y.it.ws ∧ ∀ z ∈ y.it.ws, z.ok := by
  obtain ⟨A, n, c, rfl⟩ := hv
  obtain ⟨fuel, hf⟩ := h0
  rcases open_slice Try.underlying22 hf with ⟨hcs, hx⟩ | ⟨a, len, cap, m, n', D, Pl, hcs, hb, hl, hm, hmm, hx, hi⟩
  · simp [Value.cells] at hcs
    obtain ⟨rfl, rfl, rfl⟩ := hcs
    exact ⟨none, 0, [], rfl, Nat.zero_le _, RowsAt.nil, by simp⟩
  · simp [Value.cells] at hcs
    obtain ⟨rfl, rfl, rfl⟩ := hcs
    simp only [if_true] at hmm
    subst hmm
    rw [cellsOf33] at hx hi
    simp only [Prod.mk.injEq] at hx
    obtain ⟨_, hp⟩ := hx
    haveI : Inhabited Iv := ⟨⟨⟨0, 0, 0, false, []⟩, none, 0⟩⟩
    obtain ⟨g, hg⟩ := choose_lt (n := m) (p := fun i (y : Iv) => W.cells? 0 (a.add (i * 5)) 5 = some y.cells ∧ (∀ z ∈ y.it.ws, z.ok) ∧ WrsAt W W.heap.size y.A y.it.ws) (fun i hi' => by
      obtain ⟨cs', h1, h2⟩ := hi i hi'
      obtain ⟨y, rfl, hy⟩ := open_it h2 (fun q hq => hlt q (by rw [hp]; exact List.mem_append.2 (.inr (List.mem_flatMap.2 ⟨i, List.mem_range.2 hi', hq⟩))))
      exact ⟨y, h1, hy⟩)
    refine ⟨some a, m, (List.range n).map g, by simp, by simp; omega, ?_, ?_⟩
    · intro i hi'
      have hil : i < n := by simpa using hi'
      refine ⟨a, rfl, .inl (place_lt (n := m * 5) (fun q hq => ?_) hlt (by omega)), fun j v hj => ?_⟩
      · rw [hp]; exact List.mem_append.2 (.inl hq)
      · have h1 := (hg i (by omega)).1
        exact cells_get h1 j v (by simpa using hj)
    · intro y hy
      obtain ⟨i, hir, rfl⟩ := List.mem_map.1 hy
      have := hg i (by have := List.mem_range.1 hir; omega)
      exact ⟨this.2.2, this.2.1⟩
end
end Go.Proofs.Ytdknkbpgkkakhaa
