/- A lattice among the arguments, opened. -/
import Derived.Test.YtdknkbpgkkakhaaDoorLat1
import Derived.Test.YtdknkbpgkkakhaaDoorOpen
import Derived.Deep.Grids
namespace Go.Proofs.YtdknkbpgkkakhaaDoor
open Go.ChangeShapes Go.WideShapes Go.ChangeAt Go.RowKit Go.Deep

theorem row_lt {W : World} {a : Addr} {n : Nat} {p : List MemPlace} (hp : ∀ x ∈ MemPlace.row a n, x ∈ p) (hlt : ∀ x ∈ p, x.block < W.heap.size) (hn : 0 < n) : a.block < W.heap.size := by
  have hmem : (MemPlace.cell a.block a.off) ∈ p := by
    refine hp _ ?_
    simp [MemPlace.row]
    omega
  exact hlt _ hmem

theorem cells24 : Tryd.prog.cellsOf 24 = 1 := by kernel_rfl
theorem cells22 : Tryd.prog.cellsOf 22 = 1 := by kernel_rfl
theorem cells38 : Tryd.prog.cellsOf 38 = 1 := by kernel_rfl
theorem cells4 : Tryd.prog.cellsOf 4 = 1 := by kernel_rfl

set_option maxRecDepth 100000 in
theorem open_lattice {H : Type} {enc : TypeId × Value → H} {W : World} {base : Nat} {v : Value} {d : DataW H} {p : List MemPlace} (hv : Value.okWide Tryd.prog W .any base 24 v)
    (h0 : DataW.Trod enc Tryd.prog W 0 (fun _ => true) true 24 v d p) (hlt : ∀ x ∈ p, x.block < W.heap.size) :
    ∃ (A : Option Addr) (c : Nat) (rs : List Rw), v = Value.agg #[Value.slice A rs.length c] ∧ rs.length ≤ maxLen ∧ (∀ r ∈ rs, r.bs.length ≤ maxLen) ∧ MatAt W W.heap.size A rs := by
  obtain ⟨cs, rfl, hcs⟩ := okWide_struct Tryd.underlying24 hv
  have h24 := cells24
  have h22 := cells22
  have h38 := cells38
  have h4 := cells4
  rw [h24] at hcs
  obtain ⟨cl⟩ := cs
  match cl, hcs with
  | [x], _ =>
    obtain ⟨fuel, hf⟩ := h0
    obtain ⟨y0, n, hx, _, hy⟩ := trod_struct1 Tryd.underlying24 hf
    have hy' : DataW.trod enc Tryd.prog W 0 (fun _ => true) true n 22 [x] = some y0 := by
      have e : (List.drop 0 (Value.agg ⟨[x]⟩).cells.toList).take (Tryd.prog.cellsOf 22) = [x] := by rw [h22]; simp [Value.cells]
      simpa [e, h22, Value.cells] using hy
    simp only [Prod.mk.injEq] at hx
    obtain ⟨-, hp⟩ := hx
    rcases open_bool_rows Tryd.underlying22 Tryd.underlying38 Tryd.underlying4 h38 h4 hy' with ⟨hc, _⟩ | ⟨a, len, cap, A, L, C, B, hc, _, hl, hm, hy0, hall⟩
    · have e : x = .slice none 0 0 := by simpa using hc
      subst e
      exact ⟨none, 0, [], rfl, Nat.zero_le _, by simp, RowsAt.nil, by simp⟩
    · have e : x = .slice (some a) len cap := by simpa using hc
      subst e
      have hpp : p = MemPlace.row a cap ++ (List.range cap).flatMap fun r => boolRowPlaces (A r) (C r) := by rw [hp, hy0]
      refine ⟨some a, cap, (List.range len).map fun r => ⟨A r, C r, (List.range (L r)).map (B r)⟩, by simp, by simp; omega, ?_, ?_, ?_⟩
      · intro r hr
        obtain ⟨i, hi, rfl⟩ := List.mem_map.1 hr
        have hi' := List.mem_range.1 hi
        obtain ⟨_, h1, h2, _⟩ := hall i (by omega)
        simp; omega
      · intro i hi
        have hi' : i < len := by simpa using hi
        obtain ⟨hcell, _⟩ := hall i (by omega)
        refine ⟨a, rfl, .inl (row_lt (n := cap) (fun x hx => by rw [hpp]; exact List.mem_append.2 (.inl hx)) hlt (by omega)), fun j u hj => ?_⟩
        have hj0 : j = 0 := by
          have := (List.getElem?_eq_some_iff.1 hj).1
          simp [Rw.cells] at this; exact this
        subst hj0
        have hu : u = .slice (A i) (L i) (C i) := by simpa [Rw.cells] using hj.symm
        rw [hu, Nat.mul_one, add_zero]
        exact hcell
      · intro r hr i hi
        obtain ⟨q, hq, rfl⟩ := List.mem_map.1 hr
        have hq' := List.mem_range.1 hq
        have hi' : i < L q := by simpa using hi
        obtain ⟨_, h1, h2, h3, h4'⟩ := hall q (by omega)
        cases hA : A q with
        | none => have := h3 hA; omega
        | some a' =>
          obtain ⟨_, h5⟩ := h4' a' hA
          refine ⟨a', rfl, .inl (row_lt (n := C q) (fun x hx => ?_) hlt (by omega)), fun j u hj => ?_⟩
          · rw [hpp]
            refine List.mem_append.2 (.inr (List.mem_flatMap.2 ⟨q, List.mem_range.2 (by omega), ?_⟩))
            rw [hA]; exact hx
          · have hj0 : j = 0 := by
              have := (List.getElem?_eq_some_iff.1 hj).1
              simp [bitCells] at this; exact this
            subst hj0
            have hu : u = .bool (B q i) := by simpa [bitCells] using hj.symm
            rw [hu, Nat.mul_one, add_zero]
            exact h5 i (by omega)
end Go.Proofs.YtdknkbpgkkakhaaDoor
