/- A slice of bytes among the arguments, opened. -/
import Derived.Test.YtdknkbpgkkakhaaOpen
namespace Go.Proofs.Ytdknkbpgkkakhaa
open Go.ChangeShapes Go.WideShapes Go.ChangeAt Go.RowKit Go.Deep

theorem open_u8s {H : Type} {enc : TypeId × Value → H} {W : World} {t : TypeId} {v : Value} {d : DataW H} {p : List MemPlace} (ht : Try.prog.underlying t = some (.slice 5))
    (hv : ∃ A n c, v = .slice A n c) (h0 : DataW.Trod enc Try.prog W 0 (fun _ => true) true t v d p) (hlt : ∀ x ∈ p, x.block < W.heap.size) :
    ∃ (A : Option Addr) (c : Nat) (ks : List Int), v = .slice A ks.length c ∧ ks.length ≤ maxLen ∧ RowsAt W W.heap.size 5 1 (fun n => [Value.int .u8 n]) A ks ∧ ∀ x ∈ ks, 0 ≤ x ∧ x ≤ 255 := by
  obtain ⟨A, n, c, rfl⟩ := hv
  obtain ⟨fuel, hf⟩ := h0
  rcases open_slice1 ht (by kernel_rfl) hf with ⟨hcs, hx⟩ | ⟨a, len, cap, m, n', V, D, Pl, hcs, hb, hl, hm, hmm, hx, hi⟩
  · simp [Value.cells] at hcs
    obtain ⟨rfl, rfl, rfl⟩ := hcs
    exact ⟨none, 0, [], rfl, Nat.zero_le _, RowsAt.nil, by simp⟩
  · simp [Value.cells] at hcs
    obtain ⟨rfl, rfl, rfl⟩ := hcs
    simp only [if_true] at hmm
    subst hmm
    simp only [Prod.mk.injEq] at hx
    obtain ⟨hd, hp⟩ := hx
    obtain ⟨g, hg⟩ := choose_lt (n := n) (p := fun i (b : Int) => V i = .int .u8 b ∧ 0 ≤ b ∧ b ≤ 255) (fun i hi' => by
      obtain ⟨b, h1, _, hwf⟩ := DataW.trod_int Try.underlying5 (hi i (by omega)).2
      simp at h1
      exact ⟨b, h1, u8_bounds hwf⟩)
    refine ⟨some a, m, (List.range n).map g, by simp, by simp; omega, fun i h => ⟨a, rfl, .inl ?_, fun j u hj => ?_⟩, fun x hx => ?_⟩
    · have h' : i < n := by simpa using h
      have hmem : (MemPlace.cell a.block a.off) ∈ p := by
        rw [hp]
        refine List.mem_append.2 (.inl ?_)
        simp [MemPlace.row]
        omega
      exact hlt _ hmem
    · have h' : i < n := by simpa using h
      match j, hj with
      | 0, hj =>
        simp at hj
        subst hj
        have := (hi i (by omega)).1
        rw [(hg i h').1] at this
        simpa [add_zero] using this
    · obtain ⟨i, hi', rfl⟩ := List.mem_map.1 hx
      exact (hg i (List.mem_range.1 hi')).2
end Go.Proofs.Ytdknkbpgkkakhaa
