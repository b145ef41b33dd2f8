/- Layer 2: a Builder's WriteString. -/
import Derived.Test.YtdknkbpgkkakhaaDoorP6
namespace Go.Proofs.YtdknkbpgkkakhaaDoor
open Go.RowKit

theorem info5 : ∃ i, Tryd.prog.info? 5 = some i ∧ i.size = 1 ∧ i.zero = some (.int .u8 0) ∧ i.bytes = 1 := by
  have h : (Tryd.prog.info? 5).map (fun i => (i.size, i.zero, i.bytes)) = some (1, some (.int .u8 0), 1) := by kernel_rfl
  obtain ⟨i, h1, h2⟩ := Option.map_eq_some_iff.1 h
  injection h2 with a h2
  injection h2 with b c
  exact ⟨i, h1, a, b, c⟩
set_option maxRecDepth 100000 in
set_option maxHeartbeats 1000000 in
theorem write_any {w : World} {B b : Nat} {s : ByteArray} (h : Bld w B b s) (t : ByteArray) (hlen : s.size + t.size ≤ 1000000) :
    Calls Tryd.prog 28 #[.pointer (some ⟨b, 0, none⟩), .string t] w fun e w' => e = .returned (.tuple #[.int .i64 t.size, .nilIface]) ∧ Bld w' B b (s ++ t) ∧ Below B w w' ∧ Lib.OthersKept 5 (some b) w w' := by
  obtain ⟨i0, hi, hz0, hz1, hz2⟩ := info5
  have hl := h.lt
  go_enter Tryd.func28, Tryd.ntmps28
  go_wp2_with fail
  refine (copyCheck_any h).mono ?_
  rintro e w1 ⟨rfl, ⟨hB, v, hbk, hown, hne⟩, hw⟩
  have hb1 : Below B w w1 := by
    rcases hw with rfl | rfl
    · exact Below.refl _ _
    · exact (Below.refl B w).setCell (p := ⟨b, 0, none⟩) hl.1 _
  have hk1 : Lib.OthersKept 5 (some b) w w1 := by
    rcases hw with rfl | rfl
    · exact Lib.OthersKept.refl _ _ _
    · exact (Lib.OthersKept.refl 5 (some b) w).setCell ⟨b, 0, none⟩ rfl _
  have hsz := hb1.size
  have hls : (Lib.strCells s).length = s.size := Lib.strCells_length s
  have c0 : w1.cell? ⟨b, 0, none⟩ = some (.pointer (some ⟨b, 0, none⟩)) := by rw [Lib.cell_of_heap hbk]; rfl
  have c1 : w1.cell? ⟨b, 1, none⟩ = some v := by rw [Lib.cell_of_heap hbk]; rfl
  clear hw hls
  have hbs : (Lib.strCells s).length + t.size ≤ 1000000 := by rw [Lib.strCells_length]; exact hlen
  go_wp2_with (at_builtin; refine Lib.wpList_append_own_stringF _ rfl _ _ 45 9 rfl B 5 i0 Tryd.underlying45 Tryd.underlying9 hi hz1 hz0 hz2 _ _ _ rfl hown t rfl ?c3 ?c4 ?c5 ?_)
  case c3 => unfold maxLen; omega
  case c4 => omega
  case c5 => omega
  intro v' w2 hown' hgrow _
  have hlt : b < w1.heap.size := (Array.getElem?_eq_some_iff.1 hbk).1
  have hb2 : w2.heap[b]? = some (.cells #[.pointer (some ⟨b, 0, none⟩), v] 59 (0, 0)) := by
    rw [hgrow.block b hlt (fun e => hne e.symm)]
    exact hbk
  have d0 : w2.cell? ⟨b, 0, none⟩ = some (.pointer (some ⟨b, 0, none⟩)) := by rw [Lib.cell_of_heap hb2]; rfl
  have d1 : w2.cell? ⟨b, 1, none⟩ = some v := by rw [Lib.cell_of_heap hb2]; rfl
  have f1 : w2.frozen? ⟨b, 1, none⟩ = false := Lib.frozen_of_heap hb2 1
  obtain ⟨ao, n', cap, rfl⟩ : ∃ ao n' cap, v' = .slice ao n' cap := by
    rcases hown'.2 with ⟨hv, _⟩ | ⟨g, cap, cur, fz, hv, _⟩
    · exact ⟨_, _, _, hv⟩
    · exact ⟨_, _, _, hv⟩
  go_wp2
  go_ret2
  refine ⟨rfl, ?_, ?_, (hk1.grown hgrow (Lib.ownsRowF_kind hown)).setCell ⟨b, 1, none⟩ rfl _⟩
  · unfold Bld
    rw [strCells_app]
    exact .inr (Lib.BuilderAtF.put (T := 59) (e := 5) hB hb2 (bs' := Lib.strCells s ++ Lib.strCells t) (by simpa [Lib.strCells_length] using hown') (by decide))
  · exact (hb1.grown hgrow (by have := hb1.size; omega) (fun k hk => (hown.lt k hk).1)).setCell (p := ⟨b, 1, none⟩) hB _
end Go.Proofs.YtdknkbpgkkakhaaDoor
