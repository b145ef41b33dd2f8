/- Layer 2: a Builder's copyCheck. -/
import Derived.Test.YtdknkbpgkkakhaaDoorP5
namespace Go.Proofs.YtdknkbpgkkakhaaDoor
open Go.RowKit

theorem info59 : ∃ j, Tryd.prog.info? 59 = some j ∧ j.size = 2 := by
  have h : (Tryd.prog.info? 59).map (·.size) = some 2 := by kernel_rfl
  obtain ⟨j, h1, h2⟩ := Option.map_eq_some_iff.1 h
  exact ⟨j, h1, h2⟩
set_option maxRecDepth 100000 in
set_option maxHeartbeats 1000000 in
theorem copyCheck_any {w : World} {B b : Nat} {s : ByteArray} (h : Bld w B b s) :
    Calls Tryd.prog 38 #[.pointer (some ⟨b, 0, none⟩)] w fun e w' => e = .returned (.tuple #[]) ∧ Lib.BuilderAtF 59 5 B b (.pointer (some ⟨b, 0, none⟩)) (Lib.strCells s) w' ∧ (w' = w ∨ w' = w.setCell ⟨b, 0, none⟩ (.pointer (some ⟨b, 0, none⟩))) := by
  obtain ⟨j, hj, hjs⟩ := info59
  rcases h with h | h
  · have c0 := h.cell0
    have fz := h.frozen0
    have hsh := h.shape
    have HH := Lib.hid (h.used (.pointer (some ⟨b, 0, none⟩)))
    clear h
    have r1 := Lib.run_to_unsafe (P := Tryd.prog) w ⟨b, 0, none⟩ Tryd.underlying57 Tryd.underlying72 hj (by rw [hjs]; decide) hsh (Nat.zero_lt_succ 1)
    have r2 := Lib.run_from_unsafe (P := Tryd.prog) w ⟨b, 0, none⟩ Tryd.underlying72 Tryd.underlying57 hj hsh (by kernel_rfl)
    go_enter Tryd.func38, Tryd.ntmps38
    go_wp2
    rw [run_callFunc_extern Tryd.func45 (by kernel_rfl) (by kernel_rfl) (by kernel_rfl) (e := Extern.AbiNoEscape.same) (by kernel_rfl)]
    rw [Lib.run_noEscape]
    simp only [Result.andThen]
    rw [Oper.upon_value]
    go_wp2
    (try simp only [Exit.inBlock, Exit.then])
    refine bodyPost_end (results_none rfl _ _ _) rfl ⟨rfl, HH.out, .inr rfl⟩
  · have c0 := h.cell0
    have HH := Lib.hid h
    clear h
    have r1 := Lib.run_neq_ptr_same (P := Tryd.prog) w ⟨b, 0, none⟩ Tryd.underlying57 hj
    go_enter Tryd.func38, Tryd.ntmps38
    go_wp2
    (try simp only [Exit.inBlock, Exit.then])
    refine bodyPost_end (results_none rfl _ _ _) rfl ⟨rfl, HH.out, .inl rfl⟩
end Go.Proofs.YtdknkbpgkkakhaaDoor
