/- Layer 22: fewLattice. -/
import Derived.Test.YtdknkbpgkkakhaaLat10
namespace Go.Proofs.Ytdknkbpgkkakhaa
open Go.RowKit

set_option maxHeartbeats 1000000 in
theorem fewLat22_any (A : Option Addr) (c : Nat) (rs : List Rw) (w : World) (B : Nat) (hA : MatAt w B A rs) (hl : rs.length ≤ 9223372036854775807) :
    Calls Try.prog 60 #[.agg #[.slice A rs.length c]] w fun e w' => e = .returned (.bool (fewMat 8 (mat rs))) ∧ Ext w w' := by
  have hA1 := hA.ext (ext_alloc w (.cells #[.slice A rs.length c] 53))
  go_enter Try.func60, Try.ntmps60
  go_wp2
  go_loop [3] (fun i => ∃ k : Nat, k ≤ rs.length ∧ i = .int .i64 k ∧ Hid (∀ a, (h : a < rs.length) → a < k → rs[a].bs.length ≤ 8)) (fun i => rs.length - (intOf i).toNat)
  case atStart => exact ⟨0, Nat.zero_le _, rfl, fun a h ha => by omega⟩
  case round =>
    obtain ⟨k, hk, rfl, HS⟩ := hrel
    by_cases hlt : k < rs.length
    · obtain ⟨ad, rfl, p1⟩ := hA1.row hlt
      by_cases he : rs[k].bs.length ≤ 8
      · go_wp2
        go_round
        case rel => exact ⟨k + 1, hlt, by go_num, fun a h ha => by
          by_cases hak : a = k
          · subst hak; exact he
          · exact HS.out a h (by omega)⟩
        case measure => simp [intOf]; omega
      · go_wp2
        go_ret
        exact ⟨ret_bool (fewMat_no hlt (by omega)).symm, ext_alloc _ _⟩
    · obtain rfl : k = rs.length := by omega
      have HF := Lib.hid (fewMat_end HS.out)
      go_wp2
      go_ret
      refine ⟨ret_bool ?_, ext_alloc _ _⟩
      rw [HF.out, Bool.eq_iff_iff]; simp; try omega

end Go.Proofs.Ytdknkbpgkkakhaa
