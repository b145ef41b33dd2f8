/- item.Is and its like in the reference. -/
import Derived.Test.YtdknkbpgkkakhaaItem
namespace Go.Proofs.Ytdknkbpgkkakhaa
open Go.RowKit

structure It where
  level : Int
  n : Int
  turn : Int
  shut : Bool
  ws : List Wr

def betw (n lo hi : Int) : Bool := decide (lo ≤ n) && decide (n ≤ hi)
def shortKeys (ws : List Wr) : Bool := ws.all fun x => decide (x.key.size ≤ 12)
def It.is (x : It) : Bool :=
  betw x.level 0 5 && betw x.n 1 1000000 && betw x.turn 0 1000000 && (if x.shut then x.ws.isEmpty else !x.ws.isEmpty && (shortKeys x.ws && batchIs x.ws))

set_option maxHeartbeats 400000 in
theorem between_any (n lo hi : Int) (w : World) : Calls Try.prog 107 #[.int .i64 n, .int .i64 lo, .int .i64 hi] w fun e w' => e = .returned (.bool (betw n lo hi)) ∧ w = w' := by
  go_enter Try.func107, Try.ntmps107
  go_wp2
  all_goals
    go_ret
    refine ⟨ret_bool ?_, rfl⟩
    simp [betw, *]
    try omega

set_option maxHeartbeats 400000 in
theorem itemIs_any (x : It) (A : Option Addr) (c : Nat) (w : World) (B : Nat) (hA : WrsAt w B A x.ws) (hok : ∀ y ∈ x.ws, y.ok) (hl : x.ws.length ≤ 9223372036854775807) :
    Calls Try.prog 93 #[.agg #[.int .i64 x.level, .int .i64 x.n, .int .i64 x.turn, .bool x.shut, .slice A x.ws.length c]] w fun e w' => e = .returned (.bool x.is) ∧ Ext w w' := by
  obtain ⟨level, n, turn, shut, ws⟩ := x
  dsimp only at hA hok hl ⊢
  go_enter Try.func93, Try.ntmps93
  go_wp2
  go_step3
  go_wp2_with (go_at_call 107; refine (between_any _ _ _ _).mono ?_; rintro e w' ⟨rfl, rfl⟩)
  all_goals try (rw [Exit.noGoto_ret]; go_ret; refine ⟨ret_bool ?_, ext_alloc _ _⟩)
  · have h3 : (!betw turn 0 1000000) = true := by assumption
    simp only [Bool.not_eq_true'] at h3; simp only [It.is, h3]; simp
  · have h1 : betw level 0 5 = true := by assumption
    have h2 : betw n 1 1000000 = true := by assumption
    have h3 : (!betw turn 0 1000000) = false := by assumption
    have h4 : shut = true := by assumption
    simp only [Bool.not_eq_false'] at h3; simp only [It.is, h1, h2, h3, h4]; rw [Bool.eq_iff_iff]; simp
  · have h4 : ¬ shut = true := by assumption
    have h5 : ((ws.length : Int) == 0) = true := by assumption
    simp at h5; simp only [It.is, h4, h5]; simp
  · have h1 : betw level 0 5 = true := by assumption
    have h2 : betw n 1 1000000 = true := by assumption
    have h3 : (!betw turn 0 1000000) = false := by assumption
    have h5 : ((ws.length : Int) == 0) = false := by assumption
    have h4 : ¬ shut = true := by assumption
    have HIS : It.is ⟨level, n, turn, shut, ws⟩ = (shortKeys ws && batchIs ws) := by
      simp at h3 h5; simp [It.is, h1, h2, h3, h4, h5]
    have H := Lib.hid HIS; clear HIS h1 h2 h3
    go_step3
    go_wp2
    go_loopw [40] (fun i wr => ∃ k : Nat, k ≤ ws.length ∧ i = .int .i64 k ∧ Ext (w.alloc (.cells #[.int .i64 level, .int .i64 n, .int .i64 turn, .bool false, .slice A ws.length c] 33)) wr ∧ shortKeys ws = shortKeys (ws.drop k)) (fun i _ => ws.length - (intOf i).toNat)
    case atStart => exact ⟨0, Nat.zero_le _, rfl, Below.refl _ _, rfl⟩
    case round =>
      obtain ⟨k, hk, rfl, hext, hgo⟩ := hrel
      have HG := Lib.hid hgo; clear hgo
      have hAr : WrsAt wr B A ws := (hA.ext (ext_alloc _ _)).ext hext
      have hw : Ext w wr := ext_trans (ext_alloc _ _) hext
      by_cases hlt : k < ws.length
      · obtain ⟨ad, rfl, h0, h1, h2⟩ := WrsAt.get hAr hlt
        have hx := hok _ (List.getElem_mem hlt)
        obtain ⟨hx1, -⟩ := hx
        have hdrop : shortKeys (ws.drop k) = (decide (ws[k].key.size ≤ 12) && shortKeys (ws.drop (k + 1))) := by rw [List.drop_eq_getElem_cons hlt]; rfl
        have HD := Lib.hid hdrop; clear hdrop
        clear hAr hA hok
        by_cases h12 : ws[k].key.size ≤ 12
        · go_wp2
          go_roundw
          case rel => exact ⟨k + 1, hlt, by go_num, hext.alloc hext.size _, by rw [HG.out, HD.out]; simp [h12]⟩
          case measure => simp [intOf]; omega
        · go_wp2
          rw [Exit.noGoto_ret]
          go_ret
          refine ⟨ret_bool ?_, ext_trans hw (ext_alloc _ _)⟩
          rw [H.out, HG.out, HD.out]; simp [h12]
      · obtain rfl : k = ws.length := by omega
        have c4 : wr.cell? ⟨w.heap.size, 4, none⟩ = some (.slice A ws.length c) := ext_cell hext (by simp [go_sem])
        have hz : w.heap.size + 1 ≤ wr.heap.size := by have := hext.size; simpa using this
        go_wp2_with fail
        refine (batchIs_any A c ws _ B hAr hok hl).mono ?_
        rintro e w2 ⟨rfl, hext2⟩
        go_wp2
        rw [Exit.noGoto_ret]
        go_ret
        refine ⟨ret_bool ?_, ext_trans hw hext2⟩
        rw [H.out, HG.out, List.drop_length]; simp [shortKeys]
  · have h2 : ¬ betw n 1 1000000 = true := by assumption
    simp only [It.is, h2]; simp
  · have h1 : ¬ betw level 0 5 = true := by assumption
    simp only [It.is, h1]; simp
end Go.Proofs.Ytdknkbpgkkakhaa
