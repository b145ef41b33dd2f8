/- The reference's Is on items; Same and SameAll of the reference. -/
import Derived.Test.YtdknkbpgkkakhaaItem3
namespace Go.Proofs.Ytdknkbpgkkakhaa
open Go.RowKit

set_option maxHeartbeats 1000000 in
theorem refItemIs_any (x : It) (A : Option Addr) (c : Nat) (w : World) (B : Nat) (hA : WrsAt w B A x.ws) (hok : ∀ y ∈ x.ws, y.ok) (hl : x.ws.length ≤ 9223372036854775807) :
    Calls Try.prog 95 #[.agg #[.int .i64 x.level, .int .i64 x.n, .int .i64 x.turn, .bool x.shut, .slice A x.ws.length c]] w fun e w' => e = .returned (.bool x.is) ∧ Ext w w' := by
  obtain ⟨level, n, turn, shut, ws⟩ := x
  dsimp only at hA hok hl ⊢
  by_cases hb : (0 ≤ level ∧ level ≤ 5) ∧ (1 ≤ n ∧ n ≤ 1000000) ∧ (0 ≤ turn ∧ turn ≤ 1000000)
  · have HIS : It.is ⟨level, n, turn, shut, ws⟩ = (if shut then ws.isEmpty else !ws.isEmpty && (shortKeys ws && batchIs ws)) := by
      obtain ⟨⟨a1, a2⟩, ⟨a3, a4⟩, ⟨a5, a6⟩⟩ := hb
      simp [It.is, betw, a1, a2, a3, a4, a5, a6]
    have H := Lib.hid HIS; clear HIS
    obtain ⟨⟨a1, a2⟩, ⟨a3, a4⟩, ⟨a5, a6⟩⟩ := hb
    go_enter Try.func95, Try.ntmps95
    go_wp2
    clear a1 a2 a3 a4 a5 a6
    go_loopw [3] (fun i wr => ∃ k : Nat, k ≤ ws.length ∧ i = .int .i64 k ∧ Ext (w.alloc (.cells #[.int .i64 level, .int .i64 n, .int .i64 turn, .bool shut, .slice A ws.length c] 33)) wr ∧ shortKeys ws = shortKeys (ws.drop k)) (fun i _ => ws.length - (intOf i).toNat)
    case atStart => exact ⟨0, Nat.zero_le _, rfl, Below.refl _ _, rfl⟩
    case round =>
      obtain ⟨k, hk, rfl, hext, hgo⟩ := hrel
      have HG := Lib.hid hgo; clear hgo
      have hAr : WrsAt wr B A ws := (hA.ext (ext_alloc _ _)).ext hext
      have hw : Ext w wr := ext_trans (ext_alloc _ _) hext
      have c3 : wr.cell? ⟨w.heap.size, 3, none⟩ = some (.bool shut) := ext_cell hext (by simp [go_sem])
      have c4 : wr.cell? ⟨w.heap.size, 4, none⟩ = some (.slice A ws.length c) := ext_cell hext (by simp [go_sem])
      have hz : w.heap.size + 1 ≤ wr.heap.size := by have := hext.size; simpa using this
      by_cases hlt : k < ws.length
      · obtain ⟨ad, rfl, h0, h1, h2⟩ := WrsAt.get hAr hlt
        have hx := hok _ (List.getElem_mem hlt)
        obtain ⟨hx1, -⟩ := hx
        have hdrop : shortKeys (ws.drop k) = (decide (ws[k].key.size ≤ 12) && shortKeys (ws.drop (k + 1))) := by rw [List.drop_eq_getElem_cons hlt]; rfl
        have HD := Lib.hid hdrop; clear hdrop
        clear hAr hA hok
        by_cases h12 : ws[k].key.size ≤ 12
        · go_wp2
          go_roundw
          case rel => exact ⟨k + 1, hlt, by go_num, hext, by rw [HG.out, HD.out]; simp [h12]⟩
          case measure => simp [intOf]; omega
        · go_wp2
          go_ret
          refine ⟨ret_bool ?_, hw⟩
          rw [H.out, HG.out, HD.out]
          have : ws ≠ [] := fun h => by subst h; simp at hlt
          cases shut <;> simp [h12, this]
      · obtain rfl : k = ws.length := by omega
        have HS : Hid (shortKeys ws = true) := by rw [HG.out, List.drop_length]; rfl
        clear HG
        cases shut
        · by_cases h0 : ws.length = 0
          · have hw0 : ws = [] := List.eq_nil_of_length_eq_zero h0
            go_wp2
            go_ret
            exact ⟨ret_bool (by rw [H.out]; simp [hw0]), hw⟩
          · have hw0 : ws ≠ [] := fun h => h0 (by rw [h]; rfl)
            have hw1 : 0 < ws.length := by omega
            clear h0
            go_wp2_with fail
            refine (refBatchIs_any A c ws _ B hAr hok hl).mono ?_
            rintro e w2 ⟨rfl, hext2⟩
            go_wp2
            go_ret
            exact ⟨ret_bool (by rw [H.out, HS.out]; simp [hw0]), ext_trans hw hext2⟩
        · go_wp2
          · go_ret
            have h0 : ws = [] := by assumption
            subst h0
            exact ⟨ret_bool (by rw [H.out]; rfl), hw⟩
          · go_ret
            have h0 : ¬ ws = [] := by assumption
            exact ⟨ret_bool (by rw [H.out]; cases ws with | nil => exact absurd rfl h0 | cons _ _ => rfl), hw⟩
  · have HIS : It.is ⟨level, n, turn, shut, ws⟩ = false := by
      simp [It.is, betw]; omega
    have H := Lib.hid HIS; clear HIS
    go_enter Try.func95, Try.ntmps95
    go_wp2
    all_goals
      go_ret
      exact ⟨ret_bool (by rw [H.out]), ext_alloc _ _⟩
end Go.Proofs.Ytdknkbpgkkakhaa
