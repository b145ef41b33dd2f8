/- Layer 1: whether levels are in an order. -/
import Derived.Test.YtdknkbpgkkakhaaDoorLat1
namespace Go.Proofs.YtdknkbpgkkakhaaDoor
open Go.RowKit

def okUp (m : Mat) (a b l : Nat) : Bool := okTwo m a b && (List.range l).all fun c => okAt m a b c
theorem okUp_zero (m : Mat) (a b : Nat) : okUp m a b 0 = okTwo m a b := by simp [okUp]
theorem okUp_succ (m : Mat) (a b l : Nat) : okUp m a b (l + 1) = (okUp m a b l && okAt m a b l) := by simp [okUp, List.range_succ, Bool.and_assoc]
theorem okUp_all (m : Mat) (a b : Nat) : okUp m a b m.length = okPair m a b := rfl
def RowsOk (m : Mat) (k : Nat) : Prop := ∀ a, a < k → ∀ b, b < m.length → okPair m a b = true
def PairsOk (m : Mat) (a k : Nat) : Prop := ∀ b, b < k → okPair m a b = true
theorem ordered_yes {m : Mat} (h : RowsOk m m.length) : orderedB m = true := by
  simp only [orderedB, List.all_eq_true, List.mem_range]; exact fun a ha b hb => h a ha b hb
theorem ordered_no {m : Mat} {a b : Nat} (ha : a < m.length) (hb : b < m.length) (h : okPair m a b = false) : orderedB m = false := by
  cases ho : orderedB m
  · rfl
  · simp only [orderedB, List.all_eq_true, List.mem_range] at ho
    rw [ho a ha b hb] at h; cases h

set_option maxRecDepth 100000 in
set_option maxHeartbeats 4000000 in
theorem ordered_any (A : Option Addr) (c : Nat) (rs : List Rw) (w : World) (B : Nat) (hA : MatAt w B A rs) (hs : Sq rs) (hn : 0 < rs.length) (hl : rs.length ≤ 9223372036854775807) :
    Calls Tryd.prog 37 #[.slice A rs.length c] w fun e w' => e = .returned (.bool (orderedB (mat rs))) ∧ w = w' := by
  obtain ⟨ad, ra, ca, rfl, hcells⟩ := hA.all hs hn
  have HC := Lib.hid hcells
  have HM := Lib.hid (mat_length rs)
  clear hcells hA hs
  go_enter Tryd.func37, Tryd.ntmps37
  go_wp2
  go_step3
  go_wp2
  go_step3
  go_wp2
  go_loop [3, 9] (fun o i => ∃ k : Nat, k ≤ rs.length ∧ i = .int .i64 k ∧ o = .bool true ∧ Hid (RowsOk (mat rs) k)) (fun _ i => rs.length - (intOf i).toNat)
  case atStart => exact ⟨0, Nat.zero_le _, rfl, rfl, fun a ha => by omega⟩
  case round =>
    obtain ⟨k, hk, rfl, rfl, HR⟩ := hrel
    by_cases hlt : k < rs.length
    · go_wp2
      go_loop [3, 14] (fun o i => ∃ j : Nat, j ≤ rs.length ∧ i = .int .i64 j ∧ o = .bool true ∧ Hid (PairsOk (mat rs) k j)) (fun _ i => rs.length - (intOf i).toNat)
      case atStart => exact ⟨0, Nat.zero_le _, rfl, rfl, fun a ha => by omega⟩
      case round =>
        obtain ⟨j, hj, rfl, rfl, HP⟩ := hrel
        by_cases hjt : j < rs.length
        · obtain ⟨p1, p2⟩ := HC.out k hlt
          replace p2 := p2 j hjt
          obtain ⟨q1, q2⟩ := HC.out j hjt
          replace q2 := q2 k hlt
          obtain ⟨bab, hab⟩ : ∃ b, b = at2 (mat rs) k j := ⟨_, rfl⟩
          obtain ⟨bba, hba⟩ : ∃ b, b = at2 (mat rs) j k := ⟨_, rfl⟩
          rw [← hab] at p2
          rw [← hba] at q2
          have HAB := Lib.hid hab
          have HBA := Lib.hid hba
          clear hab hba
          obtain ⟨bk, hbk⟩ : ∃ b, b = ((k : Int) == (j : Int)) := ⟨_, rfl⟩
          have hb1 : ((k : Int) == (j : Int)) = bk := hbk.symm
          have hb2 : ((k : Int) != (j : Int)) = !bk := by rw [hbk]; rfl
          have HT : Hid (okTwo (mat rs) k j = ((bab || !bk) && (bk || !bab || !bba))) := by
            show _ = _
            have : (k == j) = bk := by rw [hbk, Bool.eq_iff_iff]; simp; omega
            rw [okTwo, ← HAB.out, ← HBA.out, bne, this]
          clear hbk
          go_upto_region 8 with fail
          go_cut [3] (fun o wc => (∃ b, o = .bool b ∧ Hid (b = (bab || !bk))) ∧ w = wc)
          case first =>
            cases bk <;> cases bab
            all_goals
              go_wp2
              go_meet
              exact ⟨⟨_, rfl, rfl⟩, rfl⟩
          case rest =>
            obtain ⟨⟨ok, rfl, HK⟩, rfl⟩ := hcut
            go_upto_region 9 with fail
            go_cut [3] (fun o wc => (∃ b, o = .bool b ∧ Hid (b = (ok && (bk || !bab || !bba)))) ∧ w = wc)
            case first =>
              cases ok
              · go_wp2
                go_meet
                exact ⟨⟨_, rfl, rfl⟩, rfl⟩
              · cases bk
                · cases bab
                  · go_wp2
                    go_meet
                    exact ⟨⟨_, rfl, rfl⟩, rfl⟩
                  · go_wp2
                    go_meet
                    exact ⟨⟨_, rfl, rfl⟩, rfl⟩
                · go_wp2
                  go_meet
                  exact ⟨⟨_, rfl, rfl⟩, rfl⟩
            case rest =>
              obtain ⟨⟨ok2, rfl, HK2⟩, rfl⟩ := hcut
              have HT2 : Hid (ok2 = okTwo (mat rs) k j) := by show _ = _; rw [HT.out, HK2.out, HK.out]
              clear HK HK2 HT hb1 hb2 q1 q2 HBA
              go_wp2
              go_loop [3, 57] (fun o i => ∃ l : Nat, l ≤ rs.length ∧ i = .int .i64 l ∧ ∃ b, o = .bool b ∧ Hid (b = okUp (mat rs) k j l)) (fun _ i => rs.length - (intOf i).toNat)
              case atStart => exact ⟨0, Nat.zero_le _, rfl, _, rfl, by show _ = _; rw [okUp_zero, HT2.out]⟩
              case round =>
                obtain ⟨l, hl2, rfl, ok, rfl, HO⟩ := hrel
                by_cases hlt3 : l < rs.length
                · obtain ⟨q1, q2⟩ := HC.out j hjt
                  replace q2 := q2 l hlt3
                  obtain ⟨-, p3⟩ := HC.out k hlt
                  replace p3 := p3 l hlt3
                  obtain ⟨bbc, hbc⟩ : ∃ b, b = at2 (mat rs) j l := ⟨_, rfl⟩
                  obtain ⟨bac, hac⟩ : ∃ b, b = at2 (mat rs) k l := ⟨_, rfl⟩
                  rw [← hbc] at q2
                  rw [← hac] at p3
                  have HU : Hid (okUp (mat rs) k j (l + 1) = (ok && (!bab || !bbc || bac))) := by
                    show _ = _
                    rw [okUp_succ, okAt, ← HAB.out, ← hbc, ← hac, ← HO.out]
                  clear hbc hac HO
                  cases ok
                  · go_wp2
                    go_round
                    case rel => exact ⟨l + 1, hlt3, by go_num, _, rfl, by show _ = _; rw [HU.out]; rfl⟩
                    case measure => simp [intOf]; omega
                  · cases bab <;> cases bbc <;> cases bac
                    all_goals
                      go_wp2
                      go_round
                      case rel => exact ⟨l + 1, hlt3, by go_num, _, rfl, by show _ = _; rw [HU.out]; rfl⟩
                      case measure => simp [intOf]; omega
                · obtain rfl : l = rs.length := by omega
                  have HO2 : Hid (ok = okPair (mat rs) k j) := by show _ = _; rw [HO.out, ← HM.out, okUp_all]
                  clear HO
                  cases ok
                  · go_wp2
                    go_ret
                    exact ⟨ret_bool (ordered_no (by rw [HM.out]; exact hlt) (by rw [HM.out]; exact hjt) HO2.out.symm).symm, rfl⟩
                  · go_wp2
                    go_round
                    case rel => exact ⟨j + 1, hjt, by go_num, rfl, fun b hb => by
                      by_cases hbj : b = j
                      · subst hbj; exact HO2.out.symm
                      · exact HP.out b (by omega)⟩
                    case measure => simp [intOf]; omega
        · obtain rfl : j = rs.length := by omega
          go_wp2
          go_round
          case rel => exact ⟨k + 1, hlt, by go_num, rfl, fun a ha b hb => by
            by_cases hak : a = k
            · subst hak; exact HP.out b (by rw [← HM.out]; exact hb)
            · exact HR.out a (by omega) b hb⟩
          case measure => simp [intOf]; omega
    · obtain rfl : k = rs.length := by omega
      go_wp2
      go_ret
      exact ⟨ret_bool (ordered_yes (by rw [HM.out]; exact HR.out)).symm, rfl⟩
end Go.Proofs.YtdknkbpgkkakhaaDoor
