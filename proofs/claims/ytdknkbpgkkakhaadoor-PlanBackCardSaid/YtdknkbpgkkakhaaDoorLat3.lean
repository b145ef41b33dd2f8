/- Layer 1: Check, of the program and of the document. -/
import Derived.Test.YtdknkbpgkkakhaaDoorLat2
namespace Go.Proofs.YtdknkbpgkkakhaaDoor
open Go.RowKit

theorem mat_len_hid (rs : List Rw) : Hid (List.length (mat rs) = rs.length) := mat_length rs

set_option maxRecDepth 100000 in
set_option maxHeartbeats 4000000 in
theorem check_any (A : Option Addr) (c : Nat) (rs : List Rw) (w : World) (B : Nat) (hA : MatAt w B A rs) (hl : rs.length ≤ 9223372036854775807) :
    Calls Tryd.prog 25 #[.agg #[.slice A rs.length c]] w fun e w' => e = .returned (.int .i64 (lchk (mat rs))) ∧ Ext w w' := by
  go_enter Tryd.func25, Tryd.ntmps25
  go_wp2_with fail
  refine (square_any A c rs _ B (hA.ext (ext_alloc _ _)) hl).mono ?_
  rintro e w1 ⟨rfl, x1⟩
  have c0 : w1.cell? ⟨w.heap.size, 0, none⟩ = some (.slice A rs.length c) := ext_cell x1 (by simp [go_sem])
  have hx : Ext w w1 := ext_trans (ext_alloc _ _) x1
  clear x1
  cases hs : squareB (mat rs)
  · have HS := Lib.hid hs; clear hs
    go_wp2
    go_ret
    exact ⟨ret_int (by rw [lchk, HS.out]; rfl), hx⟩
  · obtain ⟨h1, h2, h3⟩ := sq_of hs
    have HS := Lib.hid hs; clear hs
    go_wp2_with fail
    refine (ordered_any A c rs w1 B (hA.ext hx) h1 (by omega) hl).mono ?_
    rintro e w2 ⟨rfl, rfl⟩
    cases ho : orderedB (mat rs)
    · have HO := Lib.hid ho; clear ho
      go_wp2
      go_ret
      exact ⟨ret_int (by rw [lchk, HS.out, HO.out]; rfl), hx⟩
    · have HO := Lib.hid ho; clear ho
      go_wp2
      go_ret
      exact ⟨ret_int (by rw [lchk, HS.out, HO.out]; rfl), hx⟩

theorem lchk_bad {m : Mat} (h : squareB m = false) : (lchk m : Int) = 10 := by simp [lchk, h]
theorem lchk_no {m : Mat} (h : squareB m = true) (h2 : orderedB m = false) : (lchk m : Int) = 11 := by simp [lchk, h, h2]
theorem lchk_yes {m : Mat} (h : squareB m = true) (h2 : orderedB m = true) : (lchk m : Int) = 0 := by simp [lchk, h, h2]
theorem square_few {m : Mat} (h : m.length < 1 ∨ 6 < m.length) : squareB m = false := by
  cases hs : squareB m
  · rfl
  · simp [squareB] at hs; omega
theorem sq_square {rs : List Rw} (h : Sq rs) (h1 : 1 ≤ rs.length) (h6 : rs.length ≤ 6) : squareB (mat rs) = true := by
  simp only [squareB, mat_length, Bool.and_eq_true, List.all_eq_true, decide_eq_true_eq, beq_iff_eq]
  refine ⟨⟨?_, h1⟩, h6⟩
  intro r hr
  obtain ⟨x, hx, rfl⟩ := List.mem_map.1 hr
  obtain ⟨a, ha, rfl⟩ := List.getElem_of_mem hx
  exact h a ha
theorem okPair_no {m : Mat} {a b l : Nat} (hl : l < m.length) (h : okAt m a b l = false) : okPair m a b = false := by
  cases ho : okPair m a b
  · rfl
  · simp only [okPair, Bool.and_eq_true, List.all_eq_true, List.mem_range] at ho
    rw [ho.2 l hl] at h; cases h

set_option maxRecDepth 100000 in
set_option maxHeartbeats 4000000 in
theorem refCheck_any (A : Option Addr) (c : Nat) (rs : List Rw) (w : World) (B : Nat) (hA : MatAt w B A rs) (hl : rs.length ≤ 9223372036854775807) :
    Calls Tryd.prog 18 #[.agg #[.slice A rs.length c]] w fun e w' => e = .returned (.int .i64 (lchk (mat rs))) ∧ Ext w w' := by
  have HM := mat_len_hid rs
  by_cases h1 : rs.length < 1
  · have d1 : decide ((rs.length : Int) < 1) = true := by simp; omega
    go_enter Tryd.func18, Tryd.ntmps18
    go_wp2
    go_ret
    exact ⟨ret_int (lchk_bad (square_few (.inl (by rw [HM.out]; exact h1)))).symm, ext_alloc _ _⟩
  · have d1 : decide ((rs.length : Int) < 1) = false := by simp; omega
    by_cases h6 : 6 < rs.length
    · have d6 : decide ((6 : Int) < rs.length) = true := by simp; omega
      go_enter Tryd.func18, Tryd.ntmps18
      go_wp2
      go_ret
      exact ⟨ret_int (lchk_bad (square_few (.inr (by rw [HM.out]; exact h6)))).symm, ext_alloc _ _⟩
    · have d6 : decide ((6 : Int) < rs.length) = false := by simp; omega
      have hA1 := hA.ext (ext_alloc w (.cells #[.slice A rs.length c] 24))
      go_enter Tryd.func18, Tryd.ntmps18
      go_wp2
      clear d1 d6
      go_loop [4] (fun i => ∃ k : Nat, k ≤ rs.length ∧ i = .int .i64 k ∧ Hid (∀ a, (h : a < rs.length) → a < k → rs[a].bs.length = rs.length)) (fun i => rs.length - (intOf i).toNat)
      case atStart => exact ⟨0, Nat.zero_le _, rfl, fun a h ha => by omega⟩
      case round =>
        obtain ⟨k, hk, rfl, HS⟩ := hrel
        by_cases hlt : k < rs.length
        · obtain ⟨ad, rfl, p1⟩ := hA1.row hlt
          by_cases he : rs[k].bs.length = rs.length
          · have hb : ((rs[k].bs.length : Int) != rs.length) = false := by simp [he]
            have HE := Lib.hid he; clear he
            go_wp2
            go_round
            case rel => exact ⟨k + 1, hlt, by go_num, fun a h ha => by
              by_cases hak : a = k
              · subst hak; exact HE.out
              · exact HS.out a h (by omega)⟩
            case measure => simp [intOf]; omega
          · have hb : ((rs[k].bs.length : Int) != rs.length) = true := by simp; omega
            have HE := Lib.hid he; clear he
            go_wp2
            go_ret
            refine ⟨ret_int (lchk_bad ?_).symm, ext_alloc _ _⟩
            cases hs : squareB (mat rs)
            · rfl
            · exact absurd ((sq_of hs).1 k hlt) HE.out
        · obtain rfl : k = rs.length := by omega
          have hsq : Sq rs := fun a h => HS.out a h h
          have HQ := Lib.hid (sq_square hsq (by omega) (by omega))
          obtain ⟨ad, ra, ca, rfl, hcells⟩ := hA1.all hsq (by omega)
          have HC := Lib.hid hcells
          clear hcells hA hA1 hsq HS
          go_wp2
          go_loop [5] (fun i => ∃ k : Nat, k ≤ rs.length ∧ i = .int .i64 k ∧ Hid (RowsOk (mat rs) k)) (fun i => rs.length - (intOf i).toNat)
          case atStart => exact ⟨0, Nat.zero_le _, rfl, fun a ha => by omega⟩
          case round =>
            obtain ⟨k, hk, rfl, HR⟩ := hrel
            by_cases hlt : k < rs.length
            · go_wp2
              go_loop [6] (fun i => ∃ j : Nat, j ≤ rs.length ∧ i = .int .i64 j ∧ Hid (PairsOk (mat rs) k j)) (fun i => rs.length - (intOf i).toNat)
              case atStart => exact ⟨0, Nat.zero_le _, rfl, fun a ha => by omega⟩
              case round =>
                obtain ⟨j, hj, rfl, HP⟩ := hrel
                by_cases hjt : j < rs.length
                · obtain ⟨p1, p2⟩ := HC.out k hlt
                  have p0 := p2 k hlt
                  replace p2 := p2 j hjt
                  obtain ⟨q1, q2⟩ := HC.out j hjt
                  replace q2 := q2 k hlt
                  obtain ⟨baa, haa⟩ : ∃ b, b = at2 (mat rs) k k := ⟨_, rfl⟩
                  obtain ⟨bab, hab⟩ : ∃ b, b = at2 (mat rs) k j := ⟨_, rfl⟩
                  obtain ⟨bba, hba⟩ : ∃ b, b = at2 (mat rs) j k := ⟨_, rfl⟩
                  have hkk : ((k : Int) == (j : Int)) = true → bab = baa := fun e => by
                    have h1 : (k : Int) = j := by simpa using e
                    have : k = j := by omega
                    rw [haa, hab, this]
                  rw [← haa] at p0
                  rw [← hab] at p2
                  rw [← hba] at q2
                  have HAB := Lib.hid hab
                  have HBA := Lib.hid hba
                  clear hab hba haa
                  obtain ⟨bk, hbk⟩ : ∃ b, b = ((k : Int) == (j : Int)) := ⟨_, rfl⟩
                  rw [← hbk] at hkk
                  have hb1 : ((k : Int) == (j : Int)) = bk := hbk.symm
                  have hb2 : ((k : Int) != (j : Int)) = !bk := by rw [hbk]; rfl
                  have HT : Hid (okTwo (mat rs) k j = ((bab || !bk) && (bk || !bab || !bba))) := by
                    show _ = _
                    have : (k == j) = bk := by rw [hbk, Bool.eq_iff_iff]; simp; omega
                    rw [okTwo, ← HAB.out, ← HBA.out, bne, this]
                  have HT2 : Hid (okTwo (mat rs) k j = !((bk && !baa) || (!bk && (bab && bba)))) := by
                    show _ = _
                    rw [HT.out]
                    cases bk
                    · cases bab <;> cases bba <;> rfl
                    · rw [hkk rfl]; cases baa <;> cases bba <;> rfl
                  clear hbk hkk HT
                  go_upto_region 15 with fail
                  go_cut [78] (fun o wc => (∃ b, o = .bool b ∧ Hid (b = ((bk && !baa) || (!bk && (bab && bba))))) ∧ w.alloc (.cells #[.slice (some ad) rs.length c] 24) = wc)
                  case first =>
                    cases bk
                    · cases bab
                      · go_wp2
                        go_meet
                        exact ⟨⟨_, rfl, rfl⟩, rfl⟩
                      · go_wp2
                        go_meet
                        exact ⟨⟨_, rfl, rfl⟩, rfl⟩
                    · cases baa
                      · go_wp2
                        go_meet
                        exact ⟨⟨_, rfl, rfl⟩, rfl⟩
                      · go_wp2
                        go_meet
                        exact ⟨⟨_, rfl, rfl⟩, rfl⟩
                  case rest =>
                    obtain ⟨⟨ok, rfl, HK⟩, hwc⟩ := hcut
                    subst hwc
                    have HT3 : Hid (okTwo (mat rs) k j = !ok) := by show _ = _; rw [HT2.out, HK.out]
                    clear HK HT2 hb1 hb2 q1 q2 HBA p0
                    cases ok
                    · go_wp2
                      go_loop [7] (fun i => ∃ l : Nat, l ≤ rs.length ∧ i = .int .i64 l ∧ Hid (okUp (mat rs) k j l = true)) (fun i => rs.length - (intOf i).toNat)
                      case atStart => exact ⟨0, Nat.zero_le _, rfl, by show _ = _; rw [okUp_zero, HT3.out]; rfl⟩
                      case round =>
                        obtain ⟨l, hl2, rfl, HO⟩ := hrel
                        by_cases hlt3 : l < rs.length
                        · obtain ⟨q1, q2⟩ := HC.out j hjt
                          replace q2 := q2 l hlt3
                          obtain ⟨-, p3⟩ := HC.out k hlt
                          replace p3 := p3 l hlt3
                          obtain ⟨bbc, hbc⟩ : ∃ b, b = at2 (mat rs) j l := ⟨_, rfl⟩
                          obtain ⟨bac, hac⟩ : ∃ b, b = at2 (mat rs) k l := ⟨_, rfl⟩
                          rw [← hbc] at q2
                          rw [← hac] at p3
                          have HU : Hid (okAt (mat rs) k j l = (!bab || !bbc || bac)) := by
                            show _ = _
                            rw [okAt, ← HAB.out, ← hbc, ← hac]
                          clear hbc hac
                          cases bab <;> cases bbc <;> cases bac
                          all_goals
                            go_wp2
                            first
                              | (go_round
                                 case rel => exact ⟨l + 1, hlt3, by go_num, by show _ = _; rw [okUp_succ, HU.out, HO.out]; rfl⟩
                                 case measure => simp [intOf]; omega)
                              | (go_ret
                                 exact ⟨ret_int (lchk_no HQ.out (ordered_no (by rw [HM.out]; exact hlt) (by rw [HM.out]; exact hjt) (okPair_no (by rw [HM.out]; exact hlt3) HU.out))).symm, ext_alloc _ _⟩)
                        · obtain rfl : l = rs.length := by omega
                          go_wp2
                          go_round
                          case rel => exact ⟨j + 1, hjt, by go_num, fun b hb => by
                            by_cases hbj : b = j
                            · subst hbj; rw [← okUp_all, HM.out]; exact HO.out
                            · exact HP.out b (by omega)⟩
                          case measure => simp [intOf]; omega
                    · go_wp2
                      go_ret
                      exact ⟨ret_int (lchk_no HQ.out (ordered_no (by rw [HM.out]; exact hlt) (by rw [HM.out]; exact hjt) (by rw [okPair, HT3.out]; rfl))).symm, ext_alloc _ _⟩
                · obtain rfl : j = rs.length := by omega
                  go_wp2
                  go_round
                  case rel => exact ⟨k + 1, hlt, by go_num, fun a ha b hb => by
                    by_cases hak : a = k
                    · subst hak; exact HP.out b (by rw [← HM.out]; exact hb)
                    · exact HR.out a (by omega) b hb⟩
                  case measure => simp [intOf]; omega
            · obtain rfl : k = rs.length := by omega
              go_wp2
              go_ret
              exact ⟨ret_int (lchk_yes HQ.out (ordered_yes (by rw [HM.out]; exact HR.out))).symm, ext_alloc _ _⟩
end Go.Proofs.YtdknkbpgkkakhaaDoor
