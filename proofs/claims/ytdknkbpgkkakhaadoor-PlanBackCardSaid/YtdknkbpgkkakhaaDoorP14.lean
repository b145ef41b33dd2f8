/- Layer 2: the law PlanTells, walked. -/
import Derived.Test.YtdknkbpgkkakhaaDoorP13
namespace Go.Proofs.YtdknkbpgkkakhaaDoor
open Go.RowKit

theorem lvlV_form (o : Option Nat) : ∃ q b, lvlV o = .tuple #[.int .i64 q, .bool b] := ⟨_, _, rfl⟩
theorem same_is {w : World} {A A' : Option Addr} {c c' : Nat} {rs ts : List Rw} {B B' : Nat} (hA : MatAt w B A rs) (hA' : MatAt w B' A' ts) {l k : Nat} (hl : rs.length = l) (hk : ts.length = k) (h100 : l ≤ 100) (hr : ∀ r ∈ rs, r.bs.length ≤ 100) {b : Bool} (hs : sameMat (mat rs) (mat ts) = b) :
    Calls Tryd.prog 15 #[.agg #[.slice A l c], .agg #[.slice A' k c']] w fun e w' => e = .returned (.bool b) ∧ Ext w w' := by
  have h := sameMat_any A A' c c' rs ts w B B' hA hA' (by omega) (fun r hr' => by have := hr r hr'; omega)
  rw [hl, hk, hs] at h
  exact h
theorem parseM_small (s : ByteArray) : squareB (parseM s).1 = true ∨ (parseM s).1 = [] := by
  unfold parseM
  split
  · rename_i h
    cases hr : rowsGo (pcs s) (pcs s).length (pcs s).length with
    | none => exact .inr rfl
    | some m =>
      have hml := rowsGo_len hr
      show squareB (parseC (closeM m)).1 = true ∨ (parseC (closeM m)).1 = []
      unfold parseC
      split
      · exact .inl (closeM_square (by omega) (by omega))
      · exact .inr rfl
  · exact .inr rfl
theorem rows_small {s : ByteArray} {rs : List Rw} (h : mat rs = (parseM s).1) : rs.length ≤ 6 ∧ ∀ r ∈ rs, r.bs.length ≤ 6 := by
  rcases parseM_small s with h1 | h1
  · rw [← h] at h1
    obtain ⟨h2, h3, h4⟩ := sq_of h1
    refine ⟨h4, fun r hr => ?_⟩
    obtain ⟨a, ha, rfl⟩ := List.getElem_of_mem hr
    rw [h2 a ha]; exact h4
  · rw [h1] at h
    have : rs = [] := by simpa [mat] using h
    subst this
    exact ⟨by simp, fun r hr => by cases hr⟩
theorem sameMat_self (m : Mat) : sameMat m m = true := by simp [sameMat]
set_option maxRecDepth 100000 in
set_option maxHeartbeats 4000000 in
theorem planTells_walk (A : Option Addr) (c : Nat) (rs : List Rw) (s : ByteArray) (n : Int) (w : World) (m : Int) (hm : w.cell? ⟨0, 0, none⟩ = some (.int .i64 m)) (hA : MatAt w w.heap.size A rs) (hl : rs.length ≤ 9223372036854775807) (hs : s.size ≤ 9223372036854775807) (hn1 : -9223372036854775808 ≤ n) (hn2 : n ≤ 9223372036854775807) :
    Calls Tryd.prog 3 #[.agg #[.slice A rs.length c], .string s, .int .i64 n] w fun e w' => e = .returned (.bool true) ∧ Ext w w' := by
  obtain ⟨W, hW⟩ : ∃ W, W = w.alloc (.cells #[.slice A rs.length c] 24) := ⟨_, rfl⟩
  have x0 : Ext w W := by rw [hW]; exact ext_alloc _ _
  have b0 : Blk W w.heap.size 24 #[.slice A rs.length c] := by rw [hW]; exact Blk.new _ _ _
  have HW : Hid (w.alloc (.cells #[.slice A rs.length c] 24) = W) := hW.symm
  have HA := Lib.hid (hA.ext x0)
  have hm0 := ext_cell x0 hm
  obtain ⟨B, hB⟩ : ∃ B, B = w.heap.size := ⟨_, rfl⟩
  rw [← hB] at HA b0
  obtain ⟨g, hg⟩ : ∃ g, g = B := ⟨_, rfl⟩
  rw [← hg] at b0
  have HG : Hid (w.heap.size = g) := by show _ = _; rw [hg, hB]
  clear hW hA hm hg hB
  have HNB := Lib.hid (And.intro hn1 hn2)
  clear hn1 hn2
  go_enter Tryd.func3, Tryd.ntmps3
  go_upto_region 1 with fail
  rw [HW.out, HG.out]
  have hk := known_any W m hm0
  go_wp2_with fail
  refine hk.mono ?_
  clear hk
  rintro e w1 ⟨rfl, x1⟩
  have c1 := (b0.ext x1).cell 0
  simp only [List.getElem?_toArray, List.getElem?_cons_zero] at c1
  go_wp2_with fail
  refine (few1_any A c rs w1 B (HA.out.ext x1) hl).mono ?_
  rintro e w2 ⟨rfl, x2⟩
  have y2 := ext_trans x1 x2
  clear x1 x2 c1
  cases hf : fewMat 10 (mat rs)
  · clear hf
    go_wp2
    go_ret
    exact ⟨rfl, ext_trans x0 y2⟩
  · clear hf
    by_cases h2 : 200 < s.size
    · have d2 : decide (200 < (s.size : Int)) = true := by rw [decide_eq_true_eq]; omega
      go_wp2
      go_ret
      exact ⟨rfl, ext_trans x0 y2⟩
    · have d2 : decide (200 < (s.size : Int)) = false := by rw [decide_eq_false_iff_not]; omega
      obtain ⟨M, k, hMk⟩ : ∃ M k, parseM s = (M, k) := ⟨_, _, rfl⟩
      obtain ⟨l, hll⟩ : ∃ l, M.length = l := ⟨_, rfl⟩
      have h3 := planParse_is hMk hll w2 (by omega) (ext_cell y2 hm0)
      go_wp2_with fail
      refine h3.mono ?_
      clear h3
      rintro e w3 ⟨A3, c3, rs3, B3, rfl, hm3, hl3, hM3, x3⟩
      have z3 := ext_alloc w3 (.cells #[.slice A3 l c3] 24)
      have b3 := Blk.new w3 24 #[.slice A3 l c3]
      obtain ⟨g3, hg3⟩ : ∃ g3, g3 = w3.heap.size := ⟨_, rfl⟩
      rw [← hg3] at b3
      go_upto_region 6 with fail
      rw [← hg3]
      clear hg3
      have y3 := ext_trans y2 (ext_trans x3 z3)
      have M3 := hM3.ext z3
      clear x3 hM3 z3 y2
      generalize w3.alloc (.cells #[.slice A3 l c3] 24) = v3 at y3 b3 M3 ⊢
      have h4 := refParse_any s v3 (by omega)
      go_wp2_with fail
      refine h4.mono ?_
      clear h4
      rintro e w4 ⟨A4, c4, rs4, rfl, hm4, hM4, x4⟩
      rw [hMk] at hm4 ⊢
      have hl4 : rs4.length = l := by rw [← hll, ← mat_length, hm4]
      rw [hl4]
      have z4 := ext_alloc w4 (.cells #[.slice A4 l c4] 24)
      have b4 := Blk.new w4 24 #[.slice A4 l c4]
      obtain ⟨g4, hg4⟩ : ∃ g4, g4 = w4.heap.size := ⟨_, rfl⟩
      rw [← hg4] at b4
      go_upto_region 7 with fail
      rw [← hg4]
      clear hg4
      have y4 := ext_trans y3 (ext_trans x4 z4)
      have b3' := b3.ext (ext_trans x4 z4)
      have M3' := M3.ext (ext_trans x4 z4)
      have M4 := hM4.ext z4
      clear x4 hM4 z4 y3 b3 M3
      generalize w4.alloc (.cells #[.slice A4 l c4] 24) = v4 at y4 b3' M3' b4 M4 ⊢
      have hsm3 := rows_small (s := s) (rs := rs3) (by rw [hm3, hMk])
      have hsame : sameMat (mat rs3) (mat rs4) = true := by rw [hm3, hm4]; exact sameMat_self M
      have HS := fun x (h : Ext v4 x) => same_is (c := c3) (c' := c4) (M3'.ext h) (M4.ext h) hl3 hl4 (by omega) (fun r hr => by have := hsm3.2 r hr; omega) hsame
      have HSM := Lib.hid HS
      clear HS hsame M3' M4 hm3 hm4 hll hMk
      go_wp2_with fail
      refine (planLevel_any s v4 hs).mono ?_
      rintro e w5 ⟨rfl, rfl⟩
      obtain ⟨q, bq, hq⟩ := lvlV_form (lvl s)
      rw [hq]
      go_wp2_with fail
      refine (refLevel_any s v4 hs).mono ?_
      rintro e w5 ⟨rfl, rfl⟩
      rw [hq]
      clear hq
      have c1 := (b0.ext y4).cell 0
      have c2 := b3'.cell 0
      have c5 := b4.cell 0
      simp only [List.getElem?_toArray, List.getElem?_cons_zero] at c1 c2 c5
      have u0 := fun x (h : Ext v4 x) => ext_cell h c1
      have u1 := fun x (h : Ext v4 x) => ext_cell h c2
      have u2 := fun x (h : Ext v4 x) => ext_cell h c5
      have hd := ext_drewN v4 1
      obtain ⟨P, hP⟩ : ∃ P, P = prUp (mat rs) (levels (mat rs)) := ⟨_, rfl⟩
      have hprint := fun x (h : Ext v4 x) => planPrint_any A c rs x B (HA.out.ext (ext_trans y4 h)) hl
      have hprint2 := fun x (h : Ext v4 x) => refPrint_any A c rs x B (HA.out.ext (ext_trans y4 h)) hl
      rw [← hP] at hprint hprint2
      have HP1 := Lib.hid hprint
      have HP2 := Lib.hid hprint2
      have hbp : (P.toList == P.toList) = true := (beq_bytes P P).2 rfl
      have hnm : ((nam n).toList == (nam n).toList) = true := (beq_bytes _ _).2 rfl
      clear hprint hprint2 hP c1 c2 c5
      go_upto_region 9 with fail
      refine wp_region_planH3 (.reads 0 (.reads 2 (.makes 1 (.makes 3 (.reads 4 (.reads 5 (.reads 6 (.reads 7 (.makes 8 (.reads 9 (.reads 10 (.reads 11 (.reads 12 (.reads 13 (.reads 14 (.reads 15 (.reads 16 (.reads 17 (.reads 18 (.reads 19 (.reads 20 (.reads 21 (.reads 22 (.reads 23 (.reads 24 (.reads 25 (.reads 26 (.reads 28 (.makes 27 (.makes 29 (.reads 30 (.reads 31 (.reads 32 (.done)))))))))))))))))))))))))))))))))) (by kernel_rfl) (by kernel_rfl) (fun x => Ext v4 x) (ext_drewN v4 1) (fun ops HOPS => ?_)
      (refine segH_load _ _ _ _ _ _ _ _ _ (hid_get HOPS 0 _ rfl) wanted_none rfl (fun _ _ _ _ h => h) (fun y hy => by go_simp; try with_reducible rfl) ?_; simp only [Act.put, List.setIfInBounds_toArray, List.set_cons_zero, List.set_cons_succ])
      (refine segH_load _ _ _ _ _ _ _ _ _ (hid_get HOPS 2 _ rfl) wanted_none rfl (fun _ _ _ _ h => h) (fun y hy => by go_simp; try with_reducible rfl) ?_; simp only [Act.put, List.setIfInBounds_toArray, List.set_cons_zero, List.set_cons_succ])
      refine segH_makes _ _ _ _ _ _ (hid_get HOPS 1 _ rfl) wanted_none (fun K hK => ?_)
      go_big_op
      refine (HP1.out _ hd).mono ?_
      rintro e w6 ⟨rfl, y⟩
      have P1 := ext_trans hd y
      refine hK _ _ (fun x => Ext v4 x) P1 (fun _ h => h) ?_
      clear hK y
      refine segH_makes _ _ _ _ _ _ (hid_get HOPS 3 _ rfl) wanted_none (fun K hK => ?_)
      go_big_op
      refine (HP2.out _ P1).mono ?_
      rintro e w7 ⟨rfl, y⟩
      have P2 := ext_trans P1 y
      refine hK _ _ (fun x => Ext v4 x) P2 (fun _ h => h) ?_
      clear hK y
      (refine segH_pure _ _ _ _ _ _ (hid_get HOPS 4 _ rfl) rfl wanted_none (fun _ _ _ _ h => h) ?_; intro K hK; go_big_quiet_op; go_big_quiet_on)
      (refine segH_pure _ _ _ _ _ _ (hid_get HOPS 5 _ rfl) rfl wanted_none (fun _ _ _ _ h => h) ?_; intro K hK; go_big_quiet_op; go_big_quiet_on)
      first | (refine segH_pass _ _ _ _ _ _ (hid_get HOPS 6 _ rfl) (wanted_some (hid_get HOPS 5 _ rfl) rfl rfl rfl) (fun _ _ _ _ h => h) ?_; simp only [Act.put, List.setIfInBounds_toArray, List.set_cons_zero, List.set_cons_succ]) | (refine segH_load _ _ _ _ _ _ _ _ _ (hid_get HOPS 6 _ rfl) (wanted_some (hid_get HOPS 5 _ rfl) rfl rfl rfl) rfl (fun _ _ _ _ h => h) (fun y hy => by go_simp; try with_reducible rfl) ?_; simp only [Act.put, List.setIfInBounds_toArray, List.set_cons_zero, List.set_cons_succ]) | (refine segH_pass _ _ _ _ _ _ (hid_get HOPS 6 _ rfl) (wanted_gone (hid_get HOPS 5 _ rfl) rfl rfl) (fun _ _ _ _ h => h) ?_; simp only [Act.put, List.setIfInBounds_toArray, List.set_cons_zero, List.set_cons_succ])
      first | (refine segH_pass _ _ _ _ _ _ (hid_get HOPS 7 _ rfl) (wanted_some (hid_get HOPS 5 _ rfl) rfl rfl rfl) (fun _ _ _ _ h => h) ?_; simp only [Act.put, List.setIfInBounds_toArray, List.set_cons_zero, List.set_cons_succ]) | (refine segH_load _ _ _ _ _ _ _ _ _ (hid_get HOPS 7 _ rfl) (wanted_some (hid_get HOPS 5 _ rfl) rfl rfl rfl) rfl (fun _ _ _ _ h => h) (fun y hy => by go_simp; try with_reducible rfl) ?_; simp only [Act.put, List.setIfInBounds_toArray, List.set_cons_zero, List.set_cons_succ]) | (refine segH_pass _ _ _ _ _ _ (hid_get HOPS 7 _ rfl) (wanted_gone (hid_get HOPS 5 _ rfl) rfl rfl) (fun _ _ _ _ h => h) ?_; simp only [Act.put, List.setIfInBounds_toArray, List.set_cons_zero, List.set_cons_succ])
      refine segH_makes _ _ _ _ _ _ (hid_get HOPS 8 _ rfl) (wanted_some (hid_get HOPS 5 _ rfl) rfl rfl rfl) (fun K hK => ?_)
      go_big_op
      refine (HSM.out _ P2).mono ?_
      rintro e w8 ⟨rfl, y⟩
      have P3 := ext_trans P2 y
      refine hK _ _ (fun x => Ext v4 x) P3 (fun _ h => h) ?_
      clear hK y
      (refine segH_pure _ _ _ _ _ _ (hid_get HOPS 9 _ rfl) rfl wanted_none (fun _ _ _ _ h => h) ?_; intro K hK; go_big_quiet_op; go_big_quiet_on)
      (refine segH_pure _ _ _ _ _ _ (hid_get HOPS 10 _ rfl) rfl wanted_none (fun _ _ _ _ h => h) ?_; intro K hK; go_big_quiet_op; go_big_quiet_on)
      first | (refine segH_pass _ _ _ _ _ _ (hid_get HOPS 11 _ rfl) (wanted_some (hid_get HOPS 10 _ rfl) rfl rfl rfl) (fun _ _ _ _ h => h) ?_; simp only [Act.put, List.setIfInBounds_toArray, List.set_cons_zero, List.set_cons_succ]) | (refine segH_pure _ _ _ _ _ _ (hid_get HOPS 11 _ rfl) rfl (wanted_some (hid_get HOPS 10 _ rfl) rfl rfl rfl) (fun _ _ _ _ h => h) ?_; intro K hK; go_big_quiet_op; go_big_quiet_on) | (refine segH_pass _ _ _ _ _ _ (hid_get HOPS 11 _ rfl) (wanted_gone (hid_get HOPS 10 _ rfl) rfl rfl) (fun _ _ _ _ h => h) ?_; simp only [Act.put, List.setIfInBounds_toArray, List.set_cons_zero, List.set_cons_succ])
      first | (refine segH_pass _ _ _ _ _ _ (hid_get HOPS 12 _ rfl) (wanted_some (hid_get HOPS 10 _ rfl) rfl rfl rfl) (fun _ _ _ _ h => h) ?_; simp only [Act.put, List.setIfInBounds_toArray, List.set_cons_zero, List.set_cons_succ]) | (refine segH_pure _ _ _ _ _ _ (hid_get HOPS 12 _ rfl) rfl (wanted_some (hid_get HOPS 10 _ rfl) rfl rfl rfl) (fun _ _ _ _ h => h) ?_; intro K hK; go_big_quiet_op; go_big_quiet_on) | (refine segH_pass _ _ _ _ _ _ (hid_get HOPS 12 _ rfl) (wanted_gone (hid_get HOPS 10 _ rfl) rfl rfl) (fun _ _ _ _ h => h) ?_; simp only [Act.put, List.setIfInBounds_toArray, List.set_cons_zero, List.set_cons_succ])
      first | (refine segH_pass _ _ _ _ _ _ (hid_get HOPS 13 _ rfl) (wanted_some (hid_get HOPS 10 _ rfl) rfl rfl rfl) (fun _ _ _ _ h => h) ?_; simp only [Act.put, List.setIfInBounds_toArray, List.set_cons_zero, List.set_cons_succ]) | (refine segH_pure _ _ _ _ _ _ (hid_get HOPS 13 _ rfl) rfl (wanted_some (hid_get HOPS 10 _ rfl) rfl rfl rfl) (fun _ _ _ _ h => h) ?_; intro K hK; go_big_quiet_op; go_big_quiet_on) | (refine segH_pass _ _ _ _ _ _ (hid_get HOPS 13 _ rfl) (wanted_gone (hid_get HOPS 10 _ rfl) rfl rfl) (fun _ _ _ _ h => h) ?_; simp only [Act.put, List.setIfInBounds_toArray, List.set_cons_zero, List.set_cons_succ])
      (refine segH_pure _ _ _ _ _ _ (hid_get HOPS 14 _ rfl) rfl wanted_none (fun _ _ _ _ h => h) ?_; intro K hK; go_big_quiet_op; go_big_quiet_on)
      (refine segH_pure _ _ _ _ _ _ (hid_get HOPS 15 _ rfl) rfl wanted_none (fun _ _ _ _ h => h) ?_; intro K hK; go_big_quiet_op; go_big_quiet_on)
      first | (refine segH_pass _ _ _ _ _ _ (hid_get HOPS 16 _ rfl) (wanted_some (hid_get HOPS 15 _ rfl) rfl rfl rfl) (fun _ _ _ _ h => h) ?_; simp only [Act.put, List.setIfInBounds_toArray, List.set_cons_zero, List.set_cons_succ]) | (refine segH_pure _ _ _ _ _ _ (hid_get HOPS 16 _ rfl) rfl (wanted_some (hid_get HOPS 15 _ rfl) rfl rfl rfl) (fun _ _ _ _ h => h) ?_; intro K hK; go_big_quiet_op; go_big_quiet_on) | (refine segH_pass _ _ _ _ _ _ (hid_get HOPS 16 _ rfl) (wanted_gone (hid_get HOPS 15 _ rfl) rfl rfl) (fun _ _ _ _ h => h) ?_; simp only [Act.put, List.setIfInBounds_toArray, List.set_cons_zero, List.set_cons_succ])
      first | (refine segH_pass _ _ _ _ _ _ (hid_get HOPS 17 _ rfl) (wanted_some (hid_get HOPS 15 _ rfl) rfl rfl rfl) (fun _ _ _ _ h => h) ?_; simp only [Act.put, List.setIfInBounds_toArray, List.set_cons_zero, List.set_cons_succ]) | (refine segH_pure _ _ _ _ _ _ (hid_get HOPS 17 _ rfl) rfl (wanted_some (hid_get HOPS 15 _ rfl) rfl rfl rfl) (fun _ _ _ _ h => h) ?_; intro K hK; go_big_quiet_op; go_big_quiet_on) | (refine segH_pass _ _ _ _ _ _ (hid_get HOPS 17 _ rfl) (wanted_gone (hid_get HOPS 15 _ rfl) rfl rfl) (fun _ _ _ _ h => h) ?_; simp only [Act.put, List.setIfInBounds_toArray, List.set_cons_zero, List.set_cons_succ])
      first | (refine segH_pass _ _ _ _ _ _ (hid_get HOPS 18 _ rfl) (wanted_some (hid_get HOPS 15 _ rfl) rfl rfl rfl) (fun _ _ _ _ h => h) ?_; simp only [Act.put, List.setIfInBounds_toArray, List.set_cons_zero, List.set_cons_succ]) | (refine segH_pure _ _ _ _ _ _ (hid_get HOPS 18 _ rfl) rfl (wanted_some (hid_get HOPS 15 _ rfl) rfl rfl rfl) (fun _ _ _ _ h => h) ?_; intro K hK; go_big_quiet_op; go_big_quiet_on) | (refine segH_pass _ _ _ _ _ _ (hid_get HOPS 18 _ rfl) (wanted_gone (hid_get HOPS 15 _ rfl) rfl rfl) (fun _ _ _ _ h => h) ?_; simp only [Act.put, List.setIfInBounds_toArray, List.set_cons_zero, List.set_cons_succ])
      (refine segH_pure _ _ _ _ _ _ (hid_get HOPS 19 _ rfl) rfl wanted_none (fun _ _ _ _ h => h) ?_; intro K hK; go_big_quiet_op; go_big_quiet_on)
      (refine segH_pure _ _ _ _ _ _ (hid_get HOPS 20 _ rfl) rfl wanted_none (fun _ _ _ _ h => h) ?_; intro K hK; go_big_quiet_op; go_big_quiet_on)
      first | (refine segH_pass _ _ _ _ _ _ (hid_get HOPS 21 _ rfl) (wanted_some (hid_get HOPS 20 _ rfl) rfl rfl rfl) (fun _ _ _ _ h => h) ?_; simp only [Act.put, List.setIfInBounds_toArray, List.set_cons_zero, List.set_cons_succ]) | (refine segH_pure _ _ _ _ _ _ (hid_get HOPS 21 _ rfl) rfl (wanted_some (hid_get HOPS 20 _ rfl) rfl rfl rfl) (fun _ _ _ _ h => h) ?_; intro K hK; go_big_quiet_op; go_big_quiet_on) | (refine segH_pass _ _ _ _ _ _ (hid_get HOPS 21 _ rfl) (wanted_gone (hid_get HOPS 20 _ rfl) rfl rfl) (fun _ _ _ _ h => h) ?_; simp only [Act.put, List.setIfInBounds_toArray, List.set_cons_zero, List.set_cons_succ])
      first | (refine segH_pass _ _ _ _ _ _ (hid_get HOPS 22 _ rfl) (wanted_some (hid_get HOPS 20 _ rfl) rfl rfl rfl) (fun _ _ _ _ h => h) ?_; simp only [Act.put, List.setIfInBounds_toArray, List.set_cons_zero, List.set_cons_succ]) | (refine segH_pure _ _ _ _ _ _ (hid_get HOPS 22 _ rfl) rfl (wanted_some (hid_get HOPS 20 _ rfl) rfl rfl rfl) (fun _ _ _ _ h => h) ?_; intro K hK; go_big_quiet_op; go_big_quiet_on) | (refine segH_pass _ _ _ _ _ _ (hid_get HOPS 22 _ rfl) (wanted_gone (hid_get HOPS 20 _ rfl) rfl rfl) (fun _ _ _ _ h => h) ?_; simp only [Act.put, List.setIfInBounds_toArray, List.set_cons_zero, List.set_cons_succ])
      first | (refine segH_pass _ _ _ _ _ _ (hid_get HOPS 23 _ rfl) (wanted_some (hid_get HOPS 20 _ rfl) rfl rfl rfl) (fun _ _ _ _ h => h) ?_; simp only [Act.put, List.setIfInBounds_toArray, List.set_cons_zero, List.set_cons_succ]) | (refine segH_pure _ _ _ _ _ _ (hid_get HOPS 23 _ rfl) rfl (wanted_some (hid_get HOPS 20 _ rfl) rfl rfl rfl) (fun _ _ _ _ h => h) ?_; intro K hK; go_big_quiet_op; go_big_quiet_on) | (refine segH_pass _ _ _ _ _ _ (hid_get HOPS 23 _ rfl) (wanted_gone (hid_get HOPS 20 _ rfl) rfl rfl) (fun _ _ _ _ h => h) ?_; simp only [Act.put, List.setIfInBounds_toArray, List.set_cons_zero, List.set_cons_succ])
      (refine segH_pure _ _ _ _ _ _ (hid_get HOPS 24 _ rfl) rfl wanted_none (fun _ _ _ _ h => h) ?_; intro K hK; go_big_quiet_op; go_big_quiet_on)
      (refine segH_pure _ _ _ _ _ _ (hid_get HOPS 25 _ rfl) rfl wanted_none (fun _ _ _ _ h => h) ?_; intro K hK; go_big_quiet_op; go_big_quiet_on)
      first | (refine segH_pass _ _ _ _ _ _ (hid_get HOPS 26 _ rfl) (wanted_some (hid_get HOPS 25 _ rfl) rfl rfl rfl) (fun _ _ _ _ h => h) ?_; simp only [Act.put, List.setIfInBounds_toArray, List.set_cons_zero, List.set_cons_succ]) | (refine segH_pure _ _ _ _ _ _ (hid_get HOPS 26 _ rfl) rfl (wanted_some (hid_get HOPS 25 _ rfl) rfl rfl rfl) (fun _ _ _ _ h => h) ?_; intro K hK; go_big_quiet_op; go_big_quiet_on) | (refine segH_pass _ _ _ _ _ _ (hid_get HOPS 26 _ rfl) (wanted_gone (hid_get HOPS 25 _ rfl) rfl rfl) (fun _ _ _ _ h => h) ?_; simp only [Act.put, List.setIfInBounds_toArray, List.set_cons_zero, List.set_cons_succ])
      first | (refine segH_pass _ _ _ _ _ _ (hid_get HOPS 28 _ rfl) (wanted_some (hid_get HOPS 25 _ rfl) rfl rfl rfl) (fun _ _ _ _ h => h) ?_; simp only [Act.put, List.setIfInBounds_toArray, List.set_cons_zero, List.set_cons_succ]) | (refine segH_pure _ _ _ _ _ _ (hid_get HOPS 28 _ rfl) rfl (wanted_some (hid_get HOPS 25 _ rfl) rfl rfl rfl) (fun _ _ _ _ h => h) ?_; intro K hK; go_big_quiet_op; go_big_quiet_on) | (refine segH_pass _ _ _ _ _ _ (hid_get HOPS 28 _ rfl) (wanted_gone (hid_get HOPS 25 _ rfl) rfl rfl) (fun _ _ _ _ h => h) ?_; simp only [Act.put, List.setIfInBounds_toArray, List.set_cons_zero, List.set_cons_succ])
      refine segH_makes _ _ _ _ _ _ (hid_get HOPS 27 _ rfl) (wanted_some (hid_get HOPS 25 _ rfl) rfl rfl rfl) (fun K hK => ?_)
      go_big_op
      refine (planName_any n _ HNB.out).mono ?_
      rintro e w9 ⟨rfl, y⟩
      have P4 := ext_trans P3 y
      refine hK _ _ (fun x => Ext v4 x) P4 (fun _ h => h) ?_
      clear hK y
      refine segH_makes _ _ _ _ _ _ (hid_get HOPS 29 _ rfl) (wanted_some (hid_get HOPS 25 _ rfl) rfl rfl rfl) (fun K hK => ?_)
      go_big_op
      refine (refName_any n _ HNB.out).mono ?_
      rintro e w10 ⟨rfl, y⟩
      have P5 := ext_trans P4 y
      refine hK _ _ (fun x => Ext v4 x) P5 (fun _ h => h) ?_
      clear hK y
      first | (refine segH_pass _ _ _ _ _ _ (hid_get HOPS 30 _ rfl) (wanted_some (hid_get HOPS 25 _ rfl) rfl rfl rfl) (fun _ _ _ _ h => h) ?_; simp only [Act.put, List.setIfInBounds_toArray, List.set_cons_zero, List.set_cons_succ]) | (refine segH_pure _ _ _ _ _ _ (hid_get HOPS 30 _ rfl) rfl (wanted_some (hid_get HOPS 25 _ rfl) rfl rfl rfl) (fun _ _ _ _ h => h) ?_; intro K hK; go_big_quiet_op; go_big_quiet_on) | (refine segH_pass _ _ _ _ _ _ (hid_get HOPS 30 _ rfl) (wanted_gone (hid_get HOPS 25 _ rfl) rfl rfl) (fun _ _ _ _ h => h) ?_; simp only [Act.put, List.setIfInBounds_toArray, List.set_cons_zero, List.set_cons_succ])
      (refine segH_pure _ _ _ _ _ _ (hid_get HOPS 31 _ rfl) rfl wanted_none (fun _ _ _ _ h => h) ?_; intro K hK; go_big_quiet_op; go_big_quiet_on)
      (refine segH_pure _ _ _ _ _ _ (hid_get HOPS 32 _ rfl) rfl wanted_none (fun _ _ _ _ h => h) ?_; intro K hK; go_big_quiet_op; go_big_quiet_on)
      refine seg_done ?_
      clear HOPS
      clear u0 u1 u2
      go_wp2
      go_ret
      exact ⟨rfl, ext_trans x0 (ext_trans y4 P5)⟩
end Go.Proofs.YtdknkbpgkkakhaaDoor
