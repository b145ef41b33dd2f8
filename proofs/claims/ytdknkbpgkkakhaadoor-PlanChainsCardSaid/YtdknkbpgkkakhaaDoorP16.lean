/- Layer 2: the law PlanChains, walked. -/
import Derived.Test.YtdknkbpgkkakhaaDoorP14
namespace Go.Proofs.YtdknkbpgkkakhaaDoor
open Go.RowKit

/-- The chain's text, x lines. -/
def chL (x : Nat) (p : ByteArray) : ByteArray := p ++ nam (x : Int) ++ ⟨#[62]⟩
def chN (x : Nat) (p : ByteArray) : ByteArray := if 0 < x then chL x p ++ nam ((x : Int) - 1) else chL x p
def chS : Nat → ByteArray
  | 0 => ⟨#[]⟩
  | x + 1 => chN x (chS x) ++ ⟨#[10]⟩
def chJ (i j x : Nat) (p : ByteArray) : ByteArray := if x = i ∧ j ≠ i ∧ (j : Int) ≠ (i : Int) - 1 then chN x p ++ nam (j : Int) else chN x p
def chT (i j : Nat) : Nat → ByteArray
  | 0 => ⟨#[]⟩
  | x + 1 => chJ i j x (chT i j x) ++ ⟨#[10]⟩
def chR (i j k : Nat) : Mat × Nat := if i < j then ([], 11) else (lchain (k : Int), 0)
theorem ch_all : ((List.range 7).all fun k => decide (k < 2) || (decide (parseM (chS k) = (lchain (k : Int), 0)) && decide (prUp (lchain (k : Int)) (levels (lchain (k : Int))) = chS k) && decide ((lchain (k : Int)).length = k) &&
    (List.range k).all fun i => (List.range k).all fun j => decide (parseM (chT i j k) = chR i j k))) = true := by decide +kernel
theorem ch_is {k : Nat} (h2 : 2 ≤ k) (h6 : k ≤ 6) : parseM (chS k) = (lchain (k : Int), 0) ∧ prUp (lchain (k : Int)) (levels (lchain (k : Int))) = chS k ∧ (lchain (k : Int)).length = k ∧ ∀ i j, i < k → j < k → parseM (chT i j k) = chR i j k := by
  have h := List.all_eq_true.1 ch_all k (List.mem_range.2 (by omega))
  simp only [Bool.or_eq_true, Bool.and_eq_true, decide_eq_true_eq, List.all_eq_true, List.mem_range] at h
  rcases h with h | ⟨⟨⟨h1, h3⟩, h4⟩, h5⟩
  · omega
  · exact ⟨h1, h3, h4, fun i j hi hj => h5 i hi j hj⟩
theorem chain_small {rs : List Rw} {k : Nat} (h : mat rs = lchain (k : Int)) : ∀ r ∈ rs, r.bs.length ≤ 100 := by
  intro r hr
  have h1 : r.bs ∈ lchain (k : Int) := by rw [← h]; exact List.mem_map_of_mem hr
  obtain ⟨a, _, ha⟩ := List.mem_map.1 h1
  have := chainK_le (k : Int)
  rw [← ha, chainRow_length]
  omega
theorem chN_size (x : Nat) (p : ByteArray) : (chN x p).size ≤ p.size + 3 := by
  have h1 := nam_size (x : Int)
  have h2 := nam_size ((x : Int) - 1)
  unfold chN chL
  split
  · rw [ByteArray.size_append, ByteArray.size_append, ByteArray.size_append]
    show p.size + (nam (x : Int)).size + 1 + _ ≤ _
    omega
  · rw [ByteArray.size_append, ByteArray.size_append]
    show p.size + (nam (x : Int)).size + 1 ≤ _
    omega
theorem chS_size : ∀ x, (chS x).size ≤ 4 * x
  | 0 => Nat.le_refl _
  | x + 1 => by
    have h1 := chS_size x
    have h2 := chN_size x (chS x)
    rw [chS, ByteArray.size_append]
    show _ + 1 ≤ _
    omega
theorem chJ_size (i j x : Nat) (p : ByteArray) : (chJ i j x p).size ≤ p.size + 4 := by
  have h1 := nam_size (j : Int)
  have h2 := chN_size x p
  unfold chJ
  split
  · rw [ByteArray.size_append]; omega
  · omega
theorem chT_size (i j : Nat) : ∀ x, (chT i j x).size ≤ 5 * x
  | 0 => Nat.le_refl _
  | x + 1 => by
    have h1 := chT_size i j x
    have h2 := chJ_size i j x (chT i j x)
    rw [chT, ByteArray.size_append]
    show _ + 1 ≤ _
    omega
set_option maxRecDepth 100000 in
set_option maxHeartbeats 4000000 in
theorem planChains_walk (n a b : Nat) (hn : n ≤ 255) (ha : a ≤ 255) (hb : b ≤ 255) (w : World) (m : Int) (hm : w.cell? ⟨0, 0, none⟩ = some (.int .i64 m)) :
    Calls Tryd.prog 6 #[.int .u8 (n : Int), .int .u8 (a : Int), .int .u8 (b : Int)] w fun e w' => e = .returned (.bool true) ∧ Ext w w' := by
  have hk := known_any w m hm
  go_enter Tryd.func6, Tryd.ntmps6
  go_wp2_with fail
  refine hk.mono ?_
  clear hk
  rintro e w1 ⟨rfl, x1⟩
  obtain ⟨k, hkk⟩ : ∃ k, k = n % 5 + 2 := ⟨_, rfl⟩
  have hkb : 2 ≤ k ∧ k ≤ 6 := by omega
  have HK : Hid ((n : Int) % 5 + 2 = (k : Int)) := by show _ = _; omega
  clear hkk
  go_upto_region 5 with fail
  rw [HK.out]
  have h62 : (⟨#[62]⟩ : ByteArray).size = 1 := rfl
  go_wp2_with fail
  go_loopw [8, 9] (fun t i wr => ∃ x : Nat, i = .int .i64 (x : Int) ∧ t = .string (chS x) ∧ x ≤ k ∧ Ext w wr) (fun _ i _ => k - (intOf i).toNat)
  case atStart => exact ⟨0, rfl, rfl, Nat.zero_le _, x1⟩
  case round =>
    clear x1
    obtain ⟨x, rfl, rfl, hx, hx1⟩ := hrel
    have hps := chS_size x
    have HS : Hid (chS (x + 1) = chN x (chS x) ++ ⟨#[10]⟩) := rfl
    obtain ⟨P, hP⟩ : ∃ P, P = chS x := ⟨_, rfl⟩
    have HP : Hid (chS x = P) := hP.symm
    rw [← hP] at hps HS
    rw [HP.out]
    clear hP
    by_cases hlt : x < k
    · have hn1 := nam_size (x : Int)
      have hn2 := nam_size ((x : Int) - 1)
      have q1 : P.size + (nam (x : Int)).size ≤ 1000 := by omega
      have q2 : (P ++ nam (x : Int)).size + 1 ≤ 1000 := by rw [ByteArray.size_append]; omega
      have q3 : (P ++ nam (x : Int) ++ ⟨#[62]⟩).size ≤ 900 := by rw [ByteArray.size_append, ByteArray.size_append, h62]; omega
      go_wp2_with fail
      refine (planName_any (x : Int) wr (by omega)).mono ?_
      rintro e w2 ⟨rfl, x2⟩
      by_cases h0 : 0 < x
      · have d0 : decide (0 < (x : Int)) = true := by rw [decide_eq_true_eq]; omega
        have HN : Hid (chN x P = P ++ nam (x : Int) ++ ⟨#[62]⟩ ++ nam ((x : Int) - 1)) := by show _ = _; rw [chN, if_pos h0]; rfl
        have q4 : (P ++ nam (x : Int) ++ ⟨#[62]⟩).size + (nam ((x : Int) - 1)).size ≤ 1000 := by omega
        have q5 : (P ++ nam (x : Int) ++ ⟨#[62]⟩ ++ nam ((x : Int) - 1)).size + 1 ≤ 1000 := by rw [ByteArray.size_append]; omega
        go_wp2_with fail
        refine (planName_any ((x : Int) - 1) w2 (by omega)).mono ?_
        rintro e w3 ⟨rfl, x3⟩
        go_wp2_with fail
        go_roundw
        case rel => exact ⟨x + 1, by go_num, by rw [HS.out, HN.out], hlt, ext_trans hx1 (ext_trans x2 x3)⟩
        case measure => simp [intOf]; omega
      · have d0 : decide (0 < (x : Int)) = false := by rw [decide_eq_false_iff_not]; omega
        have HN : Hid (chN x P = P ++ nam (x : Int) ++ ⟨#[62]⟩) := by show _ = _; rw [chN, if_neg h0]; rfl
        have q5 : (P ++ nam (x : Int) ++ ⟨#[62]⟩).size + 1 ≤ 1000 := by omega
        go_wp2_with fail
        go_roundw
        case rel => exact ⟨x + 1, by go_num, by rw [HS.out, HN.out], hlt, ext_trans hx1 x2⟩
        case measure => simp [intOf]; omega
    · obtain rfl : k = x := by omega
      obtain ⟨hc1, hc2, hc3, hc4⟩ := ch_is hkb.1 hkb.2
      rw [HP.out] at hc1 hc2
      have HC2 := Lib.hid hc2
      have HC3 := Lib.hid hc3
      have HC4 := Lib.hid hc4
      have h3 := planParse_is hc1 hc3 wr (by omega) (ext_cell hx1 hm)
      clear hc1 hc2 hc3 hc4 HS
      go_wp2_with fail
      refine h3.mono ?_
      clear h3
      rintro e w3 ⟨A3, c3, rs3, B3, rfl, hm3, hl3, hM3, x3⟩
      have HM3 : Hid (mat rs3 = lchain (k : Int)) := hm3
      have b3 := Blk.new w3 24 #[.slice A3 k c3]
      obtain ⟨g3, hg3⟩ : ∃ g3, g3 = w3.heap.size := ⟨_, rfl⟩
      rw [← hg3] at b3
      have hz3 := ext_alloc w3 (.cells #[.slice A3 k c3] 24)
      have y3 := ext_trans hx1 (ext_trans x3 hz3)
      have M3 := hM3.ext hz3
      go_upto_region 13 with fail
      rw [← hg3]
      clear hg3 x3 hz3 hM3 hm3
      generalize w3.alloc (.cells #[.slice A3 k c3] 24) = v3 at y3 b3 M3 ⊢
      obtain ⟨i, hi⟩ : ∃ i, i = a % k := ⟨_, rfl⟩
      obtain ⟨j, hj⟩ : ∃ j, j = b % k := ⟨_, rfl⟩
      have hik : i < k := by rw [hi]; exact Nat.mod_lt _ (by omega)
      have hjk : j < k := by rw [hj]; exact Nat.mod_lt _ (by omega)
      have HI : Hid ((a : Int) % (k : Int) = (i : Int)) := by show _ = _; rw [hi]; rfl
      have HJ : Hid ((b : Int) % (k : Int) = (j : Int)) := by show _ = _; rw [hj]; rfl
      clear hi hj
      have dk : ((k : Int) == 0) = false := by rw [beq_eq_false_iff_ne]; omega
      go_quiet (fail)
      go_upto_region 15 with fail
      rw [HI.out, HJ.out]
      have yq := ext_trans y3 (ext_drewN v3 nq)
      have bq := b3.ext (ext_drewN v3 nq)
      have Mq := M3.ext (ext_drewN v3 nq)
      clear y3 b3 M3 dk
      generalize v3.drewN nq = v4 at yq bq Mq ⊢
      go_wp2_with fail
      go_loopw [14, 15] (fun t y wr => ∃ x : Nat, y = .int .i64 (x : Int) ∧ t = .string (chT i j x) ∧ x ≤ k ∧ Ext v4 wr) (fun _ y _ => k - (intOf y).toNat)
      case atStart => exact ⟨0, rfl, rfl, Nat.zero_le _, Below.refl _ _⟩
      case round =>
        obtain ⟨x, rfl, rfl, hx', hx2⟩ := hrel
        have hps2 := chT_size i j x
        have HS : Hid (chT i j (x + 1) = chJ i j x (chT i j x) ++ ⟨#[10]⟩) := rfl
        obtain ⟨Q, hQ⟩ : ∃ Q, Q = chT i j x := ⟨_, rfl⟩
        have HQ : Hid (chT i j x = Q) := hQ.symm
        rw [← hQ] at hps2 HS
        rw [HQ.out]
        clear hQ
        by_cases hlt2 : x < k
        · have hn1 := nam_size (x : Int)
          have hn2 := nam_size ((x : Int) - 1)
          have hn3 := nam_size (j : Int)
          have hcn := chN_size x Q
          have q1 : Q.size + (nam (x : Int)).size ≤ 1000 := by omega
          have q2 : (Q ++ nam (x : Int)).size + 1 ≤ 1000 := by rw [ByteArray.size_append]; omega
          have q3 : (Q ++ nam (x : Int) ++ ⟨#[62]⟩).size ≤ 900 := by rw [ByteArray.size_append, ByteArray.size_append, h62]; omega
          go_wp2_with fail
          refine (planName_any (x : Int) wr (by omega)).mono ?_
          rintro e w5 ⟨rfl, x5⟩
          have xs5 := ext_trans hx2 x5
          go_upto_if 67 with fail
          go_cut [14] (fun s wc => s = .string (chN x Q) ∧ Ext v4 wc)
          case first =>
            by_cases h0 : 0 < x
            · have d0 : decide (0 < (x : Int)) = true := by rw [decide_eq_true_eq]; omega
              have HN : Hid (chN x Q = Q ++ nam (x : Int) ++ ⟨#[62]⟩ ++ nam ((x : Int) - 1)) := by show _ = _; rw [chN, if_pos h0]; rfl
              have q4 : (Q ++ nam (x : Int) ++ ⟨#[62]⟩).size + (nam ((x : Int) - 1)).size ≤ 1000 := by omega
              go_wp2_with fail
              refine (planName_any ((x : Int) - 1) w5 (by omega)).mono ?_
              rintro e w6 ⟨rfl, x6⟩
              go_wp2_with fail
              go_meet
              exact ⟨by rw [HN.out], ext_trans xs5 x6⟩
            · have d0 : decide (0 < (x : Int)) = false := by rw [decide_eq_false_iff_not]; omega
              have HN : Hid (chN x Q = Q ++ nam (x : Int) ++ ⟨#[62]⟩) := by show _ = _; rw [chN, if_neg h0]; rfl
              go_wp2_with fail
              go_meet
              exact ⟨by rw [HN.out], xs5⟩
          case rest =>
            obtain ⟨rfl, hxc⟩ := hcut
            clear xs5 hx2 x5
            obtain ⟨R, hR⟩ : ∃ R, R = chN x Q := ⟨_, rfl⟩
            have HR : Hid (chN x Q = R) := hR.symm
            rw [← hR] at hcn
            rw [HR.out]
            clear hR q1 q2 q3 hn1 hn2
            have q4 : R.size + 1 ≤ 1000 := by omega
            by_cases e1 : x = i
            · have b1 : ((x : Int) == (i : Int)) = true := by rw [beq_iff_eq]; omega
              by_cases e2 : j = i
              · have b2 : ((j : Int) != (i : Int)) = false := by rw [bne_eq_false_iff_eq]; omega
                have HJ2 : Hid (chJ i j x Q = R) := by show _ = _; rw [chJ, if_neg (by omega), HR.out]
                clear e1 e2
                go_wp2_with fail
                go_roundw
                case rel => exact ⟨x + 1, by go_num, by rw [HS.out, HJ2.out], hlt2, hxc⟩
                case measure => simp [intOf]; omega
              · have b2 : ((j : Int) != (i : Int)) = true := by rw [bne_iff_ne]; omega
                by_cases e3 : (j : Int) = (i : Int) - 1
                · have b3 : ((j : Int) != (i : Int) - 1) = false := by rw [bne_eq_false_iff_eq]; omega
                  have HJ2 : Hid (chJ i j x Q = R) := by show _ = _; rw [chJ, if_neg (by omega), HR.out]
                  clear e1 e2 e3
                  go_wp2_with fail
                  go_roundw
                  case rel => exact ⟨x + 1, by go_num, by rw [HS.out, HJ2.out], hlt2, hxc⟩
                  case measure => simp [intOf]; omega
                · have b3 : ((j : Int) != (i : Int) - 1) = true := by rw [bne_iff_ne]; omega
                  have HJ2 : Hid (chJ i j x Q = R ++ nam (j : Int)) := by show _ = _; rw [chJ, if_pos ⟨e1, e2, e3⟩, HR.out]
                  have q5 : R.size + (nam (j : Int)).size ≤ 1000 := by omega
                  have q6 : (R ++ nam (j : Int)).size + 1 ≤ 1000 := by rw [ByteArray.size_append]; omega
                  clear e1 e2 e3
                  go_wp2_with fail
                  refine (planName_any (j : Int) wc (by omega)).mono ?_
                  rintro e w6 ⟨rfl, x6⟩
                  go_wp2_with fail
                  go_roundw
                  case rel => exact ⟨x + 1, by go_num, by rw [HS.out, HJ2.out], hlt2, ext_trans hxc x6⟩
                  case measure => simp [intOf]; omega
            · have b1 : ((x : Int) == (i : Int)) = false := by rw [beq_eq_false_iff_ne]; omega
              have HJ2 : Hid (chJ i j x Q = R) := by show _ = _; rw [chJ, if_neg (by omega), HR.out]
              clear e1
              go_wp2_with fail
              go_roundw
              case rel => exact ⟨x + 1, by go_num, by rw [HS.out, HJ2.out], hlt2, hxc⟩
              case measure => simp [intOf]; omega
        · obtain rfl : k = x := by omega
          have hpt := HC4.out i j hik hjk
          rw [HQ.out] at hpt
          have bx := bq.ext hx2
          have Mx := Mq.ext hx2
          have yx := ext_trans yq hx2
          clear bq Mq yq hx2 HS
          by_cases hji : i < j
          · have hpt2 : parseM Q = ([], 11) := by rw [hpt, chR, if_pos hji]
            have h4 := planParse_is hpt2 (n := 0) rfl wr (by omega) (ext_cell yx hm)
            clear hpt hpt2
            go_wp2_with fail
            refine h4.mono ?_
            clear h4
            rintro e w5 ⟨A4, c4, rs4, B4, rfl, hm4, hl4, hM4, x5⟩
            have b4 := Blk.new w5 24 #[.slice A4 0 c4]
            obtain ⟨g4, hg4⟩ : ∃ g4, g4 = w5.heap.size := ⟨_, rfl⟩
            rw [← hg4] at b4
            have hz5 := ext_alloc w5 (.cells #[.slice A4 0 c4] 24)
            have x6 := ext_trans x5 hz5
            have y6 := ext_trans yx x6
            have M4 := hM4.ext hz5
            have M6 := Mx.ext x6
            have b6 := bx.ext x6
            have HM4 := Lib.hid hm4
            go_upto_region 25 with fail
            rw [← hg4]
            clear hg4 x5 hz5 x6 hM4 hm4 bx Mx yx
            generalize w5.alloc (.cells #[.slice A4 0 c4] 24) = v5 at y6 b4 b6 M4 M6 ⊢
            have p3 := b6.cell 0
            have p4 := b4.cell 0
            simp only [List.getElem?_toArray, List.getElem?_cons_zero] at p3 p4
            have u0 := fun x (h : Ext v5 x) => ext_cell h p3
            have u1 := fun x (h : Ext v5 x) => ext_cell h p4
            have hd := ext_drewN v5 1
            have dji : decide ((i : Int) < (j : Int)) = true := by rw [decide_eq_true_eq]; omega
            have djn : decide (i < j) = true := by rw [decide_eq_true_eq]; omega
            have hbp : (P.toList == P.toList) = true := (beq_bytes P P).2 rfl
            have HSMALL : Hid (∀ r ∈ rs3, r.bs.length ≤ 100) := chain_small HM3.out
            clear p3 p4 hji
            refine wp_region_planH3 (.reads 0 (.reads 1 (.reads 2 (.reads 3 (.reads 4 (.makes 5 (.makes 6 (.reads 7 (.reads 8 (.reads 9 (.reads 11 (.makes 10 (.reads 12 (.reads 13 (.reads 14 (.reads 15 (.reads 16 (.reads 17 (.reads 18 (.reads 19 (.reads 20 (.reads 21 (.reads 22 (.reads 23 (.reads 24 (.reads 25 (.reads 26 (.reads 27 (.reads 28 (.reads 29 (.reads 30 (.reads 31 (.reads 32 (.reads 33 (.reads 34 (.reads 35 (.reads 36 (.reads 37 (.makes 38 (.reads 39 (.reads 40 (.reads 41 (.done))))))))))))))))))))))))))))))))))))))))))) (by kernel_rfl) (by kernel_rfl) (fun x => Ext v5 x) (ext_drewN v5 1) (fun ops HOPS => ?_)
            (refine segH_pure _ _ _ _ _ _ (hid_get HOPS 0 _ rfl) rfl wanted_none (fun _ _ _ _ h => h) ?_; intro K hK; go_big_quiet_op; go_big_quiet_on)
            (refine segH_pure _ _ _ _ _ _ (hid_get HOPS 1 _ rfl) rfl wanted_none (fun _ _ _ _ h => h) ?_; intro K hK; go_big_quiet_op; go_big_quiet_on)
            (refine segH_pure _ _ _ _ _ _ (hid_get HOPS 2 _ rfl) rfl wanted_none (fun _ _ _ _ h => h) ?_; intro K hK; go_big_quiet_op; go_big_quiet_on)
            first | (refine segH_pass _ _ _ _ _ _ (hid_get HOPS 3 _ rfl) (wanted_some (hid_get HOPS 2 _ rfl) rfl rfl rfl) (fun _ _ _ _ h => h) ?_; simp only [Act.put, List.setIfInBounds_toArray, List.set_cons_zero, List.set_cons_succ]) | (refine segH_load _ _ _ _ _ _ _ _ _ (hid_get HOPS 3 _ rfl) (wanted_some (hid_get HOPS 2 _ rfl) rfl rfl rfl) rfl (fun _ _ _ _ h => h) (fun y hy => by go_simp; try with_reducible rfl) ?_; simp only [Act.put, List.setIfInBounds_toArray, List.set_cons_zero, List.set_cons_succ]) | (refine segH_pass _ _ _ _ _ _ (hid_get HOPS 3 _ rfl) (wanted_gone (hid_get HOPS 2 _ rfl) rfl rfl) (fun _ _ _ _ h => h) ?_; simp only [Act.put, List.setIfInBounds_toArray, List.set_cons_zero, List.set_cons_succ])
            first | (refine segH_pass _ _ _ _ _ _ (hid_get HOPS 4 _ rfl) (wanted_some (hid_get HOPS 2 _ rfl) rfl rfl rfl) (fun _ _ _ _ h => h) ?_; simp only [Act.put, List.setIfInBounds_toArray, List.set_cons_zero, List.set_cons_succ]) | (refine segH_pure _ _ _ _ _ _ (hid_get HOPS 4 _ rfl) rfl (wanted_some (hid_get HOPS 2 _ rfl) rfl rfl rfl) (fun _ _ _ _ h => h) ?_; intro K hK; go_big_quiet_op; go_big_quiet_on) | (refine segH_pass _ _ _ _ _ _ (hid_get HOPS 4 _ rfl) (wanted_gone (hid_get HOPS 2 _ rfl) rfl rfl) (fun _ _ _ _ h => h) ?_; simp only [Act.put, List.setIfInBounds_toArray, List.set_cons_zero, List.set_cons_succ])
            refine segH_makes _ _ _ _ _ _ (hid_get HOPS 5 _ rfl) (wanted_some (hid_get HOPS 2 _ rfl) rfl rfl rfl) (fun K hK => ?_)
            go_big_op
            refine (refChain_is k _ (by omega) HC3.out).mono ?_
            rintro e w7 ⟨A7, c7, rs7, B7, rfl, hm7, hl7, hM7, y⟩
            have P1 := ext_trans hd y
            refine hK _ _ (fun x => Ext v5 x) P1 (fun _ h => h) ?_
            clear hK y
            refine segH_makes _ _ _ _ _ _ (hid_get HOPS 6 _ rfl) (wanted_some (hid_get HOPS 2 _ rfl) rfl rfl rfl) (fun K hK => ?_)
            go_big_op
            have hsm := same_is (c := c3) (c' := c7) (M6.ext P1) hM7 hl3 hl7 (by omega) HSMALL.out (b := true) (by rw [HM3.out, hm7.out]; exact sameMat_self _)
            refine hsm.mono ?_
            clear hsm hM7 hm7
            rintro e w8 ⟨rfl, y⟩
            have P2 := ext_trans P1 y
            refine hK _ _ (fun x => Ext v5 x) P2 (fun _ h => h) ?_
            clear hK y
            (refine segH_pure _ _ _ _ _ _ (hid_get HOPS 7 _ rfl) rfl wanted_none (fun _ _ _ _ h => h) ?_; intro K hK; go_big_quiet_op; go_big_quiet_on)
            (refine segH_pure _ _ _ _ _ _ (hid_get HOPS 8 _ rfl) rfl wanted_none (fun _ _ _ _ h => h) ?_; intro K hK; go_big_quiet_op; go_big_quiet_on)
            first | (refine segH_pass _ _ _ _ _ _ (hid_get HOPS 9 _ rfl) (wanted_some (hid_get HOPS 8 _ rfl) rfl rfl rfl) (fun _ _ _ _ h => h) ?_; simp only [Act.put, List.setIfInBounds_toArray, List.set_cons_zero, List.set_cons_succ]) | (refine segH_load _ _ _ _ _ _ _ _ _ (hid_get HOPS 9 _ rfl) (wanted_some (hid_get HOPS 8 _ rfl) rfl rfl rfl) rfl (fun _ _ _ _ h => h) (fun y hy => by go_simp; try with_reducible rfl) ?_; simp only [Act.put, List.setIfInBounds_toArray, List.set_cons_zero, List.set_cons_succ]) | (refine segH_pass _ _ _ _ _ _ (hid_get HOPS 9 _ rfl) (wanted_gone (hid_get HOPS 8 _ rfl) rfl rfl) (fun _ _ _ _ h => h) ?_; simp only [Act.put, List.setIfInBounds_toArray, List.set_cons_zero, List.set_cons_succ])
            first | (refine segH_pass _ _ _ _ _ _ (hid_get HOPS 11 _ rfl) (wanted_some (hid_get HOPS 8 _ rfl) rfl rfl rfl) (fun _ _ _ _ h => h) ?_; simp only [Act.put, List.setIfInBounds_toArray, List.set_cons_zero, List.set_cons_succ]) | (refine segH_pure _ _ _ _ _ _ (hid_get HOPS 11 _ rfl) rfl (wanted_some (hid_get HOPS 8 _ rfl) rfl rfl rfl) (fun _ _ _ _ h => h) ?_; intro K hK; go_big_quiet_op; go_big_quiet_on) | (refine segH_pass _ _ _ _ _ _ (hid_get HOPS 11 _ rfl) (wanted_gone (hid_get HOPS 8 _ rfl) rfl rfl) (fun _ _ _ _ h => h) ?_; simp only [Act.put, List.setIfInBounds_toArray, List.set_cons_zero, List.set_cons_succ])
            refine segH_makes _ _ _ _ _ _ (hid_get HOPS 10 _ rfl) (wanted_some (hid_get HOPS 8 _ rfl) rfl rfl rfl) (fun K hK => ?_)
            go_big_op
            have hpr := print_is (c := c3) (M6.ext P2) HM3 hl3 (by omega) HC2.out
            refine hpr.mono ?_
            clear hpr
            rintro e w9 ⟨rfl, y⟩
            have P3 := ext_trans P2 y
            refine hK _ _ (fun x => Ext v5 x) P3 (fun _ h => h) ?_
            clear hK y
            first | (refine segH_pass _ _ _ _ _ _ (hid_get HOPS 12 _ rfl) (wanted_some (hid_get HOPS 8 _ rfl) rfl rfl rfl) (fun _ _ _ _ h => h) ?_; simp only [Act.put, List.setIfInBounds_toArray, List.set_cons_zero, List.set_cons_succ]) | (refine segH_pure _ _ _ _ _ _ (hid_get HOPS 12 _ rfl) rfl (wanted_some (hid_get HOPS 8 _ rfl) rfl rfl rfl) (fun _ _ _ _ h => h) ?_; intro K hK; go_big_quiet_op; go_big_quiet_on) | (refine segH_pass _ _ _ _ _ _ (hid_get HOPS 12 _ rfl) (wanted_gone (hid_get HOPS 8 _ rfl) rfl rfl) (fun _ _ _ _ h => h) ?_; simp only [Act.put, List.setIfInBounds_toArray, List.set_cons_zero, List.set_cons_succ])
            (refine segH_pure _ _ _ _ _ _ (hid_get HOPS 13 _ rfl) rfl wanted_none (fun _ _ _ _ h => h) ?_; intro K hK; go_big_quiet_op; go_big_quiet_on)
            (refine segH_pure _ _ _ _ _ _ (hid_get HOPS 14 _ rfl) rfl wanted_none (fun _ _ _ _ h => h) ?_; intro K hK; go_big_quiet_op; go_big_quiet_on)
            first | (refine segH_pass _ _ _ _ _ _ (hid_get HOPS 15 _ rfl) (wanted_some (hid_get HOPS 14 _ rfl) rfl rfl rfl) (fun _ _ _ _ h => h) ?_; simp only [Act.put, List.setIfInBounds_toArray, List.set_cons_zero, List.set_cons_succ]) | (refine segH_pure _ _ _ _ _ _ (hid_get HOPS 15 _ rfl) rfl (wanted_some (hid_get HOPS 14 _ rfl) rfl rfl rfl) (fun _ _ _ _ h => h) ?_; intro K hK; go_big_quiet_op; go_big_quiet_on) | (refine segH_pass _ _ _ _ _ _ (hid_get HOPS 15 _ rfl) (wanted_gone (hid_get HOPS 14 _ rfl) rfl rfl) (fun _ _ _ _ h => h) ?_; simp only [Act.put, List.setIfInBounds_toArray, List.set_cons_zero, List.set_cons_succ])
            first | (refine segH_pass _ _ _ _ _ _ (hid_get HOPS 16 _ rfl) (wanted_some (hid_get HOPS 14 _ rfl) rfl rfl rfl) (fun _ _ _ _ h => h) ?_; simp only [Act.put, List.setIfInBounds_toArray, List.set_cons_zero, List.set_cons_succ]) | (refine segH_pure _ _ _ _ _ _ (hid_get HOPS 16 _ rfl) rfl (wanted_some (hid_get HOPS 14 _ rfl) rfl rfl rfl) (fun _ _ _ _ h => h) ?_; intro K hK; go_big_quiet_op; go_big_quiet_on) | (refine segH_pass _ _ _ _ _ _ (hid_get HOPS 16 _ rfl) (wanted_gone (hid_get HOPS 14 _ rfl) rfl rfl) (fun _ _ _ _ h => h) ?_; simp only [Act.put, List.setIfInBounds_toArray, List.set_cons_zero, List.set_cons_succ])
            first | (refine segH_pass _ _ _ _ _ _ (hid_get HOPS 17 _ rfl) (wanted_some (hid_get HOPS 14 _ rfl) rfl rfl rfl) (fun _ _ _ _ h => h) ?_; simp only [Act.put, List.setIfInBounds_toArray, List.set_cons_zero, List.set_cons_succ]) | (refine segH_pure _ _ _ _ _ _ (hid_get HOPS 17 _ rfl) rfl (wanted_some (hid_get HOPS 14 _ rfl) rfl rfl rfl) (fun _ _ _ _ h => h) ?_; intro K hK; go_big_quiet_op; go_big_quiet_on) | (refine segH_pass _ _ _ _ _ _ (hid_get HOPS 17 _ rfl) (wanted_gone (hid_get HOPS 14 _ rfl) rfl rfl) (fun _ _ _ _ h => h) ?_; simp only [Act.put, List.setIfInBounds_toArray, List.set_cons_zero, List.set_cons_succ])
            first | (refine segH_pass _ _ _ _ _ _ (hid_get HOPS 18 _ rfl) (wanted_some (hid_get HOPS 14 _ rfl) rfl rfl rfl) (fun _ _ _ _ h => h) ?_; simp only [Act.put, List.setIfInBounds_toArray, List.set_cons_zero, List.set_cons_succ]) | (refine segH_pure _ _ _ _ _ _ (hid_get HOPS 18 _ rfl) rfl (wanted_some (hid_get HOPS 14 _ rfl) rfl rfl rfl) (fun _ _ _ _ h => h) ?_; intro K hK; go_big_quiet_op; go_big_quiet_on) | (refine segH_pass _ _ _ _ _ _ (hid_get HOPS 18 _ rfl) (wanted_gone (hid_get HOPS 14 _ rfl) rfl rfl) (fun _ _ _ _ h => h) ?_; simp only [Act.put, List.setIfInBounds_toArray, List.set_cons_zero, List.set_cons_succ])
            first | (refine segH_pass _ _ _ _ _ _ (hid_get HOPS 19 _ rfl) (wanted_some (hid_get HOPS 14 _ rfl) rfl rfl rfl) (fun _ _ _ _ h => h) ?_; simp only [Act.put, List.setIfInBounds_toArray, List.set_cons_zero, List.set_cons_succ]) | (refine segH_pure _ _ _ _ _ _ (hid_get HOPS 19 _ rfl) rfl (wanted_some (hid_get HOPS 14 _ rfl) rfl rfl rfl) (fun _ _ _ _ h => h) ?_; intro K hK; go_big_quiet_op; go_big_quiet_on) | (refine segH_pass _ _ _ _ _ _ (hid_get HOPS 19 _ rfl) (wanted_gone (hid_get HOPS 14 _ rfl) rfl rfl) (fun _ _ _ _ h => h) ?_; simp only [Act.put, List.setIfInBounds_toArray, List.set_cons_zero, List.set_cons_succ])
            first | (refine segH_pass _ _ _ _ _ _ (hid_get HOPS 20 _ rfl) (wanted_some (hid_get HOPS 14 _ rfl) rfl rfl rfl) (fun _ _ _ _ h => h) ?_; simp only [Act.put, List.setIfInBounds_toArray, List.set_cons_zero, List.set_cons_succ]) | (refine segH_pure _ _ _ _ _ _ (hid_get HOPS 20 _ rfl) rfl (wanted_some (hid_get HOPS 14 _ rfl) rfl rfl rfl) (fun _ _ _ _ h => h) ?_; intro K hK; go_big_quiet_op; go_big_quiet_on) | (refine segH_pass _ _ _ _ _ _ (hid_get HOPS 20 _ rfl) (wanted_gone (hid_get HOPS 14 _ rfl) rfl rfl) (fun _ _ _ _ h => h) ?_; simp only [Act.put, List.setIfInBounds_toArray, List.set_cons_zero, List.set_cons_succ])
            (refine segH_pure _ _ _ _ _ _ (hid_get HOPS 21 _ rfl) rfl wanted_none (fun _ _ _ _ h => h) ?_; intro K hK; go_big_quiet_op; go_big_quiet_on)
            (refine segH_pure _ _ _ _ _ _ (hid_get HOPS 22 _ rfl) rfl wanted_none (fun _ _ _ _ h => h) ?_; intro K hK; go_big_quiet_op; go_big_quiet_on)
            first | (refine segH_pass _ _ _ _ _ _ (hid_get HOPS 23 _ rfl) (wanted_some (hid_get HOPS 22 _ rfl) rfl rfl rfl) (fun _ _ _ _ h => h) ?_; simp only [Act.put, List.setIfInBounds_toArray, List.set_cons_zero, List.set_cons_succ]) | (refine segH_pure _ _ _ _ _ _ (hid_get HOPS 23 _ rfl) rfl (wanted_some (hid_get HOPS 22 _ rfl) rfl rfl rfl) (fun _ _ _ _ h => h) ?_; intro K hK; go_big_quiet_op; go_big_quiet_on) | (refine segH_pass _ _ _ _ _ _ (hid_get HOPS 23 _ rfl) (wanted_gone (hid_get HOPS 22 _ rfl) rfl rfl) (fun _ _ _ _ h => h) ?_; simp only [Act.put, List.setIfInBounds_toArray, List.set_cons_zero, List.set_cons_succ])
            first | (refine segH_pass _ _ _ _ _ _ (hid_get HOPS 24 _ rfl) (wanted_some (hid_get HOPS 22 _ rfl) rfl rfl rfl) (fun _ _ _ _ h => h) ?_; simp only [Act.put, List.setIfInBounds_toArray, List.set_cons_zero, List.set_cons_succ]) | (refine segH_pure _ _ _ _ _ _ (hid_get HOPS 24 _ rfl) rfl (wanted_some (hid_get HOPS 22 _ rfl) rfl rfl rfl) (fun _ _ _ _ h => h) ?_; intro K hK; go_big_quiet_op; go_big_quiet_on) | (refine segH_pass _ _ _ _ _ _ (hid_get HOPS 24 _ rfl) (wanted_gone (hid_get HOPS 22 _ rfl) rfl rfl) (fun _ _ _ _ h => h) ?_; simp only [Act.put, List.setIfInBounds_toArray, List.set_cons_zero, List.set_cons_succ])
            first | (refine segH_pass _ _ _ _ _ _ (hid_get HOPS 25 _ rfl) (wanted_some (hid_get HOPS 22 _ rfl) rfl rfl rfl) (fun _ _ _ _ h => h) ?_; simp only [Act.put, List.setIfInBounds_toArray, List.set_cons_zero, List.set_cons_succ]) | (refine segH_pure _ _ _ _ _ _ (hid_get HOPS 25 _ rfl) rfl (wanted_some (hid_get HOPS 22 _ rfl) rfl rfl rfl) (fun _ _ _ _ h => h) ?_; intro K hK; go_big_quiet_op; go_big_quiet_on) | (refine segH_pass _ _ _ _ _ _ (hid_get HOPS 25 _ rfl) (wanted_gone (hid_get HOPS 22 _ rfl) rfl rfl) (fun _ _ _ _ h => h) ?_; simp only [Act.put, List.setIfInBounds_toArray, List.set_cons_zero, List.set_cons_succ])
            first | (refine segH_pass _ _ _ _ _ _ (hid_get HOPS 26 _ rfl) (wanted_some (hid_get HOPS 25 _ rfl) rfl rfl rfl) (fun _ _ _ _ h => h) ?_; simp only [Act.put, List.setIfInBounds_toArray, List.set_cons_zero, List.set_cons_succ]) | (refine segH_pure _ _ _ _ _ _ (hid_get HOPS 26 _ rfl) rfl (wanted_some (hid_get HOPS 25 _ rfl) rfl rfl rfl) (fun _ _ _ _ h => h) ?_; intro K hK; go_big_quiet_op; go_big_quiet_on) | (refine segH_pass _ _ _ _ _ _ (hid_get HOPS 26 _ rfl) (wanted_gone (hid_get HOPS 25 _ rfl) rfl rfl) (fun _ _ _ _ h => h) ?_; simp only [Act.put, List.setIfInBounds_toArray, List.set_cons_zero, List.set_cons_succ])
            first | (refine segH_pass _ _ _ _ _ _ (hid_get HOPS 27 _ rfl) (wanted_some (hid_get HOPS 25 _ rfl) rfl rfl rfl) (fun _ _ _ _ h => h) ?_; simp only [Act.put, List.setIfInBounds_toArray, List.set_cons_zero, List.set_cons_succ]) | (refine segH_load _ _ _ _ _ _ _ _ _ (hid_get HOPS 27 _ rfl) (wanted_some (hid_get HOPS 25 _ rfl) rfl rfl rfl) rfl (fun _ _ _ _ h => h) (fun y hy => by go_simp; try with_reducible rfl) ?_; simp only [Act.put, List.setIfInBounds_toArray, List.set_cons_zero, List.set_cons_succ]) | (refine segH_pass _ _ _ _ _ _ (hid_get HOPS 27 _ rfl) (wanted_gone (hid_get HOPS 25 _ rfl) rfl rfl) (fun _ _ _ _ h => h) ?_; simp only [Act.put, List.setIfInBounds_toArray, List.set_cons_zero, List.set_cons_succ])
            first | (refine segH_pass _ _ _ _ _ _ (hid_get HOPS 28 _ rfl) (wanted_some (hid_get HOPS 25 _ rfl) rfl rfl rfl) (fun _ _ _ _ h => h) ?_; simp only [Act.put, List.setIfInBounds_toArray, List.set_cons_zero, List.set_cons_succ]) | (refine segH_pure _ _ _ _ _ _ (hid_get HOPS 28 _ rfl) rfl (wanted_some (hid_get HOPS 25 _ rfl) rfl rfl rfl) (fun _ _ _ _ h => h) ?_; intro K hK; go_big_quiet_op; go_big_quiet_on) | (refine segH_pass _ _ _ _ _ _ (hid_get HOPS 28 _ rfl) (wanted_gone (hid_get HOPS 25 _ rfl) rfl rfl) (fun _ _ _ _ h => h) ?_; simp only [Act.put, List.setIfInBounds_toArray, List.set_cons_zero, List.set_cons_succ])
            first | (refine segH_pass _ _ _ _ _ _ (hid_get HOPS 29 _ rfl) (wanted_some (hid_get HOPS 25 _ rfl) rfl rfl rfl) (fun _ _ _ _ h => h) ?_; simp only [Act.put, List.setIfInBounds_toArray, List.set_cons_zero, List.set_cons_succ]) | (refine segH_pure _ _ _ _ _ _ (hid_get HOPS 29 _ rfl) rfl (wanted_some (hid_get HOPS 25 _ rfl) rfl rfl rfl) (fun _ _ _ _ h => h) ?_; intro K hK; go_big_quiet_op; go_big_quiet_on) | (refine segH_pass _ _ _ _ _ _ (hid_get HOPS 29 _ rfl) (wanted_gone (hid_get HOPS 25 _ rfl) rfl rfl) (fun _ _ _ _ h => h) ?_; simp only [Act.put, List.setIfInBounds_toArray, List.set_cons_zero, List.set_cons_succ])
            first | (refine segH_pass _ _ _ _ _ _ (hid_get HOPS 30 _ rfl) (wanted_some (hid_get HOPS 22 _ rfl) rfl rfl rfl) (fun _ _ _ _ h => h) ?_; simp only [Act.put, List.setIfInBounds_toArray, List.set_cons_zero, List.set_cons_succ]) | (refine segH_pure _ _ _ _ _ _ (hid_get HOPS 30 _ rfl) rfl (wanted_some (hid_get HOPS 22 _ rfl) rfl rfl rfl) (fun _ _ _ _ h => h) ?_; intro K hK; go_big_quiet_op; go_big_quiet_on) | (refine segH_pass _ _ _ _ _ _ (hid_get HOPS 30 _ rfl) (wanted_gone (hid_get HOPS 22 _ rfl) rfl rfl) (fun _ _ _ _ h => h) ?_; simp only [Act.put, List.setIfInBounds_toArray, List.set_cons_zero, List.set_cons_succ])
            (refine segH_pure _ _ _ _ _ _ (hid_get HOPS 31 _ rfl) rfl wanted_none (fun _ _ _ _ h => h) ?_; intro K hK; go_big_quiet_op; go_big_quiet_on)
            (refine segH_pure _ _ _ _ _ _ (hid_get HOPS 32 _ rfl) rfl wanted_none (fun _ _ _ _ h => h) ?_; intro K hK; go_big_quiet_op; go_big_quiet_on)
            first | (refine segH_pass _ _ _ _ _ _ (hid_get HOPS 33 _ rfl) (wanted_some (hid_get HOPS 32 _ rfl) rfl rfl rfl) (fun _ _ _ _ h => h) ?_; simp only [Act.put, List.setIfInBounds_toArray, List.set_cons_zero, List.set_cons_succ]) | (refine segH_pure _ _ _ _ _ _ (hid_get HOPS 33 _ rfl) rfl (wanted_some (hid_get HOPS 32 _ rfl) rfl rfl rfl) (fun _ _ _ _ h => h) ?_; intro K hK; go_big_quiet_op; go_big_quiet_on) | (refine segH_pass _ _ _ _ _ _ (hid_get HOPS 33 _ rfl) (wanted_gone (hid_get HOPS 32 _ rfl) rfl rfl) (fun _ _ _ _ h => h) ?_; simp only [Act.put, List.setIfInBounds_toArray, List.set_cons_zero, List.set_cons_succ])
            first | (refine segH_pass _ _ _ _ _ _ (hid_get HOPS 34 _ rfl) (wanted_some (hid_get HOPS 32 _ rfl) rfl rfl rfl) (fun _ _ _ _ h => h) ?_; simp only [Act.put, List.setIfInBounds_toArray, List.set_cons_zero, List.set_cons_succ]) | (refine segH_pure _ _ _ _ _ _ (hid_get HOPS 34 _ rfl) rfl (wanted_some (hid_get HOPS 32 _ rfl) rfl rfl rfl) (fun _ _ _ _ h => h) ?_; intro K hK; go_big_quiet_op; go_big_quiet_on) | (refine segH_pass _ _ _ _ _ _ (hid_get HOPS 34 _ rfl) (wanted_gone (hid_get HOPS 32 _ rfl) rfl rfl) (fun _ _ _ _ h => h) ?_; simp only [Act.put, List.setIfInBounds_toArray, List.set_cons_zero, List.set_cons_succ])
            first | (refine segH_pass _ _ _ _ _ _ (hid_get HOPS 35 _ rfl) (wanted_some (hid_get HOPS 32 _ rfl) rfl rfl rfl) (fun _ _ _ _ h => h) ?_; simp only [Act.put, List.setIfInBounds_toArray, List.set_cons_zero, List.set_cons_succ]) | (refine segH_pure _ _ _ _ _ _ (hid_get HOPS 35 _ rfl) rfl (wanted_some (hid_get HOPS 32 _ rfl) rfl rfl rfl) (fun _ _ _ _ h => h) ?_; intro K hK; go_big_quiet_op; go_big_quiet_on) | (refine segH_pass _ _ _ _ _ _ (hid_get HOPS 35 _ rfl) (wanted_gone (hid_get HOPS 32 _ rfl) rfl rfl) (fun _ _ _ _ h => h) ?_; simp only [Act.put, List.setIfInBounds_toArray, List.set_cons_zero, List.set_cons_succ])
            first | (refine segH_pass _ _ _ _ _ _ (hid_get HOPS 36 _ rfl) (wanted_some (hid_get HOPS 35 _ rfl) rfl rfl rfl) (fun _ _ _ _ h => h) ?_; simp only [Act.put, List.setIfInBounds_toArray, List.set_cons_zero, List.set_cons_succ]) | (refine segH_load _ _ _ _ _ _ _ _ _ (hid_get HOPS 36 _ rfl) (wanted_some (hid_get HOPS 35 _ rfl) rfl rfl rfl) rfl (fun _ _ _ _ h => h) (fun y hy => by go_simp; try with_reducible rfl) ?_; simp only [Act.put, List.setIfInBounds_toArray, List.set_cons_zero, List.set_cons_succ]) | (refine segH_pass _ _ _ _ _ _ (hid_get HOPS 36 _ rfl) (wanted_gone (hid_get HOPS 35 _ rfl) rfl rfl) (fun _ _ _ _ h => h) ?_; simp only [Act.put, List.setIfInBounds_toArray, List.set_cons_zero, List.set_cons_succ])
            first | (refine segH_pass _ _ _ _ _ _ (hid_get HOPS 37 _ rfl) (wanted_some (hid_get HOPS 35 _ rfl) rfl rfl rfl) (fun _ _ _ _ h => h) ?_; simp only [Act.put, List.setIfInBounds_toArray, List.set_cons_zero, List.set_cons_succ]) | (refine segH_load _ _ _ _ _ _ _ _ _ (hid_get HOPS 37 _ rfl) (wanted_some (hid_get HOPS 35 _ rfl) rfl rfl rfl) rfl (fun _ _ _ _ h => h) (fun y hy => by go_simp; try with_reducible rfl) ?_; simp only [Act.put, List.setIfInBounds_toArray, List.set_cons_zero, List.set_cons_succ]) | (refine segH_pass _ _ _ _ _ _ (hid_get HOPS 37 _ rfl) (wanted_gone (hid_get HOPS 35 _ rfl) rfl rfl) (fun _ _ _ _ h => h) ?_; simp only [Act.put, List.setIfInBounds_toArray, List.set_cons_zero, List.set_cons_succ])
            refine segH_makes_pass _ _ _ _ _ _ (hid_get HOPS 38 _ rfl) (by first | exact (wanted_some (hid_get HOPS 35 _ rfl) rfl rfl rfl) | exact (wanted_gone (hid_get HOPS 35 _ rfl) rfl rfl)) (P3) ?_; simp only [Act.put, List.setIfInBounds_toArray, List.set_cons_zero, List.set_cons_succ]
            first | (refine segH_pass _ _ _ _ _ _ (hid_get HOPS 39 _ rfl) (wanted_some (hid_get HOPS 32 _ rfl) rfl rfl rfl) (fun _ _ _ _ h => h) ?_; simp only [Act.put, List.setIfInBounds_toArray, List.set_cons_zero, List.set_cons_succ]) | (refine segH_pure _ _ _ _ _ _ (hid_get HOPS 39 _ rfl) rfl (wanted_some (hid_get HOPS 32 _ rfl) rfl rfl rfl) (fun _ _ _ _ h => h) ?_; intro K hK; go_big_quiet_op; go_big_quiet_on) | (refine segH_pass _ _ _ _ _ _ (hid_get HOPS 39 _ rfl) (wanted_gone (hid_get HOPS 32 _ rfl) rfl rfl) (fun _ _ _ _ h => h) ?_; simp only [Act.put, List.setIfInBounds_toArray, List.set_cons_zero, List.set_cons_succ])
            (refine segH_pure _ _ _ _ _ _ (hid_get HOPS 40 _ rfl) rfl wanted_none (fun _ _ _ _ h => h) ?_; intro K hK; go_big_quiet_op; go_big_quiet_on)
            (refine segH_pure _ _ _ _ _ _ (hid_get HOPS 41 _ rfl) rfl wanted_none (fun _ _ _ _ h => h) ?_; intro K hK; go_big_quiet_op; go_big_quiet_on)
            refine seg_done ?_
            clear HOPS
            clear u0 u1
            go_wp2
            go_ret
            exact ⟨rfl, ext_trans y6 P3⟩
          · have hpt2 : parseM Q = (lchain (k : Int), 0) := by rw [hpt, chR, if_neg hji]
            have h4 := planParse_is hpt2 HC3.out wr (by omega) (ext_cell yx hm)
            clear hpt hpt2
            go_wp2_with fail
            refine h4.mono ?_
            clear h4
            rintro e w5 ⟨A4, c4, rs4, B4, rfl, hm4, hl4, hM4, x5⟩
            have b4 := Blk.new w5 24 #[.slice A4 k c4]
            obtain ⟨g4, hg4⟩ : ∃ g4, g4 = w5.heap.size := ⟨_, rfl⟩
            rw [← hg4] at b4
            have hz5 := ext_alloc w5 (.cells #[.slice A4 k c4] 24)
            have x6 := ext_trans x5 hz5
            have y6 := ext_trans yx x6
            have M4 := hM4.ext hz5
            have M6 := Mx.ext x6
            have b6 := bx.ext x6
            have HM4 := Lib.hid hm4
            go_upto_region 25 with fail
            rw [← hg4]
            clear hg4 x5 hz5 x6 hM4 hm4 bx Mx yx
            generalize w5.alloc (.cells #[.slice A4 k c4] 24) = v5 at y6 b4 b6 M4 M6 ⊢
            have p3 := b6.cell 0
            have p4 := b4.cell 0
            simp only [List.getElem?_toArray, List.getElem?_cons_zero] at p3 p4
            have u0 := fun x (h : Ext v5 x) => ext_cell h p3
            have u1 := fun x (h : Ext v5 x) => ext_cell h p4
            have hd := ext_drewN v5 1
            have dji : decide ((i : Int) < (j : Int)) = false := by rw [decide_eq_false_iff_not]; omega
            have djn : decide (i < j) = false := by rw [decide_eq_false_iff_not]; omega
            have hbp : (P.toList == P.toList) = true := (beq_bytes P P).2 rfl
            have HSMALL : Hid (∀ r ∈ rs3, r.bs.length ≤ 100) := chain_small HM3.out
            clear p3 p4 hji
            refine wp_region_planH3 (.reads 0 (.reads 1 (.reads 2 (.reads 3 (.reads 4 (.makes 5 (.makes 6 (.reads 7 (.reads 8 (.reads 9 (.reads 11 (.makes 10 (.reads 12 (.reads 13 (.reads 14 (.reads 15 (.reads 16 (.reads 17 (.reads 18 (.reads 19 (.reads 20 (.reads 21 (.reads 22 (.reads 23 (.reads 24 (.reads 25 (.reads 26 (.reads 27 (.reads 28 (.reads 29 (.reads 30 (.reads 31 (.reads 32 (.reads 33 (.reads 34 (.reads 35 (.reads 36 (.reads 37 (.makes 38 (.reads 39 (.reads 40 (.reads 41 (.done))))))))))))))))))))))))))))))))))))))))))) (by kernel_rfl) (by kernel_rfl) (fun x => Ext v5 x) (ext_drewN v5 1) (fun ops HOPS => ?_)
            (refine segH_pure _ _ _ _ _ _ (hid_get HOPS 0 _ rfl) rfl wanted_none (fun _ _ _ _ h => h) ?_; intro K hK; go_big_quiet_op; go_big_quiet_on)
            (refine segH_pure _ _ _ _ _ _ (hid_get HOPS 1 _ rfl) rfl wanted_none (fun _ _ _ _ h => h) ?_; intro K hK; go_big_quiet_op; go_big_quiet_on)
            (refine segH_pure _ _ _ _ _ _ (hid_get HOPS 2 _ rfl) rfl wanted_none (fun _ _ _ _ h => h) ?_; intro K hK; go_big_quiet_op; go_big_quiet_on)
            first | (refine segH_pass _ _ _ _ _ _ (hid_get HOPS 3 _ rfl) (wanted_some (hid_get HOPS 2 _ rfl) rfl rfl rfl) (fun _ _ _ _ h => h) ?_; simp only [Act.put, List.setIfInBounds_toArray, List.set_cons_zero, List.set_cons_succ]) | (refine segH_load _ _ _ _ _ _ _ _ _ (hid_get HOPS 3 _ rfl) (wanted_some (hid_get HOPS 2 _ rfl) rfl rfl rfl) rfl (fun _ _ _ _ h => h) (fun y hy => by go_simp; try with_reducible rfl) ?_; simp only [Act.put, List.setIfInBounds_toArray, List.set_cons_zero, List.set_cons_succ]) | (refine segH_pass _ _ _ _ _ _ (hid_get HOPS 3 _ rfl) (wanted_gone (hid_get HOPS 2 _ rfl) rfl rfl) (fun _ _ _ _ h => h) ?_; simp only [Act.put, List.setIfInBounds_toArray, List.set_cons_zero, List.set_cons_succ])
            first | (refine segH_pass _ _ _ _ _ _ (hid_get HOPS 4 _ rfl) (wanted_some (hid_get HOPS 2 _ rfl) rfl rfl rfl) (fun _ _ _ _ h => h) ?_; simp only [Act.put, List.setIfInBounds_toArray, List.set_cons_zero, List.set_cons_succ]) | (refine segH_pure _ _ _ _ _ _ (hid_get HOPS 4 _ rfl) rfl (wanted_some (hid_get HOPS 2 _ rfl) rfl rfl rfl) (fun _ _ _ _ h => h) ?_; intro K hK; go_big_quiet_op; go_big_quiet_on) | (refine segH_pass _ _ _ _ _ _ (hid_get HOPS 4 _ rfl) (wanted_gone (hid_get HOPS 2 _ rfl) rfl rfl) (fun _ _ _ _ h => h) ?_; simp only [Act.put, List.setIfInBounds_toArray, List.set_cons_zero, List.set_cons_succ])
            refine segH_makes _ _ _ _ _ _ (hid_get HOPS 5 _ rfl) (wanted_some (hid_get HOPS 2 _ rfl) rfl rfl rfl) (fun K hK => ?_)
            go_big_op
            refine (refChain_is k _ (by omega) HC3.out).mono ?_
            rintro e w7 ⟨A7, c7, rs7, B7, rfl, hm7, hl7, hM7, y⟩
            have P1 := ext_trans hd y
            refine hK _ _ (fun x => Ext v5 x) P1 (fun _ h => h) ?_
            clear hK y
            refine segH_makes _ _ _ _ _ _ (hid_get HOPS 6 _ rfl) (wanted_some (hid_get HOPS 2 _ rfl) rfl rfl rfl) (fun K hK => ?_)
            go_big_op
            have hsm := same_is (c := c3) (c' := c7) (M6.ext P1) hM7 hl3 hl7 (by omega) HSMALL.out (b := true) (by rw [HM3.out, hm7.out]; exact sameMat_self _)
            refine hsm.mono ?_
            clear hsm hM7 hm7
            rintro e w8 ⟨rfl, y⟩
            have P2 := ext_trans P1 y
            refine hK _ _ (fun x => Ext v5 x) P2 (fun _ h => h) ?_
            clear hK y
            (refine segH_pure _ _ _ _ _ _ (hid_get HOPS 7 _ rfl) rfl wanted_none (fun _ _ _ _ h => h) ?_; intro K hK; go_big_quiet_op; go_big_quiet_on)
            (refine segH_pure _ _ _ _ _ _ (hid_get HOPS 8 _ rfl) rfl wanted_none (fun _ _ _ _ h => h) ?_; intro K hK; go_big_quiet_op; go_big_quiet_on)
            first | (refine segH_pass _ _ _ _ _ _ (hid_get HOPS 9 _ rfl) (wanted_some (hid_get HOPS 8 _ rfl) rfl rfl rfl) (fun _ _ _ _ h => h) ?_; simp only [Act.put, List.setIfInBounds_toArray, List.set_cons_zero, List.set_cons_succ]) | (refine segH_load _ _ _ _ _ _ _ _ _ (hid_get HOPS 9 _ rfl) (wanted_some (hid_get HOPS 8 _ rfl) rfl rfl rfl) rfl (fun _ _ _ _ h => h) (fun y hy => by go_simp; try with_reducible rfl) ?_; simp only [Act.put, List.setIfInBounds_toArray, List.set_cons_zero, List.set_cons_succ]) | (refine segH_pass _ _ _ _ _ _ (hid_get HOPS 9 _ rfl) (wanted_gone (hid_get HOPS 8 _ rfl) rfl rfl) (fun _ _ _ _ h => h) ?_; simp only [Act.put, List.setIfInBounds_toArray, List.set_cons_zero, List.set_cons_succ])
            first | (refine segH_pass _ _ _ _ _ _ (hid_get HOPS 11 _ rfl) (wanted_some (hid_get HOPS 8 _ rfl) rfl rfl rfl) (fun _ _ _ _ h => h) ?_; simp only [Act.put, List.setIfInBounds_toArray, List.set_cons_zero, List.set_cons_succ]) | (refine segH_pure _ _ _ _ _ _ (hid_get HOPS 11 _ rfl) rfl (wanted_some (hid_get HOPS 8 _ rfl) rfl rfl rfl) (fun _ _ _ _ h => h) ?_; intro K hK; go_big_quiet_op; go_big_quiet_on) | (refine segH_pass _ _ _ _ _ _ (hid_get HOPS 11 _ rfl) (wanted_gone (hid_get HOPS 8 _ rfl) rfl rfl) (fun _ _ _ _ h => h) ?_; simp only [Act.put, List.setIfInBounds_toArray, List.set_cons_zero, List.set_cons_succ])
            refine segH_makes _ _ _ _ _ _ (hid_get HOPS 10 _ rfl) (wanted_some (hid_get HOPS 8 _ rfl) rfl rfl rfl) (fun K hK => ?_)
            go_big_op
            have hpr := print_is (c := c3) (M6.ext P2) HM3 hl3 (by omega) HC2.out
            refine hpr.mono ?_
            clear hpr
            rintro e w9 ⟨rfl, y⟩
            have P3 := ext_trans P2 y
            refine hK _ _ (fun x => Ext v5 x) P3 (fun _ h => h) ?_
            clear hK y
            first | (refine segH_pass _ _ _ _ _ _ (hid_get HOPS 12 _ rfl) (wanted_some (hid_get HOPS 8 _ rfl) rfl rfl rfl) (fun _ _ _ _ h => h) ?_; simp only [Act.put, List.setIfInBounds_toArray, List.set_cons_zero, List.set_cons_succ]) | (refine segH_pure _ _ _ _ _ _ (hid_get HOPS 12 _ rfl) rfl (wanted_some (hid_get HOPS 8 _ rfl) rfl rfl rfl) (fun _ _ _ _ h => h) ?_; intro K hK; go_big_quiet_op; go_big_quiet_on) | (refine segH_pass _ _ _ _ _ _ (hid_get HOPS 12 _ rfl) (wanted_gone (hid_get HOPS 8 _ rfl) rfl rfl) (fun _ _ _ _ h => h) ?_; simp only [Act.put, List.setIfInBounds_toArray, List.set_cons_zero, List.set_cons_succ])
            (refine segH_pure _ _ _ _ _ _ (hid_get HOPS 13 _ rfl) rfl wanted_none (fun _ _ _ _ h => h) ?_; intro K hK; go_big_quiet_op; go_big_quiet_on)
            (refine segH_pure _ _ _ _ _ _ (hid_get HOPS 14 _ rfl) rfl wanted_none (fun _ _ _ _ h => h) ?_; intro K hK; go_big_quiet_op; go_big_quiet_on)
            first | (refine segH_pass _ _ _ _ _ _ (hid_get HOPS 15 _ rfl) (wanted_some (hid_get HOPS 14 _ rfl) rfl rfl rfl) (fun _ _ _ _ h => h) ?_; simp only [Act.put, List.setIfInBounds_toArray, List.set_cons_zero, List.set_cons_succ]) | (refine segH_pure _ _ _ _ _ _ (hid_get HOPS 15 _ rfl) rfl (wanted_some (hid_get HOPS 14 _ rfl) rfl rfl rfl) (fun _ _ _ _ h => h) ?_; intro K hK; go_big_quiet_op; go_big_quiet_on) | (refine segH_pass _ _ _ _ _ _ (hid_get HOPS 15 _ rfl) (wanted_gone (hid_get HOPS 14 _ rfl) rfl rfl) (fun _ _ _ _ h => h) ?_; simp only [Act.put, List.setIfInBounds_toArray, List.set_cons_zero, List.set_cons_succ])
            first | (refine segH_pass _ _ _ _ _ _ (hid_get HOPS 16 _ rfl) (wanted_some (hid_get HOPS 14 _ rfl) rfl rfl rfl) (fun _ _ _ _ h => h) ?_; simp only [Act.put, List.setIfInBounds_toArray, List.set_cons_zero, List.set_cons_succ]) | (refine segH_pure _ _ _ _ _ _ (hid_get HOPS 16 _ rfl) rfl (wanted_some (hid_get HOPS 14 _ rfl) rfl rfl rfl) (fun _ _ _ _ h => h) ?_; intro K hK; go_big_quiet_op; go_big_quiet_on) | (refine segH_pass _ _ _ _ _ _ (hid_get HOPS 16 _ rfl) (wanted_gone (hid_get HOPS 14 _ rfl) rfl rfl) (fun _ _ _ _ h => h) ?_; simp only [Act.put, List.setIfInBounds_toArray, List.set_cons_zero, List.set_cons_succ])
            first | (refine segH_pass _ _ _ _ _ _ (hid_get HOPS 17 _ rfl) (wanted_some (hid_get HOPS 14 _ rfl) rfl rfl rfl) (fun _ _ _ _ h => h) ?_; simp only [Act.put, List.setIfInBounds_toArray, List.set_cons_zero, List.set_cons_succ]) | (refine segH_pure _ _ _ _ _ _ (hid_get HOPS 17 _ rfl) rfl (wanted_some (hid_get HOPS 14 _ rfl) rfl rfl rfl) (fun _ _ _ _ h => h) ?_; intro K hK; go_big_quiet_op; go_big_quiet_on) | (refine segH_pass _ _ _ _ _ _ (hid_get HOPS 17 _ rfl) (wanted_gone (hid_get HOPS 14 _ rfl) rfl rfl) (fun _ _ _ _ h => h) ?_; simp only [Act.put, List.setIfInBounds_toArray, List.set_cons_zero, List.set_cons_succ])
            first | (refine segH_pass _ _ _ _ _ _ (hid_get HOPS 18 _ rfl) (wanted_some (hid_get HOPS 14 _ rfl) rfl rfl rfl) (fun _ _ _ _ h => h) ?_; simp only [Act.put, List.setIfInBounds_toArray, List.set_cons_zero, List.set_cons_succ]) | (refine segH_pure _ _ _ _ _ _ (hid_get HOPS 18 _ rfl) rfl (wanted_some (hid_get HOPS 14 _ rfl) rfl rfl rfl) (fun _ _ _ _ h => h) ?_; intro K hK; go_big_quiet_op; go_big_quiet_on) | (refine segH_pass _ _ _ _ _ _ (hid_get HOPS 18 _ rfl) (wanted_gone (hid_get HOPS 14 _ rfl) rfl rfl) (fun _ _ _ _ h => h) ?_; simp only [Act.put, List.setIfInBounds_toArray, List.set_cons_zero, List.set_cons_succ])
            first | (refine segH_pass _ _ _ _ _ _ (hid_get HOPS 19 _ rfl) (wanted_some (hid_get HOPS 14 _ rfl) rfl rfl rfl) (fun _ _ _ _ h => h) ?_; simp only [Act.put, List.setIfInBounds_toArray, List.set_cons_zero, List.set_cons_succ]) | (refine segH_pure _ _ _ _ _ _ (hid_get HOPS 19 _ rfl) rfl (wanted_some (hid_get HOPS 14 _ rfl) rfl rfl rfl) (fun _ _ _ _ h => h) ?_; intro K hK; go_big_quiet_op; go_big_quiet_on) | (refine segH_pass _ _ _ _ _ _ (hid_get HOPS 19 _ rfl) (wanted_gone (hid_get HOPS 14 _ rfl) rfl rfl) (fun _ _ _ _ h => h) ?_; simp only [Act.put, List.setIfInBounds_toArray, List.set_cons_zero, List.set_cons_succ])
            first | (refine segH_pass _ _ _ _ _ _ (hid_get HOPS 20 _ rfl) (wanted_some (hid_get HOPS 14 _ rfl) rfl rfl rfl) (fun _ _ _ _ h => h) ?_; simp only [Act.put, List.setIfInBounds_toArray, List.set_cons_zero, List.set_cons_succ]) | (refine segH_pure _ _ _ _ _ _ (hid_get HOPS 20 _ rfl) rfl (wanted_some (hid_get HOPS 14 _ rfl) rfl rfl rfl) (fun _ _ _ _ h => h) ?_; intro K hK; go_big_quiet_op; go_big_quiet_on) | (refine segH_pass _ _ _ _ _ _ (hid_get HOPS 20 _ rfl) (wanted_gone (hid_get HOPS 14 _ rfl) rfl rfl) (fun _ _ _ _ h => h) ?_; simp only [Act.put, List.setIfInBounds_toArray, List.set_cons_zero, List.set_cons_succ])
            (refine segH_pure _ _ _ _ _ _ (hid_get HOPS 21 _ rfl) rfl wanted_none (fun _ _ _ _ h => h) ?_; intro K hK; go_big_quiet_op; go_big_quiet_on)
            (refine segH_pure _ _ _ _ _ _ (hid_get HOPS 22 _ rfl) rfl wanted_none (fun _ _ _ _ h => h) ?_; intro K hK; go_big_quiet_op; go_big_quiet_on)
            first | (refine segH_pass _ _ _ _ _ _ (hid_get HOPS 23 _ rfl) (wanted_some (hid_get HOPS 22 _ rfl) rfl rfl rfl) (fun _ _ _ _ h => h) ?_; simp only [Act.put, List.setIfInBounds_toArray, List.set_cons_zero, List.set_cons_succ]) | (refine segH_pure _ _ _ _ _ _ (hid_get HOPS 23 _ rfl) rfl (wanted_some (hid_get HOPS 22 _ rfl) rfl rfl rfl) (fun _ _ _ _ h => h) ?_; intro K hK; go_big_quiet_op; go_big_quiet_on) | (refine segH_pass _ _ _ _ _ _ (hid_get HOPS 23 _ rfl) (wanted_gone (hid_get HOPS 22 _ rfl) rfl rfl) (fun _ _ _ _ h => h) ?_; simp only [Act.put, List.setIfInBounds_toArray, List.set_cons_zero, List.set_cons_succ])
            first | (refine segH_pass _ _ _ _ _ _ (hid_get HOPS 24 _ rfl) (wanted_some (hid_get HOPS 22 _ rfl) rfl rfl rfl) (fun _ _ _ _ h => h) ?_; simp only [Act.put, List.setIfInBounds_toArray, List.set_cons_zero, List.set_cons_succ]) | (refine segH_pure _ _ _ _ _ _ (hid_get HOPS 24 _ rfl) rfl (wanted_some (hid_get HOPS 22 _ rfl) rfl rfl rfl) (fun _ _ _ _ h => h) ?_; intro K hK; go_big_quiet_op; go_big_quiet_on) | (refine segH_pass _ _ _ _ _ _ (hid_get HOPS 24 _ rfl) (wanted_gone (hid_get HOPS 22 _ rfl) rfl rfl) (fun _ _ _ _ h => h) ?_; simp only [Act.put, List.setIfInBounds_toArray, List.set_cons_zero, List.set_cons_succ])
            first | (refine segH_pass _ _ _ _ _ _ (hid_get HOPS 25 _ rfl) (wanted_some (hid_get HOPS 22 _ rfl) rfl rfl rfl) (fun _ _ _ _ h => h) ?_; simp only [Act.put, List.setIfInBounds_toArray, List.set_cons_zero, List.set_cons_succ]) | (refine segH_pure _ _ _ _ _ _ (hid_get HOPS 25 _ rfl) rfl (wanted_some (hid_get HOPS 22 _ rfl) rfl rfl rfl) (fun _ _ _ _ h => h) ?_; intro K hK; go_big_quiet_op; go_big_quiet_on) | (refine segH_pass _ _ _ _ _ _ (hid_get HOPS 25 _ rfl) (wanted_gone (hid_get HOPS 22 _ rfl) rfl rfl) (fun _ _ _ _ h => h) ?_; simp only [Act.put, List.setIfInBounds_toArray, List.set_cons_zero, List.set_cons_succ])
            first | (refine segH_pass _ _ _ _ _ _ (hid_get HOPS 26 _ rfl) (wanted_some (hid_get HOPS 25 _ rfl) rfl rfl rfl) (fun _ _ _ _ h => h) ?_; simp only [Act.put, List.setIfInBounds_toArray, List.set_cons_zero, List.set_cons_succ]) | (refine segH_pure _ _ _ _ _ _ (hid_get HOPS 26 _ rfl) rfl (wanted_some (hid_get HOPS 25 _ rfl) rfl rfl rfl) (fun _ _ _ _ h => h) ?_; intro K hK; go_big_quiet_op; go_big_quiet_on) | (refine segH_pass _ _ _ _ _ _ (hid_get HOPS 26 _ rfl) (wanted_gone (hid_get HOPS 25 _ rfl) rfl rfl) (fun _ _ _ _ h => h) ?_; simp only [Act.put, List.setIfInBounds_toArray, List.set_cons_zero, List.set_cons_succ])
            first | (refine segH_pass _ _ _ _ _ _ (hid_get HOPS 27 _ rfl) (wanted_some (hid_get HOPS 25 _ rfl) rfl rfl rfl) (fun _ _ _ _ h => h) ?_; simp only [Act.put, List.setIfInBounds_toArray, List.set_cons_zero, List.set_cons_succ]) | (refine segH_load _ _ _ _ _ _ _ _ _ (hid_get HOPS 27 _ rfl) (wanted_some (hid_get HOPS 25 _ rfl) rfl rfl rfl) rfl (fun _ _ _ _ h => h) (fun y hy => by go_simp; try with_reducible rfl) ?_; simp only [Act.put, List.setIfInBounds_toArray, List.set_cons_zero, List.set_cons_succ]) | (refine segH_pass _ _ _ _ _ _ (hid_get HOPS 27 _ rfl) (wanted_gone (hid_get HOPS 25 _ rfl) rfl rfl) (fun _ _ _ _ h => h) ?_; simp only [Act.put, List.setIfInBounds_toArray, List.set_cons_zero, List.set_cons_succ])
            first | (refine segH_pass _ _ _ _ _ _ (hid_get HOPS 28 _ rfl) (wanted_some (hid_get HOPS 25 _ rfl) rfl rfl rfl) (fun _ _ _ _ h => h) ?_; simp only [Act.put, List.setIfInBounds_toArray, List.set_cons_zero, List.set_cons_succ]) | (refine segH_pure _ _ _ _ _ _ (hid_get HOPS 28 _ rfl) rfl (wanted_some (hid_get HOPS 25 _ rfl) rfl rfl rfl) (fun _ _ _ _ h => h) ?_; intro K hK; go_big_quiet_op; go_big_quiet_on) | (refine segH_pass _ _ _ _ _ _ (hid_get HOPS 28 _ rfl) (wanted_gone (hid_get HOPS 25 _ rfl) rfl rfl) (fun _ _ _ _ h => h) ?_; simp only [Act.put, List.setIfInBounds_toArray, List.set_cons_zero, List.set_cons_succ])
            first | (refine segH_pass _ _ _ _ _ _ (hid_get HOPS 29 _ rfl) (wanted_some (hid_get HOPS 25 _ rfl) rfl rfl rfl) (fun _ _ _ _ h => h) ?_; simp only [Act.put, List.setIfInBounds_toArray, List.set_cons_zero, List.set_cons_succ]) | (refine segH_pure _ _ _ _ _ _ (hid_get HOPS 29 _ rfl) rfl (wanted_some (hid_get HOPS 25 _ rfl) rfl rfl rfl) (fun _ _ _ _ h => h) ?_; intro K hK; go_big_quiet_op; go_big_quiet_on) | (refine segH_pass _ _ _ _ _ _ (hid_get HOPS 29 _ rfl) (wanted_gone (hid_get HOPS 25 _ rfl) rfl rfl) (fun _ _ _ _ h => h) ?_; simp only [Act.put, List.setIfInBounds_toArray, List.set_cons_zero, List.set_cons_succ])
            first | (refine segH_pass _ _ _ _ _ _ (hid_get HOPS 30 _ rfl) (wanted_some (hid_get HOPS 22 _ rfl) rfl rfl rfl) (fun _ _ _ _ h => h) ?_; simp only [Act.put, List.setIfInBounds_toArray, List.set_cons_zero, List.set_cons_succ]) | (refine segH_pure _ _ _ _ _ _ (hid_get HOPS 30 _ rfl) rfl (wanted_some (hid_get HOPS 22 _ rfl) rfl rfl rfl) (fun _ _ _ _ h => h) ?_; intro K hK; go_big_quiet_op; go_big_quiet_on) | (refine segH_pass _ _ _ _ _ _ (hid_get HOPS 30 _ rfl) (wanted_gone (hid_get HOPS 22 _ rfl) rfl rfl) (fun _ _ _ _ h => h) ?_; simp only [Act.put, List.setIfInBounds_toArray, List.set_cons_zero, List.set_cons_succ])
            (refine segH_pure _ _ _ _ _ _ (hid_get HOPS 31 _ rfl) rfl wanted_none (fun _ _ _ _ h => h) ?_; intro K hK; go_big_quiet_op; go_big_quiet_on)
            (refine segH_pure _ _ _ _ _ _ (hid_get HOPS 32 _ rfl) rfl wanted_none (fun _ _ _ _ h => h) ?_; intro K hK; go_big_quiet_op; go_big_quiet_on)
            first | (refine segH_pass _ _ _ _ _ _ (hid_get HOPS 33 _ rfl) (wanted_some (hid_get HOPS 32 _ rfl) rfl rfl rfl) (fun _ _ _ _ h => h) ?_; simp only [Act.put, List.setIfInBounds_toArray, List.set_cons_zero, List.set_cons_succ]) | (refine segH_pure _ _ _ _ _ _ (hid_get HOPS 33 _ rfl) rfl (wanted_some (hid_get HOPS 32 _ rfl) rfl rfl rfl) (fun _ _ _ _ h => h) ?_; intro K hK; go_big_quiet_op; go_big_quiet_on) | (refine segH_pass _ _ _ _ _ _ (hid_get HOPS 33 _ rfl) (wanted_gone (hid_get HOPS 32 _ rfl) rfl rfl) (fun _ _ _ _ h => h) ?_; simp only [Act.put, List.setIfInBounds_toArray, List.set_cons_zero, List.set_cons_succ])
            first | (refine segH_pass _ _ _ _ _ _ (hid_get HOPS 34 _ rfl) (wanted_some (hid_get HOPS 32 _ rfl) rfl rfl rfl) (fun _ _ _ _ h => h) ?_; simp only [Act.put, List.setIfInBounds_toArray, List.set_cons_zero, List.set_cons_succ]) | (refine segH_pure _ _ _ _ _ _ (hid_get HOPS 34 _ rfl) rfl (wanted_some (hid_get HOPS 32 _ rfl) rfl rfl rfl) (fun _ _ _ _ h => h) ?_; intro K hK; go_big_quiet_op; go_big_quiet_on) | (refine segH_pass _ _ _ _ _ _ (hid_get HOPS 34 _ rfl) (wanted_gone (hid_get HOPS 32 _ rfl) rfl rfl) (fun _ _ _ _ h => h) ?_; simp only [Act.put, List.setIfInBounds_toArray, List.set_cons_zero, List.set_cons_succ])
            first | (refine segH_pass _ _ _ _ _ _ (hid_get HOPS 35 _ rfl) (wanted_some (hid_get HOPS 32 _ rfl) rfl rfl rfl) (fun _ _ _ _ h => h) ?_; simp only [Act.put, List.setIfInBounds_toArray, List.set_cons_zero, List.set_cons_succ]) | (refine segH_pure _ _ _ _ _ _ (hid_get HOPS 35 _ rfl) rfl (wanted_some (hid_get HOPS 32 _ rfl) rfl rfl rfl) (fun _ _ _ _ h => h) ?_; intro K hK; go_big_quiet_op; go_big_quiet_on) | (refine segH_pass _ _ _ _ _ _ (hid_get HOPS 35 _ rfl) (wanted_gone (hid_get HOPS 32 _ rfl) rfl rfl) (fun _ _ _ _ h => h) ?_; simp only [Act.put, List.setIfInBounds_toArray, List.set_cons_zero, List.set_cons_succ])
            first | (refine segH_pass _ _ _ _ _ _ (hid_get HOPS 36 _ rfl) (wanted_some (hid_get HOPS 35 _ rfl) rfl rfl rfl) (fun _ _ _ _ h => h) ?_; simp only [Act.put, List.setIfInBounds_toArray, List.set_cons_zero, List.set_cons_succ]) | (refine segH_load _ _ _ _ _ _ _ _ _ (hid_get HOPS 36 _ rfl) (wanted_some (hid_get HOPS 35 _ rfl) rfl rfl rfl) rfl (fun _ _ _ _ h => h) (fun y hy => by go_simp; try with_reducible rfl) ?_; simp only [Act.put, List.setIfInBounds_toArray, List.set_cons_zero, List.set_cons_succ]) | (refine segH_pass _ _ _ _ _ _ (hid_get HOPS 36 _ rfl) (wanted_gone (hid_get HOPS 35 _ rfl) rfl rfl) (fun _ _ _ _ h => h) ?_; simp only [Act.put, List.setIfInBounds_toArray, List.set_cons_zero, List.set_cons_succ])
            first | (refine segH_pass _ _ _ _ _ _ (hid_get HOPS 37 _ rfl) (wanted_some (hid_get HOPS 35 _ rfl) rfl rfl rfl) (fun _ _ _ _ h => h) ?_; simp only [Act.put, List.setIfInBounds_toArray, List.set_cons_zero, List.set_cons_succ]) | (refine segH_load _ _ _ _ _ _ _ _ _ (hid_get HOPS 37 _ rfl) (wanted_some (hid_get HOPS 35 _ rfl) rfl rfl rfl) rfl (fun _ _ _ _ h => h) (fun y hy => by go_simp; try with_reducible rfl) ?_; simp only [Act.put, List.setIfInBounds_toArray, List.set_cons_zero, List.set_cons_succ]) | (refine segH_pass _ _ _ _ _ _ (hid_get HOPS 37 _ rfl) (wanted_gone (hid_get HOPS 35 _ rfl) rfl rfl) (fun _ _ _ _ h => h) ?_; simp only [Act.put, List.setIfInBounds_toArray, List.set_cons_zero, List.set_cons_succ])
            refine segH_makes _ _ _ _ _ _ (hid_get HOPS 38 _ rfl) (wanted_some (hid_get HOPS 35 _ rfl) rfl rfl rfl) (fun K hK => ?_)
            go_big_op
            have hsm := same_is (c := c4) (c' := c3) (M4.ext P3) (M6.ext P3) hl4 hl3 (by omega) (chain_small HM4.out) (b := true) (by rw [HM3.out, HM4.out]; exact sameMat_self _)
            refine hsm.mono ?_
            clear hsm
            rintro e w10 ⟨rfl, y⟩
            have P4 := ext_trans P3 y
            refine hK _ _ (fun x => Ext v5 x) P4 (fun _ h => h) ?_
            clear hK y
            first | (refine segH_pass _ _ _ _ _ _ (hid_get HOPS 39 _ rfl) (wanted_some (hid_get HOPS 32 _ rfl) rfl rfl rfl) (fun _ _ _ _ h => h) ?_; simp only [Act.put, List.setIfInBounds_toArray, List.set_cons_zero, List.set_cons_succ]) | (refine segH_pure _ _ _ _ _ _ (hid_get HOPS 39 _ rfl) rfl (wanted_some (hid_get HOPS 32 _ rfl) rfl rfl rfl) (fun _ _ _ _ h => h) ?_; intro K hK; go_big_quiet_op; go_big_quiet_on) | (refine segH_pass _ _ _ _ _ _ (hid_get HOPS 39 _ rfl) (wanted_gone (hid_get HOPS 32 _ rfl) rfl rfl) (fun _ _ _ _ h => h) ?_; simp only [Act.put, List.setIfInBounds_toArray, List.set_cons_zero, List.set_cons_succ])
            (refine segH_pure _ _ _ _ _ _ (hid_get HOPS 40 _ rfl) rfl wanted_none (fun _ _ _ _ h => h) ?_; intro K hK; go_big_quiet_op; go_big_quiet_on)
            (refine segH_pure _ _ _ _ _ _ (hid_get HOPS 41 _ rfl) rfl wanted_none (fun _ _ _ _ h => h) ?_; intro K hK; go_big_quiet_op; go_big_quiet_on)
            refine seg_done ?_
            clear HOPS
            clear u0 u1
            go_wp2
            go_ret
            exact ⟨rfl, ext_trans y6 P4⟩
end Go.Proofs.YtdknkbpgkkakhaaDoor
