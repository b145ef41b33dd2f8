/- The law LatticeChains, walked. -/
import Derived.Test.YtdknkbpgkkakhaaLat14
import Derived.Test.YtdknkbpgkkakhaaPlanF
import Derived.Test.YtdknkbpgkkakhaaLatC
namespace Go.Proofs.Ytdknkbpgkkakhaa
open Go.RowKit

set_option maxRecDepth 100000 in
set_option maxHeartbeats 8000000 in
theorem latticeChains_walk (n a b : Int) (w : World) (hn : 0 ≤ n ∧ n ≤ 255) (ha : 0 ≤ a ∧ a ≤ 255) (hb : 0 ≤ b ∧ b ≤ 255) :
    Calls Try.prog 9 #[.int .u8 n, .int .u8 a, .int .u8 b] w fun e w' => e = .returned (.bool true) ∧ Ext w w' := by
  obtain ⟨hn0, hn1⟩ := hn
  obtain ⟨ha0, ha1⟩ := ha
  obtain ⟨hb0, hb1⟩ := hb
  go_enter Try.func9, Try.ntmps9
  go_wp2_with fail
  refine (known1_any _).mono ?_
  rintro e w1 ⟨rfl, x1⟩
  go_upto_region 3 with fail
  go_cut [7] (fun s7 wc => (∃ k : Nat, 1 ≤ k ∧ k ≤ 6 ∧ s7 = .int .i64 (k : Int)) ∧ w1 = wc)
  case first =>
    go_wp2
    go_meet
    exact ⟨⟨(n % 6 + 1).toNat, by omega, by omega, congrArg (Value.int .i64) (by omega)⟩, rfl⟩
  case rest =>
    obtain ⟨⟨k, k1, k6, rfl⟩, rfl⟩ := hcut
    go_wp2_with fail
    refine (latChain_any k _ (by omega) (by omega)).mono ?_
    rintro e w2 ⟨A, c, rs, rfl, hm, hM, x2⟩
    rw [lchain_up k1 k6] at hm
    have hl6 : rs.length = k := by rw [← mat_length, hm]; simp [chainUp]
    have hl : rs.length ≤ 9223372036854775807 := by omega
    have HD := Lib.hid hm
    clear hl6 hm
    have b0 : Blk (w2.alloc (.cells #[.slice A rs.length c] 53)) w2.heap.size 53 #[.slice A rs.length c] := Blk.new _ _ _
    have x3 := ext_trans (ext_trans x1 x2) (ext_alloc w2 (.cells #[.slice A rs.length c] 53))
    have hM3 := hM.ext (ext_alloc w2 (.cells #[.slice A rs.length c] 53))
    clear hM x1 x2
    go_upto_region 5 with fail
    generalize w2.alloc (.cells #[.slice A rs.length c] 53) = w3 at b0 x3 hM3 ⊢
    generalize w2.heap.size = g at b0 ⊢
    go_cut [9, 10] (fun s9 s10 wc => (∃ i j : Nat, i < k ∧ j < k ∧ s9 = .int .i64 (i : Int) ∧ s10 = .int .i64 (j : Int)) ∧ Ext w3 wc)
    case first =>
      go_wp2
      have m1 := Int.emod_nonneg a (b := (k : Int)) (by omega)
      have m2 := Int.emod_lt_of_pos a (b := (k : Int)) (by omega)
      have m3 := Int.emod_nonneg b (b := (k : Int)) (by omega)
      have m4 := Int.emod_lt_of_pos b (b := (k : Int)) (by omega)
      go_quiet (fail)
      go_wp2
      go_meet
      exact ⟨⟨(a % k).toNat, (b % k).toNat, by omega, by omega, congrArg (Value.int .i64) (by omega), congrArg (Value.int .i64) (by omega)⟩, ext_drewN _ _⟩
    case rest =>
      obtain ⟨⟨i, j, hi, hj, rfl, rfl⟩, P⟩ := hcut
      have hC : ChainIs (mat rs) k i j := by rw [HD.out]; exact chain_is k1 k6 hi hj
      have HC := Lib.hid hC
      clear hC HD
      replace b0 := b0.ext P
      replace hM3 := hM3.ext P
      replace x3 := ext_trans x3 P
      clear P
      have ck := b0.cell 0
      simp only [List.getElem?_toArray, List.getElem?_cons_zero] at ck
      have yk := fun x (hx : Ext wc x) => ext_cell hx ck
      clear ck
      go_upto_region 6 with fail
      refine wp_region_planH (.reads 0 (.reads 1 (.reads 3 (.makes 2 (.makes 4 (.reads 5 (.reads 6 (.done)))))))) (by kernel_rfl) (by kernel_rfl) (fun x => Ext wc x) (ext_drewN wc 1) (fun ops HOPS => ?_)
      (refine segH_load _ _ _ _ _ _ _ _ _ (hid_get HOPS 0 _ rfl) wanted_none rfl (fun _ _ _ _ h => h) (fun y hy => by go_simp; try with_reducible rfl) ?_; simp only [Act.put, List.setIfInBounds_toArray, List.set_cons_zero, List.set_cons_succ])
      (refine segH_pure _ _ _ _ _ _ (hid_get HOPS 1 _ rfl) rfl wanted_none (fun _ _ _ _ h => h) ?_; intro K hK; go_big_quiet_op; go_big_quiet_on)
      (refine segH_load _ _ _ _ _ _ _ _ _ (hid_get HOPS 3 _ rfl) wanted_none rfl (fun _ _ _ _ h => h) (fun y hy => by go_simp; try with_reducible rfl) ?_; simp only [Act.put, List.setIfInBounds_toArray, List.set_cons_zero, List.set_cons_succ])
      refine segH_makes _ _ _ _ _ _ (hid_get HOPS 2 _ rfl) wanted_none (fun K hK => ?_)
      go_big_op
      have P : Ext wc wc.drew := ext_drewN wc 1
      refine (latCovers_any A c rs i _ _ (hM3.ext P) hl).mono ?_
      rintro e w4 ⟨v, rfl, hown, y⟩
      obtain ⟨A1, c1, rfl⟩ := hown.form
      have R1 : NatsAt w4 0 A1 (lcovers (mat rs) i) := hown.rows
      replace P := ext_trans P y
      clear hown y
      refine hK _ _ (fun x => Ext wc x) P (fun _ h => h) ?_
      clear hK
      refine segH_makes _ _ _ _ _ _ (hid_get HOPS 4 _ rfl) wanted_none (fun K hK => ?_)
      go_big_op
      refine (latOrder_any A c rs _ _ (hM3.ext P) hl).mono ?_
      rintro e w5 ⟨v, rfl, hown, y⟩
      obtain ⟨A2, c2, rfl⟩ := hown.form
      have R2 : NatsAt w5 0 A2 (lorder (mat rs)) := hown.rows
      replace R1 := RowsAt.ext R1 y
      replace P := ext_trans P y
      clear hown y
      refine hK _ _ (fun x => Ext wc x) P (fun _ h => h) ?_
      clear hK
      (refine segH_pure _ _ _ _ _ _ (hid_get HOPS 5 _ rfl) rfl wanted_none (fun _ _ _ _ h => h) ?_; intro K hK; go_big_quiet_op; go_big_quiet_on)
      (refine segH_pure _ _ _ _ _ _ (hid_get HOPS 6 _ rfl) rfl wanted_none (fun _ _ _ _ h => h) ?_; intro K hK; go_big_quiet_op; go_big_quiet_on)
      refine seg_done ?_
      rw [HC.out.ord] at R2
      rw [HC.out.ord, List.length_range]
      have ck := yk _ P
      clear yk
      go_upto_region 7 with fail
      obtain ⟨m, hm, hm1, hm2⟩ : ∃ m : Nat, (if i ≤ j then j else i) = m ∧ (i ≤ j → m = j) ∧ (j < i → m = i) := ⟨_, rfl, fun h => if_pos h, fun h => if_neg (by omega)⟩
      have HJ : Hid (joinB (mat rs) i j = true ∧ joinN (mat rs) i j = m) := by
        show _ ∧ _
        rw [joinB, joinN, HC.out.join, hm]; exact ⟨rfl, rfl⟩
      have HMM := Lib.hid (And.intro hm1 hm2)
      clear hm hm1 hm2
      have HR1 := Lib.hid R1
      clear R1
      obtain ⟨cl, hcl, hc0, hc1⟩ : ∃ cl : Nat, (lcovers (mat rs) i).length = cl ∧ (i = 0 → cl = 0) ∧ (0 < i → cl = 1) :=
        ⟨_, rfl, fun h => by rw [HC.out.covers, if_pos h]; rfl, fun h => by rw [HC.out.covers, if_neg (by omega)]; rfl⟩
      rw [hcl]
      have HCL := Lib.hid (And.intro hcl (And.intro hc0 hc1))
      clear hcl hc0 hc1
      have w5P := P
      go_wp2_with fail
      refine (latJoin_any A c rs i j _ _ (hM3.ext P) hl).mono ?_
      rintro e w6 ⟨rfl, y⟩
      rw [HJ.out.1, HJ.out.2]
      replace R2 := RowsAt.ext R2 y
      have Y := y
      replace P := ext_trans P y
      replace ck := ext_cell y ck
      clear y
      clear ck
      go_wp2
      have ck := (b0.ext P).cell 0
      simp only [List.getElem?_toArray, List.getElem?_cons_zero] at ck
      go_loop [15] (fun x => ∃ l : Nat, l ≤ k ∧ x = .int .i64 l) (fun x => k - (intOf x).toNat)
      case atStart => exact ⟨0, Nat.zero_le _, rfl⟩
      case round =>
        obtain ⟨l, hl2, rfl⟩ := hrel
        by_cases hlk : l < k
        · obtain ⟨ao, rfl, p0⟩ := NatsAt.get R2 (k := l) (by rw [List.length_range]; exact hlk)
          rw [List.getElem_range] at p0
          go_wp2
          go_round
          case rel => exact ⟨l + 1, hlk, by go_num⟩
          case measure => simp [intOf]; omega
        · obtain rfl : l = k := by omega
          clear R2
          by_cases hi0 : i = 0
          · have hle0 : i ≤ 0 := by omega
            clear hi0
            rcases Nat.lt_trichotomy i j with hij | hij | hij
            · have f1 : ((cl : Int) == (i : Int)) = true := by have := HCL.out.2.1 (by omega); simp; omega
              have f2 : ((i : Int) == 0) = true := by simp; omega
              have f3 : ((m : Int) == (j : Int)) = true := by have := HMM.out.1 (by omega); simp; omega
              go_wp2_with fail
              refine (check_any A c rs _ _ (hM3.ext P) hl).mono ?_
              rintro e v1 ⟨rfl, y⟩
              rw [HC.out.chk]
              replace P := ext_trans P y
              replace ck := ext_cell y ck
              clear y
              go_wp2_with fail
              refine (latLevels_any A c rs _ _ (hM3.ext P) hl).mono ?_
              rintro e v2 ⟨rfl, y⟩
              rw [HC.out.lev]
              replace P := ext_trans P y
              replace ck := ext_cell y ck
              clear y
              go_wp2_with fail
              refine (latAbove_any A c rs i j _ _ (hM3.ext P) hl).mono ?_
              rintro e v3 ⟨rfl, y⟩
              rw [HC.out.above]
              replace P := ext_trans P y
              replace ck := ext_cell y ck
              clear y
              go_wp2_with fail
              refine (latBelow_any A c rs i _ _ (hM3.ext P) hl).mono ?_
              rintro e v4 ⟨v, rfl, hown, y⟩
              obtain ⟨A4, c4, rfl⟩ := hown.form
              rw [HC.out.below]
              clear hown
              replace P := ext_trans P y
              replace ck := ext_cell y ck
              clear y
              go_wp2
              go_ret
              exact ⟨rfl, ext_trans x3 P⟩
            · have f1 : ((cl : Int) == (i : Int)) = true := by have := HCL.out.2.1 (by omega); simp; omega
              have f2 : ((i : Int) == 0) = true := by simp; omega
              have f3 : ((m : Int) == (j : Int)) = true := by have := HMM.out.1 (by omega); simp; omega
              have f4 : ((m : Int) == (i : Int)) = true := by have := HMM.out.1 (by omega); simp; omega
              have hle1 : i ≤ j := by omega
              have hle2 : j ≤ i := by omega
              clear hij
              go_wp2_with fail
              refine (check_any A c rs _ _ (hM3.ext P) hl).mono ?_
              rintro e v1 ⟨rfl, y⟩
              rw [HC.out.chk]
              replace P := ext_trans P y
              replace ck := ext_cell y ck
              clear y
              go_wp2_with fail
              refine (latLevels_any A c rs _ _ (hM3.ext P) hl).mono ?_
              rintro e v2 ⟨rfl, y⟩
              rw [HC.out.lev]
              replace P := ext_trans P y
              replace ck := ext_cell y ck
              clear y
              go_wp2_with fail
              refine (latAbove_any A c rs i j _ _ (hM3.ext P) hl).mono ?_
              rintro e v3 ⟨rfl, y⟩
              rw [HC.out.above]
              replace P := ext_trans P y
              replace ck := ext_cell y ck
              clear y
              go_wp2_with fail
              refine (latBelow_any A c rs i _ _ (hM3.ext P) hl).mono ?_
              rintro e v4 ⟨v, rfl, hown, y⟩
              obtain ⟨A4, c4, rfl⟩ := hown.form
              rw [HC.out.below]
              clear hown
              replace P := ext_trans P y
              replace ck := ext_cell y ck
              clear y
              go_wp2
              go_ret
              exact ⟨rfl, ext_trans x3 P⟩
            · exact absurd hij (by omega)
          · replace hi0 : 0 < i := by omega
            obtain ⟨ao, ea, p0⟩ := NatsAt.get (RowsAt.ext HR1.out Y) (k := 0) (by rw [HCL.out.1, HCL.out.2.2 hi0]; decide)
            subst ea
            obtain ⟨d, hd, hdd⟩ : ∃ d : Nat, (lcovers (mat rs) i)[0]'(by rw [HCL.out.1, HCL.out.2.2 hi0]; decide) = d ∧ d = i - 1 := ⟨_, rfl, by simp [HC.out.covers, Nat.ne_of_gt hi0]⟩
            rw [hd] at p0
            change w6.cell? ao = some (.int .i64 (d : Int)) at p0
            have HDD := Lib.hid (show d + 1 = i by omega)
            clear hd hdd
            rcases (by omega : i = 1 ∨ 1 < i) with hi1 | hi1
            · have hi2 : i ≤ 1 := by omega
              clear hi1
              rcases Nat.lt_trichotomy i j with hij | hij | hij
              · have f1 : ((cl : Int) == (i : Int)) = true := by have := HCL.out.2.2 hi0; simp; omega
                have f2 : ((i : Int) == 0) = false := by simp; omega
                have hcp : 0 < cl := by have := HCL.out.2.2 hi0; omega
                have f5 : ((d : Int) == (i : Int) - 1) = true := by have := HDD.out; simp; omega
                have f3 : ((m : Int) == (j : Int)) = true := by have := HMM.out.1 (by omega); simp; omega
                go_wp2_with fail
                refine (check_any A c rs _ _ (hM3.ext P) hl).mono ?_
                rintro e v1 ⟨rfl, y⟩
                rw [HC.out.chk]
                replace p0 := ext_cell y p0
                replace P := ext_trans P y
                replace ck := ext_cell y ck
                clear y
                go_wp2_with fail
                refine (latLevels_any A c rs _ _ (hM3.ext P) hl).mono ?_
                rintro e v2 ⟨rfl, y⟩
                rw [HC.out.lev]
                replace p0 := ext_cell y p0
                replace P := ext_trans P y
                replace ck := ext_cell y ck
                clear y
                go_wp2_with fail
                refine (latAbove_any A c rs i j _ _ (hM3.ext P) hl).mono ?_
                rintro e v3 ⟨rfl, y⟩
                rw [HC.out.above]
                replace p0 := ext_cell y p0
                replace P := ext_trans P y
                replace ck := ext_cell y ck
                clear y
                go_wp2_with fail
                refine (latBelow_any A c rs i _ _ (hM3.ext P) hl).mono ?_
                rintro e v4 ⟨v, rfl, hown, y⟩
                obtain ⟨A4, c4, rfl⟩ := hown.form
                rw [HC.out.below]
                clear hown
                replace p0 := ext_cell y p0
                replace P := ext_trans P y
                replace ck := ext_cell y ck
                clear y
                go_wp2
                go_ret
                exact ⟨rfl, ext_trans x3 P⟩
              · have f1 : ((cl : Int) == (i : Int)) = true := by have := HCL.out.2.2 hi0; simp; omega
                have f2 : ((i : Int) == 0) = false := by simp; omega
                have hcp : 0 < cl := by have := HCL.out.2.2 hi0; omega
                have f5 : ((d : Int) == (i : Int) - 1) = true := by have := HDD.out; simp; omega
                have f3 : ((m : Int) == (j : Int)) = true := by have := HMM.out.1 (by omega); simp; omega
                have f4 : ((m : Int) == (i : Int)) = true := by have := HMM.out.1 (by omega); simp; omega
                have hle1 : i ≤ j := by omega
                have hle2 : j ≤ i := by omega
                clear hij
                go_wp2_with fail
                refine (check_any A c rs _ _ (hM3.ext P) hl).mono ?_
                rintro e v1 ⟨rfl, y⟩
                rw [HC.out.chk]
                replace p0 := ext_cell y p0
                replace P := ext_trans P y
                replace ck := ext_cell y ck
                clear y
                go_wp2_with fail
                refine (latLevels_any A c rs _ _ (hM3.ext P) hl).mono ?_
                rintro e v2 ⟨rfl, y⟩
                rw [HC.out.lev]
                replace p0 := ext_cell y p0
                replace P := ext_trans P y
                replace ck := ext_cell y ck
                clear y
                go_wp2_with fail
                refine (latAbove_any A c rs i j _ _ (hM3.ext P) hl).mono ?_
                rintro e v3 ⟨rfl, y⟩
                rw [HC.out.above]
                replace p0 := ext_cell y p0
                replace P := ext_trans P y
                replace ck := ext_cell y ck
                clear y
                go_wp2_with fail
                refine (latBelow_any A c rs i _ _ (hM3.ext P) hl).mono ?_
                rintro e v4 ⟨v, rfl, hown, y⟩
                obtain ⟨A4, c4, rfl⟩ := hown.form
                rw [HC.out.below]
                clear hown
                replace p0 := ext_cell y p0
                replace P := ext_trans P y
                replace ck := ext_cell y ck
                clear y
                go_wp2
                go_ret
                exact ⟨rfl, ext_trans x3 P⟩
              · have f1 : ((cl : Int) == (i : Int)) = true := by have := HCL.out.2.2 hi0; simp; omega
                have f2 : ((i : Int) == 0) = false := by simp; omega
                have hcp : 0 < cl := by have := HCL.out.2.2 hi0; omega
                have f5 : ((d : Int) == (i : Int) - 1) = true := by have := HDD.out; simp; omega
                have f3 : ((m : Int) == (i : Int)) = true := by have := HMM.out.2 (by omega); simp; omega
                go_wp2_with fail
                refine (check_any A c rs _ _ (hM3.ext P) hl).mono ?_
                rintro e v1 ⟨rfl, y⟩
                rw [HC.out.chk]
                replace p0 := ext_cell y p0
                replace P := ext_trans P y
                replace ck := ext_cell y ck
                clear y
                go_wp2_with fail
                refine (latLevels_any A c rs _ _ (hM3.ext P) hl).mono ?_
                rintro e v2 ⟨rfl, y⟩
                rw [HC.out.lev]
                replace p0 := ext_cell y p0
                replace P := ext_trans P y
                replace ck := ext_cell y ck
                clear y
                go_wp2_with fail
                refine (latAbove_any A c rs i j _ _ (hM3.ext P) hl).mono ?_
                rintro e v3 ⟨rfl, y⟩
                rw [HC.out.above]
                replace p0 := ext_cell y p0
                replace P := ext_trans P y
                replace ck := ext_cell y ck
                clear y
                go_wp2_with fail
                refine (latBelow_any A c rs i _ _ (hM3.ext P) hl).mono ?_
                rintro e v4 ⟨v, rfl, hown, y⟩
                obtain ⟨A4, c4, rfl⟩ := hown.form
                rw [HC.out.below]
                clear hown
                replace p0 := ext_cell y p0
                replace P := ext_trans P y
                replace ck := ext_cell y ck
                clear y
                go_wp2
                go_ret
                exact ⟨rfl, ext_trans x3 P⟩
            · skip
              rcases Nat.lt_trichotomy i j with hij | hij | hij
              · have f1 : ((cl : Int) == 1) = true := by have := HCL.out.2.2 hi0; simp; omega
                have f2 : ((i : Int) == 0) = false := by simp; omega
                have hcp : 0 < cl := by have := HCL.out.2.2 hi0; omega
                have f5 : ((d : Int) == (i : Int) - 1) = true := by have := HDD.out; simp; omega
                have f3 : ((m : Int) == (j : Int)) = true := by have := HMM.out.1 (by omega); simp; omega
                go_wp2_with fail
                refine (check_any A c rs _ _ (hM3.ext P) hl).mono ?_
                rintro e v1 ⟨rfl, y⟩
                rw [HC.out.chk]
                replace p0 := ext_cell y p0
                replace P := ext_trans P y
                replace ck := ext_cell y ck
                clear y
                go_wp2_with fail
                refine (latLevels_any A c rs _ _ (hM3.ext P) hl).mono ?_
                rintro e v2 ⟨rfl, y⟩
                rw [HC.out.lev]
                replace p0 := ext_cell y p0
                replace P := ext_trans P y
                replace ck := ext_cell y ck
                clear y
                go_wp2_with fail
                refine (latAbove_any A c rs i j _ _ (hM3.ext P) hl).mono ?_
                rintro e v3 ⟨rfl, y⟩
                rw [HC.out.above]
                replace p0 := ext_cell y p0
                replace P := ext_trans P y
                replace ck := ext_cell y ck
                clear y
                go_wp2_with fail
                refine (latBelow_any A c rs i _ _ (hM3.ext P) hl).mono ?_
                rintro e v4 ⟨v, rfl, hown, y⟩
                obtain ⟨A4, c4, rfl⟩ := hown.form
                rw [HC.out.below]
                clear hown
                replace p0 := ext_cell y p0
                replace P := ext_trans P y
                replace ck := ext_cell y ck
                clear y
                go_wp2
                go_ret
                exact ⟨rfl, ext_trans x3 P⟩
              · have f1 : ((cl : Int) == 1) = true := by have := HCL.out.2.2 hi0; simp; omega
                have f2 : ((i : Int) == 0) = false := by simp; omega
                have hcp : 0 < cl := by have := HCL.out.2.2 hi0; omega
                have f5 : ((d : Int) == (i : Int) - 1) = true := by have := HDD.out; simp; omega
                have f3 : ((m : Int) == (j : Int)) = true := by have := HMM.out.1 (by omega); simp; omega
                have f4 : ((m : Int) == (i : Int)) = true := by have := HMM.out.1 (by omega); simp; omega
                have hle1 : i ≤ j := by omega
                have hle2 : j ≤ i := by omega
                clear hij
                go_wp2_with fail
                refine (check_any A c rs _ _ (hM3.ext P) hl).mono ?_
                rintro e v1 ⟨rfl, y⟩
                rw [HC.out.chk]
                replace p0 := ext_cell y p0
                replace P := ext_trans P y
                replace ck := ext_cell y ck
                clear y
                go_wp2_with fail
                refine (latLevels_any A c rs _ _ (hM3.ext P) hl).mono ?_
                rintro e v2 ⟨rfl, y⟩
                rw [HC.out.lev]
                replace p0 := ext_cell y p0
                replace P := ext_trans P y
                replace ck := ext_cell y ck
                clear y
                go_wp2_with fail
                refine (latAbove_any A c rs i j _ _ (hM3.ext P) hl).mono ?_
                rintro e v3 ⟨rfl, y⟩
                rw [HC.out.above]
                replace p0 := ext_cell y p0
                replace P := ext_trans P y
                replace ck := ext_cell y ck
                clear y
                go_wp2_with fail
                refine (latBelow_any A c rs i _ _ (hM3.ext P) hl).mono ?_
                rintro e v4 ⟨v, rfl, hown, y⟩
                obtain ⟨A4, c4, rfl⟩ := hown.form
                rw [HC.out.below]
                clear hown
                replace p0 := ext_cell y p0
                replace P := ext_trans P y
                replace ck := ext_cell y ck
                clear y
                go_wp2
                go_ret
                exact ⟨rfl, ext_trans x3 P⟩
              · have f1 : ((cl : Int) == 1) = true := by have := HCL.out.2.2 hi0; simp; omega
                have f2 : ((i : Int) == 0) = false := by simp; omega
                have hcp : 0 < cl := by have := HCL.out.2.2 hi0; omega
                have f5 : ((d : Int) == (i : Int) - 1) = true := by have := HDD.out; simp; omega
                have f3 : ((m : Int) == (i : Int)) = true := by have := HMM.out.2 (by omega); simp; omega
                go_wp2_with fail
                refine (check_any A c rs _ _ (hM3.ext P) hl).mono ?_
                rintro e v1 ⟨rfl, y⟩
                rw [HC.out.chk]
                replace p0 := ext_cell y p0
                replace P := ext_trans P y
                replace ck := ext_cell y ck
                clear y
                go_wp2_with fail
                refine (latLevels_any A c rs _ _ (hM3.ext P) hl).mono ?_
                rintro e v2 ⟨rfl, y⟩
                rw [HC.out.lev]
                replace p0 := ext_cell y p0
                replace P := ext_trans P y
                replace ck := ext_cell y ck
                clear y
                go_wp2_with fail
                refine (latAbove_any A c rs i j _ _ (hM3.ext P) hl).mono ?_
                rintro e v3 ⟨rfl, y⟩
                rw [HC.out.above]
                replace p0 := ext_cell y p0
                replace P := ext_trans P y
                replace ck := ext_cell y ck
                clear y
                go_wp2_with fail
                refine (latBelow_any A c rs i _ _ (hM3.ext P) hl).mono ?_
                rintro e v4 ⟨v, rfl, hown, y⟩
                obtain ⟨A4, c4, rfl⟩ := hown.form
                rw [HC.out.below]
                clear hown
                replace p0 := ext_cell y p0
                replace P := ext_trans P y
                replace ck := ext_cell y ck
                clear y
                go_wp2
                go_ret
                exact ⟨rfl, ext_trans x3 P⟩
end Go.Proofs.Ytdknkbpgkkakhaa
