/- Layer 2: the program's Print. -/
import Derived.Test.YtdknkbpgkkakhaaDoorP7
namespace Go.Proofs.YtdknkbpgkkakhaaDoor
open Go.RowKit

/-- A row of numbers stands through a write into the Builder. -/
theorem own_others {w w' : World} {b g B : Nat} {v : Value} {l : List Nat} (h : Own elNat w g v l) (k : Lib.OthersKept 5 (some b) w w') (_kb : Below B w w') (hb : b < g) : Own elNat w' g v l := by
  refine ⟨h.1, ?_⟩
  rcases h.2 with h2 | ⟨q, cap, cur, hv, hg, hh, r⟩
  · exact .inl h2
  · refine .inr ⟨q, cap, cur, hv, hg, ?_, r⟩
    exact k q _ hh (by intro e; injection e; omega) (fun c fz e => by
      injection e with _ e2
      exact absurd e2 (by decide))
theorem nat_others {w w' : World} {b g B : Nat} {A : Option Addr} {c : Nat} {l : List Nat} (h : Own elNat w g (.slice A l.length c) l) (k : Lib.OthersKept 5 (some b) w w') (kb : Below B w w') (hb : b < g) : Own elNat w' g (.slice A l.length c) l := own_others h k kb hb
set_option maxRecDepth 100000 in
set_option maxHeartbeats 4000000 in
theorem planPrint_any (A : Option Addr) (c : Nat) (rs : List Rw) (w : World) (B : Nat) (hA : MatAt w B A rs) (hl : rs.length ≤ 9223372036854775807) :
    Calls Tryd.prog 13 #[.agg #[.slice A rs.length c]] w fun e w' => e = .returned (.string (prUp (mat rs) (levels (mat rs)))) ∧ Ext w w' := by
  obtain ⟨W, hW⟩ : ∃ W, W = w.alloc (.cells #[.slice A rs.length c] 24) := ⟨_, rfl⟩
  have x0 : Ext w W := by rw [hW]; exact ext_alloc _ _
  have b0 : Blk W w.heap.size 24 #[.slice A rs.length c] := by rw [hW]; exact Blk.new _ _ _
  have HM := Lib.hid (hA.ext x0)
  have HW : Hid (w.alloc (.cells #[.slice A rs.length c] 24) = W) := hW.symm
  obtain ⟨V, hV⟩ : ∃ V, V = W.alloc (.cells #[.pointer none, .slice none 0 0] 59) := ⟨_, rfl⟩
  have x1 : Ext W V := by rw [hV]; exact ext_alloc _ _
  have bl : Bld V W.heap.size W.heap.size ⟨#[]⟩ := by rw [hV]; exact Bld.new (Nat.le_refl _)
  have HV : Hid (W.alloc (.cells #[.pointer none, .slice none 0 0] 59) = V) := hV.symm
  have hlv := levels_le (mat rs)
  obtain ⟨N, hN⟩ : ∃ N, N = levels (mat rs) := ⟨_, rfl⟩
  have HN : Hid (levels (mat rs) = N) := hN.symm
  rw [← hN] at hlv ⊢
  clear hW hN hA hV
  have c0 := b0.cell 0
  simp only [List.getElem?_toArray, List.getElem?_cons_zero] at c0
  go_enter Tryd.func13, Tryd.ntmps13
  go_upto_region 1 with fail
  rw [HW.out]
  obtain ⟨g, hg⟩ : ∃ g, g = w.heap.size := ⟨_, rfl⟩
  rw [← hg] at c0 ⊢
  clear hg
  go_upto_region 2 with fail
  rw [HV.out]
  obtain ⟨b, hb⟩ : ∃ b, b = W.heap.size := ⟨_, rfl⟩
  have HB : Hid (W.heap.size = b) := hb.symm
  rw [← hb] at bl ⊢
  clear hb
  have c1 := ext_cell x1 c0
  go_wp2_with fail
  refine (latLevels_any A c rs V B (HM.out.ext x1) hl).mono ?_
  rintro e w2 ⟨rfl, x2⟩
  rw [HN.out]
  have bl2 := bl.ext x2
  have y2 := ext_trans x1 x2
  clear bl c1
  have h62 : (⟨#[62]⟩ : ByteArray).size = 1 := rfl
  have h10 : (⟨#[10]⟩ : ByteArray).size = 1 := rfl
  go_wp2_with fail
  go_loopw [9] (fun i wr => ∃ a : Nat, i = .int .i64 (a : Int) ∧ a ≤ N ∧ Ext W wr ∧ Bld wr b b (prUp (mat rs) a)) (fun i _ => N - (intOf i).toNat)
  case atStart => exact ⟨0, rfl, Nat.zero_le _, y2, bl2⟩
  case round =>
    clear bl2 y2 x2
    obtain ⟨a, rfl, ha, hx, hbl⟩ := hrel
    have c1 := ext_cell hx c0
    have hps := prUp_size (mat rs) a
    have hns := nam_size (a : Int)
    have HPS : Hid (prUp (mat rs) (a + 1) = prNs (lcovers (mat rs) (a : Int)) (prUp (mat rs) a ++ nam (a : Int) ++ ⟨#[62]⟩) ++ ⟨#[10]⟩) := rfl
    obtain ⟨P, hP⟩ : ∃ P, P = prUp (mat rs) a := ⟨_, rfl⟩
    have HP : Hid (prUp (mat rs) a = P) := hP.symm
    rw [← hP] at hps HPS hbl
    clear hP
    by_cases hlt : a < N
    · have hd : decide ((a : Int) < (N : Int)) = true := by rw [decide_eq_true_eq]; omega
      go_wp2_with fail
      refine (planName_any (a : Int) wr (by omega)).mono ?_
      rintro e w3 ⟨rfl, x3⟩
      have hbl3 := hbl.ext x3
      have y3 := ext_trans hx x3
      clear hbl hx
      have hq1 : P.size + ((nam (a : Int)) ++ ⟨#[62]⟩).size ≤ 1000 := by rw [ByteArray.size_append, h62]; omega
      have hq2 : (nam (a : Int)).size + 1 ≤ 1000 := by omega
      have hq0 : ((nam (a : Int)) ++ ⟨#[62]⟩).size ≤ 2 := by rw [ByteArray.size_append, h62]; omega
      go_wp2_with fail
      have hzhbl3 : P.size + ((nam (a : Int) ++ ⟨#[62]⟩) : ByteArray).size ≤ 1000000 := by (try rw [h10]); omega
      have hwhbl3 := write_any hbl3 (nam (a : Int) ++ ⟨#[62]⟩) hzhbl3
      refine hwhbl3.mono ?_
      clear hzhbl3 hwhbl3
      rintro e w4 ⟨rfl, hbl4, k4, o4⟩
      have y4 : Ext W w4 := y3.trans (k4.mono (by rw [HB.out]; exact Nat.le_refl _))
      clear hbl3 k4 o4
      have c4 := ext_cell y4 c0
      rw [show P ++ (nam (a : Int) ++ ⟨#[62]⟩) = P ++ nam (a : Int) ++ ⟨#[62]⟩ from (ByteArray.append_assoc).symm] at hbl4
      have hsz2 : (P ++ nam (a : Int) ++ ⟨#[62]⟩).size ≤ 1000 := by rw [ByteArray.size_append, ByteArray.size_append, h62]; omega
      obtain ⟨P2, hP2⟩ : ∃ P2, P2 = P ++ nam (a : Int) ++ ⟨#[62]⟩ := ⟨_, rfl⟩
      rw [← hP2] at hsz2 HPS hbl4
      clear hP2 hq1 hq2 c1
      go_wp2_with fail
      refine (latCovers_any A c rs (a : Int) w4 B (HM.out.ext y4) hl).mono ?_
      rintro e w5 ⟨v, rfl, hown, x5⟩
      obtain ⟨Ac, cc, rfl⟩ := hown.form
      have hbl5 := hbl4.ext x5
      have y5 := ext_trans y4 x5
      have hb4 : b < w4.heap.size := hbl4.lt.2
      clear hbl4 c4
      obtain ⟨ls, hls⟩ : ∃ ls, ls = lcovers (mat rs) (a : Int) := ⟨_, rfl⟩
      have hll : ls.length ≤ 6 := by rw [hls]; exact covers_len _ _
      have H6 : Hid (∀ x ∈ ls, x < 6) := by rw [hls]; exact fun x hx => covers_lt hx
      rw [← hls] at hown HPS ⊢
      clear hls
      go_wp2_with fail
      go_loopw [20] (fun i wi => ∃ (j : Nat) (S : ByteArray), i = .int .i64 (j : Int) ∧ j ≤ ls.length ∧ Ext W wi ∧ Bld wi b b S ∧ Own elNat wi w4.heap.size (.slice Ac ls.length cc) ls ∧ Hid (S = prNs (ls.take j) P2) ∧ S.size ≤ 1000 + j) (fun i _ => ls.length - (intOf i).toNat)
      case atStart => exact ⟨0, P2, rfl, Nat.zero_le _, y5, hbl5, hown, rfl, hsz2⟩
      case round =>
        clear hbl5 hown y5 x5 y4 y3 x3
        obtain ⟨j, S, rfl, hj, hxj, hblj, hownj, HS, hss⟩ := hrel
        by_cases hlj : j < ls.length
        · obtain ⟨ad, rfl, p0⟩ := NatsAt.get (B := 0) hownj.rows hlj
          have HTK : Hid (prNs (ls.take (j + 1)) P2 = S ++ nam (ls[j] : Int)) := by
            show _ = _
            rw [List.take_succ_eq_append_getElem hlj, prNs_snoc, HS.out]
          obtain ⟨q, hq⟩ : ∃ q, q = ls[j] := ⟨_, rfl⟩
          have hq6 : q < 6 := by rw [hq]; exact H6.out _ (List.getElem_mem hlj)
          rw [← hq] at p0 HTK
          clear hq
          have hnq := nam_size (q : Int)
          go_wp2_with fail
          refine (planName_any (q : Int) wr (by omega)).mono ?_
          rintro e w6 ⟨rfl, x6⟩
          have hbl6 := hblj.ext x6
          have hown6 := hownj.ext x6
          have y6 := ext_trans hxj x6
          clear hblj hownj hxj p0
          go_wp2_with fail
          have hzhbl6 : S.size + ((nam (q : Int)) : ByteArray).size ≤ 1000000 := by (try rw [h10]); omega
          have hwhbl6 := write_any hbl6 (nam (q : Int)) hzhbl6
          refine hwhbl6.mono ?_
          clear hzhbl6 hwhbl6
          rintro e w7 ⟨rfl, hbl7, k7, o7⟩
          have hown7 := nat_others hown6 o7 k7 hb4
          have y7 : Ext W w7 := y6.trans (k7.mono (by rw [HB.out]; exact Nat.le_refl _))
          clear hbl6 hown6 k7 o7
          have hq3 : (S ++ nam (q : Int)).size ≤ 1000 + (j + 1) := by rw [ByteArray.size_append]; omega
          go_wp2_with fail
          go_roundw
          case rel => exact ⟨j + 1, S ++ nam (q : Int), by go_num, hlj, y7, hbl7, hown7, by show _ = _; rw [HTK.out], hq3⟩
          case measure => simp [intOf]; omega
        · obtain rfl : j = ls.length := by omega
          clear hownj
          go_wp2_with fail
          have hzhblj : S.size + (⟨#[10]⟩ : ByteArray).size ≤ 1000000 := by (try rw [h10]); omega
          have hwhblj := write_any hblj ⟨#[10]⟩ hzhblj
          refine hwhblj.mono ?_
          clear hzhblj hwhblj
          rintro e w7 ⟨rfl, hbl7, k7, o7⟩
          have y7 : Ext W w7 := hxj.trans (k7.mono (by rw [HB.out]; exact Nat.le_refl _))
          go_wp2_with fail
          go_roundw
          case rel => exact ⟨a + 1, by go_num, hlt, y7, by rw [HPS.out, show prNs ls P2 = S by rw [HS.out, List.take_length]]; exact hbl7⟩
          case measure => simp [intOf]; omega
    · obtain rfl : a = N := by omega
      go_wp2_with fail
      refine (string_any hbl).mono ?_
      rintro e w3 ⟨rfl, k3⟩
      have y3 : Ext W w3 := hx.trans (k3.mono (by rw [HB.out]; exact Nat.le_refl _))
      go_wp2_with fail
      go_ret
      exact ⟨by rw [HP.out]; rfl, ext_trans x0 y3⟩
end Go.Proofs.YtdknkbpgkkakhaaDoor
