/- Layer 2: the law PlanBack, walked. -/
import Derived.Test.YtdknkbpgkkakhaaDoorP14
import Derived.Test.YtdknkbpgkkakhaaDoorBk1
namespace Go.Proofs.YtdknkbpgkkakhaaDoor
open Go.RowKit

/-- Whether a level's line names another one. -/
def bkP (m : Mat) (ms : List Bool) (i k : Nat) : Bool := labove m i k && (decide (k ∈ lcovers m i) || ms.getD (i * m.length + (m.length - 1 - k)) false)
def bkL (m : Mat) (ms : List Bool) (i q : Nat) : List Nat := ((List.range m.length).reverse.take q).filter (bkP m ms i)
theorem bkL_zero (m : Mat) (ms : List Bool) (i : Nat) : bkL m ms i 0 = [] := rfl
theorem bkL_succ {m : Mat} {ms : List Bool} {i q : Nat} (hq : q < m.length) : bkL m ms i (q + 1) = if bkP m ms i (m.length - 1 - q) = true then bkL m ms i q ++ [m.length - 1 - q] else bkL m ms i q := by
  unfold bkL
  rw [List.take_succ_eq_append_getElem (by simpa using hq), List.filter_append, List.getElem_reverse]
  simp only [List.length_range, List.getElem_range]
  split
  · rename_i h; simp [h]
  · rename_i h; simp [h]
theorem bkL_len (m : Mat) (ms : List Bool) (i q : Nat) : (bkL m ms i q).length ≤ q := by
  unfold bkL
  refine Nat.le_trans (List.length_filter_le _ _) ?_
  rw [List.length_take]
  omega
theorem bk_parse {m : Mat} (hm : lchk m = 0) (ms : List Bool) : parseM (txt (fun i => bkL m ms i m.length) m.length) = (m, 0) := by
  have hlv := levels_of m hm
  have hall : (List.range m.length).reverse.take m.length = (List.range m.length).reverse := List.take_of_length_le (by simp)
  refine parse_txt hm (fun a _ => ?_) (fun a _ y hy => ?_) (fun a ha y hy => ?_)
  · unfold bkL
    rw [hall]
    exact List.Pairwise.filter _ (List.pairwise_reverse.2 (List.nodup_range.imp fun h => Ne.symm h))
  · have h := (List.mem_filter.1 hy).2
    unfold bkP at h
    rw [Bool.and_eq_true] at h
    exact h.1
  · unfold bkL
    rw [hall]
    have h1 := mem_below.1 (List.mem_filter.1 hy).1
    have h2 := below_lt (List.mem_filter.1 hy).1
    refine List.mem_filter.2 ⟨by simp; omega, ?_⟩
    simp [bkP, h1, hy]
theorem txt_size {ls : Nat → List Nat} (h : ∀ a, (ls a).length ≤ 6) : ∀ a, (txt ls a).size ≤ 9 * a
  | 0 => Nat.le_refl _
  | a + 1 => by
    have h1 := txt_size h a
    have h2 := nam_size (a : Int)
    have h3 := prNs_size (ls a) (txt ls a ++ nam (a : Int) ++ ⟨#[62]⟩)
    have h4 := h a
    have h5 : (⟨#[62]⟩ : ByteArray).size = 1 := rfl
    have h6 : (⟨#[10]⟩ : ByteArray).size = 1 := rfl
    rw [ByteArray.size_append, ByteArray.size_append, h5] at h3
    rw [txt, ByteArray.size_append, h6]
    omega
set_option maxRecDepth 100000 in
set_option maxHeartbeats 4000000 in
theorem planBack_walk (A : Option Addr) (c : Nat) (rs : List Rw) (Am : Option Addr) (cm : Nat) (ms : List Bool) (w : World) (m : Int) (hm : w.cell? ⟨0, 0, none⟩ = some (.int .i64 m)) (hA : MatAt w w.heap.size A rs) (hl : rs.length ≤ 9223372036854775807) (hM : BitsAt w w.heap.size Am ms) (hml : ms.length ≤ 9223372036854775807) :
    Calls Tryd.prog 4 #[.agg #[.slice A rs.length c], .slice Am ms.length cm] w fun e w' => e = .returned (.bool true) ∧ Ext w w' := by
  obtain ⟨W, hW⟩ : ∃ W, W = w.alloc (.cells #[.slice A rs.length c] 24) := ⟨_, rfl⟩
  have x0 : Ext w W := by rw [hW]; exact ext_alloc _ _
  have b0 : Blk W w.heap.size 24 #[.slice A rs.length c] := by rw [hW]; exact Blk.new _ _ _
  have HW : Hid (w.alloc (.cells #[.slice A rs.length c] 24) = W) := hW.symm
  have HA := Lib.hid (hA.ext x0)
  have HMS := Lib.hid (RowsAt.ext hM x0)
  have hm0 := ext_cell x0 hm
  obtain ⟨B, hB⟩ : ∃ B, B = w.heap.size := ⟨_, rfl⟩
  rw [← hB] at HA b0 HMS
  obtain ⟨g, hg⟩ : ∃ g, g = B := ⟨_, rfl⟩
  rw [← hg] at b0
  have HG : Hid (w.heap.size = g) := by show _ = _; rw [hg, hB]
  clear hW hA hm hg hB hM
  go_enter Tryd.func4, Tryd.ntmps4
  go_upto_region 1 with fail
  rw [HW.out, HG.out]
  have hk := known_any W m hm0
  go_wp2_with fail
  refine hk.mono ?_
  clear hk
  rintro e w1 ⟨rfl, x1⟩
  have c1 := (b0.ext x1).cell 0
  simp only [List.getElem?_toArray, List.getElem?_cons_zero] at c1
  go_wp2_with fail
  refine (few1_any A c rs w1 B (HA.out.ext x1) hl).mono ?_
  rintro e w2 ⟨rfl, x2⟩
  have y2 := ext_trans x1 x2
  clear x1 x2 c1
  cases hf : fewMat 10 (mat rs)
  · clear hf
    go_wp2_with fail
    go_ret
    exact ⟨rfl, ext_trans x0 y2⟩
  clear hf
  have c2 := (b0.ext y2).cell 0
  simp only [List.getElem?_toArray, List.getElem?_cons_zero] at c2
  have hchk := refCheck_any A c rs w2 B (HA.out.ext y2) hl
  go_wp2_with fail
  refine hchk.mono ?_
  clear hchk
  rintro e w3 ⟨rfl, x3⟩
  have y3 := ext_trans y2 x3
  clear y2 x3 c2
  by_cases hz : lchk (mat rs) = 0
  case neg =>
    have dz : ((lchk (mat rs) : Int) != 0) = true := by rw [bne_iff_ne]; omega
    generalize (lchk (mat rs) : Int) = lz at dz
    clear hz
    go_wp2_with fail
    go_ret
    exact ⟨rfl, ext_trans x0 y3⟩
  rw [hz]
  by_cases h40 : 40 < ms.length
  · have d40 : decide (40 < (ms.length : Int)) = true := by rw [decide_eq_true_eq]; omega
    clear hz
    go_wp2_with fail
    go_ret
    exact ⟨rfl, ext_trans x0 y3⟩
  have d40 : decide (40 < (ms.length : Int)) = false := by rw [decide_eq_false_iff_not]; omega
  have HZ := Lib.hid hz
  obtain ⟨hsq, hn1, hn6⟩ := sq_of (lchk_square hz)
  have HSQ := Lib.hid hsq
  have hpp := parse_print hz
  have hps := prUp_size (mat rs) (levels (mat rs))
  have hlv := levels_le (mat rs)
  obtain ⟨P, hP⟩ : ∃ P, P = prUp (mat rs) (levels (mat rs)) := ⟨_, rfl⟩
  have HP := Lib.hid hP.symm
  rw [← hP] at hpp hps
  have c3 := (b0.ext y3).cell 0
  simp only [List.getElem?_toArray, List.getElem?_cons_zero] at c3
  have hpr := print_is (c := c) (HA.out.ext y3) rfl rfl (by omega) HP.out
  clear hz hP hsq
  go_wp2_with fail
  refine hpr.mono ?_
  clear hpr
  rintro e w4 ⟨rfl, x4⟩
  have y4 := ext_trans y3 x4
  have h5 := planParse_is hpp (mat_length rs) w4 (by omega) (ext_cell y4 hm0)
  clear hpp c3 y3 x4
  go_wp2_with fail
  refine h5.mono ?_
  clear h5
  rintro e w5 ⟨A5, c5, rs5, B5, rfl, hm5, hl5, hM5, x5⟩
  have HM5 := Lib.hid hm5
  have z5 := ext_alloc w5 (.cells #[.slice A5 rs.length c5] 24)
  have b5 := Blk.new w5 24 #[.slice A5 rs.length c5]
  obtain ⟨g5, hg5⟩ : ∃ g5, g5 = w5.heap.size := ⟨_, rfl⟩
  rw [← hg5] at b5
  have y5 := ext_trans y4 (ext_trans x5 z5)
  have M5 := hM5.ext z5
  go_upto_region 8 with fail
  rw [← hg5]
  clear hg5 x5 z5 hM5 hm5 y4
  generalize w5.alloc (.cells #[.slice A5 rs.length c5] 24) = v5 at y5 b5 M5 ⊢
  obtain ⟨L, hL⟩ : ∃ L, L = fun i => bkL (mat rs) ms i rs.length := ⟨_, rfl⟩
  have HL : Hid (∀ i, L i = bkL (mat rs) ms i rs.length) := fun i => by rw [hL]
  have HL6 : Hid (∀ i, (L i).length ≤ 6) := fun i => by rw [hL]; have := bkL_len (mat rs) ms i rs.length; show (bkL (mat rs) ms i rs.length).length ≤ 6; omega
  have HBK : Hid (parseM (txt L rs.length) = (mat rs, 0)) := by
    show _ = _
    have := bk_parse HZ.out ms
    rw [mat_length] at this
    rw [hL]
    exact this
  have HB0 := Lib.hid b0
  have HY5 := Lib.hid y5
  clear hL b0
  have h62 : (⟨#[62]⟩ : ByteArray).size = 1 := rfl
  go_wp2_with fail
  go_loopw [7, 8, 9] (fun t u i wr => ∃ a T : Nat, i = .int .i64 (a : Int) ∧ t = .string (txt L a) ∧ u = .int .i64 (T : Int) ∧ Hid (T = a * rs.length) ∧ a ≤ rs.length ∧ Ext v5 wr) (fun _ _ i _ => rs.length - (intOf i).toNat)
  case atStart => exact ⟨0, 0, rfl, rfl, rfl, (Nat.zero_mul _).symm, Nat.zero_le _, Below.refl _ _⟩
  case round =>
    obtain ⟨a, T, rfl, rfl, rfl, HTT, ha, hx⟩ := hrel
    have hT36 : T ≤ 36 := by rw [HTT.out]; exact Nat.mul_le_mul (Nat.le_trans ha hn6) hn6
    have hps2 := txt_size HL6.out a
    have HT : Hid (txt L (a + 1) = prNs (bkL (mat rs) ms a rs.length) (txt L a ++ nam (a : Int) ++ ⟨#[62]⟩) ++ ⟨#[10]⟩) := by show _ = _; rw [txt, HL.out]
    obtain ⟨Q, hQ⟩ : ∃ Q, Q = txt L a := ⟨_, rfl⟩
    have HQ : Hid (txt L a = Q) := hQ.symm
    rw [← hQ] at hps2 HT
    rw [HQ.out]
    clear hQ
    have yx := ext_trans HY5.out hx
    have c1 := (HB0.out.ext yx).cell 0
    simp only [List.getElem?_toArray, List.getElem?_cons_zero] at c1
    by_cases hlt : a < rs.length
    · have hcv := refCovers_any A c rs (a : Int) wr B (HA.out.ext yx) hl
      go_wp2_with fail
      refine hcv.mono ?_
      clear hcv
      rintro e w6 ⟨v, rfl, hown, x6⟩
      obtain ⟨Ac, cc, rfl⟩ := hown.form
      obtain ⟨cl, hcl⟩ : ∃ cl, cl = lcovers (mat rs) (a : Int) := ⟨_, rfl⟩
      have HCL : Hid (lcovers (mat rs) (a : Int) = cl) := hcl.symm
      have hcl6 : cl.length ≤ 6 := by rw [hcl]; exact covers_len _ _
      rw [← hcl] at hown ⊢
      clear hcl
      have hrw : RowsAt w6 0 3 1 natCells Ac cl := hown.rows
      have y6 := ext_trans hx x6
      have c6 := ext_cell x6 c1
      clear hown hx x6 c1 yx
      have hn1 := nam_size (a : Int)
      have q1 : Q.size + (nam (a : Int)).size ≤ 1000 := by omega
      have q2 : (Q ++ nam (a : Int)).size + 1 ≤ 1000 := by rw [ByteArray.size_append]; omega
      have q3 : (Q ++ nam (a : Int) ++ ⟨#[62]⟩).size ≤ 900 := by rw [ByteArray.size_append, ByteArray.size_append, h62]; omega
      go_wp2_with fail
      refine (planName_any (a : Int) w6 (by omega)).mono ?_
      rintro e w7 ⟨rfl, x7⟩
      have hrw7 := hrw.ext x7
      have y7 := ext_trans y6 x7
      have c7 := ext_cell x7 c6
      clear hrw x7 c6 y6
      obtain ⟨R, hR⟩ : ∃ R, R = Q ++ nam (a : Int) ++ ⟨#[62]⟩ := ⟨_, rfl⟩
      go_upto_region 14 with fail
      rw [← hR]
      rw [← hR] at q3 HT
      clear hR q1 q2
      go_loopw [7, 8, 11] (fun t u y wr => ∃ (q : Nat) (yy : Int) (S : ByteArray), y = .int .i64 yy ∧ Hid (yy = (rs.length : Int) - 1 - q) ∧ u = .int .i64 ((T + q : Nat) : Int) ∧ t = .string S ∧ q ≤ rs.length ∧ Ext w7 wr ∧ Hid (S = prNs (bkL (mat rs) ms a q) R) ∧ S.size ≤ 900 + q) (fun _ u _ _ => T + rs.length - (intOf u).toNat)
      case atStart => exact ⟨0, (rs.length : Int) - 1, R, rfl, by show _ = _; omega, rfl, rfl, Nat.zero_le _, Below.refl _ _, rfl, q3⟩
      case round =>
        obtain ⟨q, yy, S, rfl, HYY, rfl, rfl, hq, hxq, HS, hsz⟩ := hrel
        have c8 := ext_cell hxq c7
        by_cases hlq : q < rs.length
        · obtain ⟨kk, hkk⟩ : ∃ kk : Nat, kk = rs.length - 1 - q := ⟨_, rfl⟩
          have hyk : yy = (kk : Int) := by have := HYY.out; omega
          subst hyk
          have HKK : Hid ((kk : Int) = (rs.length : Int) - 1 - q) := HYY
          have hk6 : kk < 6 := by omega
          have d0 : decide (0 ≤ (kk : Int)) = true := by rw [decide_eq_true_eq]; omega
          have HSTEP : Hid (bkL (mat rs) ms a (q + 1) = if (labove (mat rs) (a : Int) (kk : Int) && (decide (kk ∈ cl) || ms.getD (T + q) false)) = true then bkL (mat rs) ms a q ++ [kk] else bkL (mat rs) ms a q) := by
            show _ = _
            have e1 : (mat rs).length - 1 - q = kk := by rw [mat_length, hkk]
            have e2 : a * (mat rs).length + ((mat rs).length - 1 - kk) = T + q := by rw [mat_length, HTT.out]; omega
            rw [bkL_succ (by rw [mat_length]; exact hlq), e1, bkP, HCL.out, e2]
          clear hkk HYY
          go_wp2_with fail
          go_loopw [12, 13] (fun b y wi => ∃ j : Nat, y = .int .i64 (j : Int) ∧ b = .bool (decide (kk ∈ cl.take j)) ∧ j ≤ cl.length ∧ Ext w7 wi) (fun _ y _ => cl.length - (intOf y).toNat)
          case atStart => exact ⟨0, rfl, by simp, Nat.zero_le _, hxq⟩
          case round =>
            clear hxq c8
            obtain ⟨j, rfl, rfl, hj, hxj⟩ := hrel
            by_cases hlj : j < cl.length
            · obtain ⟨adc, rfl, p0⟩ := NatsAt.get (hrw7.ext hxj) hlj
              have HTK : Hid (cl.take (j + 1) = cl.take j ++ [cl[j]]) := List.take_succ_eq_append_getElem hlj
              obtain ⟨z, hz⟩ : ∃ z, z = cl[j] := ⟨_, rfl⟩
              rw [← hz] at p0 HTK
              clear hz
              have HDEC : Hid (decide (kk ∈ cl.take (j + 1)) = (decide (kk ∈ cl.take j) || decide (kk = z))) := by
                show _ = _
                rw [HTK.out]; simp
              cases hd : decide (kk ∈ cl.take j)
              · by_cases e : z = kk
                · have b1 : ((z : Int) == (kk : Int)) = true := by rw [beq_iff_eq]; omega
                  have b2 : (z == kk) = true := by rw [beq_iff_eq]; exact e
                  have HD2 : Hid (decide (kk ∈ cl.take (j + 1)) = true) := by show _ = _; rw [HDEC.out, hd, e]; simp
                  clear hd e
                  go_wp2
                  go_roundw
                  case rel => exact ⟨j + 1, by go_num, by rw [HD2.out], hlj, hxj⟩
                  case measure => simp [intOf]; omega
                · have b1 : ((z : Int) == (kk : Int)) = false := by rw [beq_eq_false_iff_ne]; omega
                  have b2 : (z == kk) = false := by rw [beq_eq_false_iff_ne]; exact e
                  have HD2 : Hid (decide (kk ∈ cl.take (j + 1)) = false) := by show _ = _; rw [HDEC.out, hd]; simp [Ne.symm e]
                  clear hd e
                  go_wp2
                  go_roundw
                  case rel => exact ⟨j + 1, by go_num, by rw [HD2.out], hlj, hxj⟩
                  case measure => simp [intOf]; omega
              · have HD2 : Hid (decide (kk ∈ cl.take (j + 1)) = true) := by show _ = _; rw [HDEC.out, hd]; rfl
                clear hd
                go_wp2
                go_roundw
                case rel => exact ⟨j + 1, by go_num, by rw [HD2.out], hlj, hxj⟩
                case measure => simp [intOf]; omega
            · obtain rfl : j = cl.length := by omega
              rw [List.take_length]
              have c8 := ext_cell hxj c7
              have yl := ext_trans HY5.out (ext_trans y7 hxj)
              have hab := refAbove_any A c rs (a : Int) (kk : Int) wr B (HA.out.ext yl) hl
              generalize decide (kk ∈ cl) = cov at HSTEP ⊢
              generalize labove (mat rs) (a : Int) (kk : Int) = lab at HSTEP hab
              go_wp2_with fail
              refine hab.mono ?_
              clear hab
              rintro e w8 ⟨rfl, x8⟩
              have y8 := ext_trans hxj x8
              have yl8 := ext_trans yl x8
              have hnk := nam_size (kk : Int)
              have q4 : S.size + (nam (kk : Int)).size ≤ 1000 := by omega
              clear x8 hxj yl c8
              cases lab
              · have HP1 : Hid (bkL (mat rs) ms a (q + 1) = bkL (mat rs) ms a q) := by
                  show _ = _
                  rw [HSTEP.out, if_neg (by simp)]
                go_wp2_with fail
                go_roundw
                case rel => exact ⟨q + 1, (kk : Int) - 1, S, rfl, by show _ = _; have := HKK.out; omega, by go_num, rfl, hlq, y8, by show _ = _; rw [HP1.out, HS.out], by omega⟩
                case measure => simp [intOf]; omega
              · cases cov
                · by_cases hat : T + q < ms.length
                  · obtain ⟨adm, rfl, pm⟩ := BitsAt.get (RowsAt.ext HMS.out yl8) hat
                    have HG2 : Hid (ms.getD (T + q) false = ms[T + q]) := by show _ = _; rw [List.getD_eq_getElem?_getD, List.getElem?_eq_getElem hat]; rfl
                    have da : decide (((T + q : Nat) : Int) < (ms.length : Int)) = true := by rw [decide_eq_true_eq]; omega
                    have da2 : decide ((T : Int) + (q : Int) < (ms.length : Int)) = true := by rw [decide_eq_true_eq]; omega
                    generalize ms[T + q] = mb at pm HG2
                    cases mb
                    · have HP1 : Hid (bkL (mat rs) ms a (q + 1) = bkL (mat rs) ms a q) := by
                        show _ = _
                        rw [HSTEP.out, if_neg (by rw [HG2.out]; simp)]
                      go_wp2_with fail
                      go_roundw
                      case rel => exact ⟨q + 1, (kk : Int) - 1, S, rfl, by show _ = _; have := HKK.out; omega, by go_num, rfl, hlq, y8, by show _ = _; rw [HP1.out, HS.out], by omega⟩
                      case measure => simp [intOf]; omega
                    · have HP1 : Hid (bkL (mat rs) ms a (q + 1) = bkL (mat rs) ms a q ++ [kk]) := by
                        show _ = _
                        rw [HSTEP.out, if_pos (by rw [HG2.out]; rfl)]
                      have HS1 : Hid (prNs (bkL (mat rs) ms a (q + 1)) R = S ++ nam (kk : Int)) := by show _ = _; rw [HP1.out, prNs_snoc, HS.out]
                      go_wp2_with fail
                      refine (planName_any (kk : Int) w8 (by omega)).mono ?_
                      rintro e w9 ⟨rfl, x9⟩
                      go_wp2_with fail
                      go_roundw
                      case rel => exact ⟨q + 1, (kk : Int) - 1, S ++ nam (kk : Int), rfl, by show _ = _; have := HKK.out; omega, by go_num, rfl, hlq, ext_trans y8 x9, by show _ = _; rw [HS1.out], by rw [ByteArray.size_append]; omega⟩
                      case measure => simp [intOf]; omega
                  · have da : decide (((T + q : Nat) : Int) < (ms.length : Int)) = false := by rw [decide_eq_false_iff_not]; omega
                    have da2 : decide ((T : Int) + (q : Int) < (ms.length : Int)) = false := by rw [decide_eq_false_iff_not]; omega
                    have HG2 : Hid (ms.getD (T + q) false = false) := by show _ = _; rw [List.getD_eq_getElem?_getD, List.getElem?_eq_none (by omega)]; rfl
                    have HP1 : Hid (bkL (mat rs) ms a (q + 1) = bkL (mat rs) ms a q) := by
                      show _ = _
                      rw [HSTEP.out, if_neg (by rw [HG2.out]; simp)]
                    go_wp2_with fail
                    go_roundw
                    case rel => exact ⟨q + 1, (kk : Int) - 1, S, rfl, by show _ = _; have := HKK.out; omega, by go_num, rfl, hlq, y8, by show _ = _; rw [HP1.out, HS.out], by omega⟩
                    case measure => simp [intOf]; omega
                · have HP1 : Hid (bkL (mat rs) ms a (q + 1) = bkL (mat rs) ms a q ++ [kk]) := by
                    show _ = _
                    rw [HSTEP.out, if_pos (by rfl)]
                  have HS1 : Hid (prNs (bkL (mat rs) ms a (q + 1)) R = S ++ nam (kk : Int)) := by show _ = _; rw [HP1.out, prNs_snoc, HS.out]
                  go_wp2_with fail
                  refine (planName_any (kk : Int) w8 (by omega)).mono ?_
                  rintro e w9 ⟨rfl, x9⟩
                  go_wp2_with fail
                  go_roundw
                  case rel => exact ⟨q + 1, (kk : Int) - 1, S ++ nam (kk : Int), rfl, by show _ = _; have := HKK.out; omega, by go_num, rfl, hlq, ext_trans y8 x9, by show _ = _; rw [HS1.out], by rw [ByteArray.size_append]; omega⟩
                  case measure => simp [intOf]; omega
        · obtain rfl : q = rs.length := by omega
          have hyn : yy = -1 := by have := HYY.out; omega
          subst hyn
          have HF : Hid (txt L (a + 1) = S ++ ⟨#[10]⟩) := by show _ = _; rw [HT.out, HS.out]
          have q5 : S.size + 1 ≤ 1000 := by omega
          have HTN : Hid (T + rs.length = (a + 1) * rs.length) := by show _ = _; rw [HTT.out, Nat.add_mul, Nat.one_mul]
          have yb := ext_trans y7 hxq
          clear c8
          go_wp2_with fail
          go_roundw
          case rel => exact ⟨a + 1, T + rs.length, by go_num, by rw [HF.out], by go_num, HTN.out, hlt, yb⟩
          case measure => simp [intOf]; omega
    · obtain rfl : a = rs.length := by omega
      have h6 := planParse_is (M := mat rs) (k := 0) (s := Q) (by rw [← HQ.out]; exact HBK.out) (mat_length rs) wr (by omega) (ext_cell yx hm0)
      go_wp2_with fail
      refine h6.mono ?_
      clear h6
      rintro e w6 ⟨A6, c6, rs6, B6, rfl, hm6, hl6, hM6, x6⟩
      have HM6 := Lib.hid hm6
      have z6 := ext_alloc w6 (.cells #[.slice A6 rs.length c6] 24)
      have b6 := Blk.new w6 24 #[.slice A6 rs.length c6]
      obtain ⟨g6, hg6⟩ : ∃ g6, g6 = w6.heap.size := ⟨_, rfl⟩
      rw [← hg6] at b6
      have xx := ext_trans hx (ext_trans x6 z6)
      have b5' := b5.ext xx
      have M5' := M5.ext xx
      have M6 := hM6.ext z6
      have yy := ext_trans HY5.out xx
      have hAA := HA.out.ext yy
      have b0' := HB0.out.ext yy
      go_upto_region 26 with fail
      rw [← hg6]
      clear hg6 x6 z6 hM6 hm6 yx c1 b5 M5 hx xx
      generalize w6.alloc (.cells #[.slice A6 rs.length c6] 24) = v6 at yy b6 b5' b0' M5' M6 hAA ⊢
      have k0 := b0'.cell 0
      have k5 := b5'.cell 0
      have k6 := b6.cell 0
      simp only [List.getElem?_toArray, List.getElem?_cons_zero] at k0 k5 k6
      have hsm : ∀ r ∈ rs, r.bs.length ≤ 100 := fun r hr => by
        obtain ⟨i, hi, rfl⟩ := List.getElem_of_mem hr
        rw [HSQ.out i hi]; omega
      have hsz : ∀ (rs' : List Rw), mat rs' = mat rs → ∀ r ∈ rs', r.bs.length ≤ 100 := fun rs' e r hr => by
        have h1 : r.bs ∈ mat rs := by rw [← e]; exact List.mem_map_of_mem hr
        obtain ⟨r', hr', e'⟩ := List.mem_map.1 h1
        rw [← e']
        exact hsm r' hr'
      have HSZ5 := Lib.hid (hsz rs5 HM5.out)
      have HSZ6 := Lib.hid (hsz rs6 HM6.out)
      clear hsm hsz
      have hs1 := same_is (c := c5) (c' := c) M5' hAA hl5 rfl (by omega) HSZ5.out (b := true) (by rw [HM5.out]; exact sameMat_self _)
      go_wp2_with fail
      refine hs1.mono ?_
      clear hs1
      rintro e w7 ⟨rfl, x7⟩
      have r0 := ext_cell x7 k0
      have r6 := ext_cell x7 k6
      have hs2 := same_is (c := c6) (c' := c) (M6.ext x7) (hAA.ext x7) hl6 rfl (by omega) HSZ6.out (b := true) (by rw [HM6.out]; exact sameMat_self _)
      clear k0 k5 k6
      go_wp2_with fail
      refine hs2.mono ?_
      clear hs2
      rintro e w8 ⟨rfl, x8⟩
      go_wp2_with fail
      go_ret
      exact ⟨rfl, ext_trans x0 (ext_trans yy (ext_trans x7 x8))⟩
end Go.Proofs.YtdknkbpgkkakhaaDoor
