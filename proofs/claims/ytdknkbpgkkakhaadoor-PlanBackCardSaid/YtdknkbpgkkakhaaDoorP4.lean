/- Layer 2: the document's Print. -/
import Derived.Test.YtdknkbpgkkakhaaDoorP1
import Derived.Test.YtdknkbpgkkakhaaDoorLat6
namespace Go.Proofs.YtdknkbpgkkakhaaDoor
open Go.RowKit

def prNs (l : List Nat) (s : ByteArray) : ByteArray := l.foldl (fun s (c : Nat) => s ++ nam (c : Int)) s
def prUp (ms : Mat) : Nat → ByteArray
  | 0 => ⟨#[]⟩
  | a + 1 => prNs (lcovers ms (a : Int)) (prUp ms a ++ nam (a : Int) ++ ⟨#[62]⟩) ++ ⟨#[10]⟩
theorem nam_size (n : Int) : (nam n).size ≤ 1 := by unfold nam; split <;> first | simp [strOfNums_size] | exact Nat.zero_le _
theorem prNs_size (l : List Nat) (s : ByteArray) : (prNs l s).size ≤ s.size + l.length := by
  induction l generalizing s with
  | nil => exact Nat.le_refl _
  | cons c l ih =>
    have := ih (s ++ nam (c : Int))
    have h2 := nam_size (c : Int)
    rw [ByteArray.size_append] at this
    show (prNs l (s ++ nam (c : Int))).size ≤ _
    rw [List.length_cons]
    omega
theorem prNs_snoc (l : List Nat) (c : Nat) (s : ByteArray) : prNs (l ++ [c]) s = prNs l s ++ nam (c : Int) := by simp [prNs, List.foldl_append]
theorem covers_len (ms : Mat) (a : Int) : (lcovers ms a).length ≤ 6 := Nat.le_trans (List.length_filter_le _ _) (below_le ms a)
theorem covers_lt {ms : Mat} {a : Int} {x : Nat} (h : x ∈ lcovers ms a) : x < 6 := by
  unfold lcovers at h
  have h1 := (List.mem_filter.1 h).1
  unfold lbelow at h1
  have h2 := List.mem_range.1 (List.mem_filter.1 h1).1
  have := levels_le ms
  omega
theorem prUp_size (ms : Mat) : ∀ a, (prUp ms a).size ≤ 9 * a
  | 0 => Nat.le_refl _
  | a + 1 => by
    have h1 := prUp_size ms a
    have h2 := nam_size (a : Int)
    have h3 := prNs_size (lcovers ms (a : Int)) (prUp ms a ++ nam (a : Int) ++ ⟨#[62]⟩)
    have h4 := covers_len ms (a : Int)
    have h5 : (⟨#[62]⟩ : ByteArray).size = 1 := rfl
    have h6 : (⟨#[10]⟩ : ByteArray).size = 1 := rfl
    rw [ByteArray.size_append, ByteArray.size_append, h5] at h3
    show (prNs _ _ ++ _).size ≤ _
    rw [ByteArray.size_append, h6]
    omega
set_option maxRecDepth 100000 in
set_option maxHeartbeats 4000000 in
theorem refPrint_any (A : Option Addr) (c : Nat) (rs : List Rw) (w : World) (B : Nat) (hA : MatAt w B A rs) (hl : rs.length ≤ 9223372036854775807) :
    Calls Tryd.prog 14 #[.agg #[.slice A rs.length c]] w fun e w' => e = .returned (.string (prUp (mat rs) (levels (mat rs)))) ∧ Ext w w' := by
  obtain ⟨W, hW⟩ : ∃ W, W = w.alloc (.cells #[.slice A rs.length c] 24) := ⟨_, rfl⟩
  have x0 : Ext w W := by rw [hW]; exact ext_alloc _ _
  have b0 : Blk W w.heap.size 24 #[.slice A rs.length c] := by rw [hW]; exact Blk.new _ _ _
  have HM := Lib.hid (hA.ext x0)
  have HW : Hid (w.alloc (.cells #[.slice A rs.length c] 24) = W) := hW.symm
  have hlv := levels_le (mat rs)
  obtain ⟨N, hN⟩ : ∃ N, N = levels (mat rs) := ⟨_, rfl⟩
  have HN : Hid (levels (mat rs) = N) := hN.symm
  rw [← hN] at hlv ⊢
  clear hW hN hA
  have c0 := b0.cell 0
  simp only [List.getElem?_toArray, List.getElem?_cons_zero] at c0
  go_enter Tryd.func14, Tryd.ntmps14
  go_upto_region 1 with fail
  rw [HW.out]
  obtain ⟨g, hg⟩ : ∃ g, g = w.heap.size := ⟨_, rfl⟩
  rw [← hg] at c0 ⊢
  clear hg
  go_wp2_with fail
  go_loopw [3, 4] (fun t i wr => ∃ a : Nat, i = .int .i64 (a : Int) ∧ t = .string (prUp (mat rs) a) ∧ a ≤ N ∧ Ext W wr) (fun _ i _ => N - (intOf i).toNat)
  case atStart => exact ⟨0, rfl, rfl, Nat.zero_le _, Below.refl _ _⟩
  case round =>
    obtain ⟨a, rfl, rfl, ha, hx⟩ := hrel
    have c1 := ext_cell hx c0
    have hps := prUp_size (mat rs) a
    have hns := nam_size (a : Int)
    have HPS : Hid (prUp (mat rs) (a + 1) = prNs (lcovers (mat rs) (a : Int)) (prUp (mat rs) a ++ nam (a : Int) ++ ⟨#[62]⟩) ++ ⟨#[10]⟩) := rfl
    obtain ⟨P, hP⟩ : ∃ P, P = prUp (mat rs) a := ⟨_, rfl⟩
    have HP : Hid (prUp (mat rs) a = P) := hP.symm
    rw [← hP] at hps HPS ⊢
    clear hP
    go_wp2_with fail
    refine (refLevels_any A c rs wr B (HM.out.ext hx) hl).mono ?_
    rintro e w2 ⟨rfl, x2⟩
    rw [HN.out]
    have c2 := ext_cell x2 c1
    clear c1
    by_cases hlt : a < N
    · have hd : decide ((a : Int) < (N : Int)) = true := by rw [decide_eq_true_eq]; omega
      go_wp2_with fail
      refine (refName_any (a : Int) w2 (by omega)).mono ?_
      rintro e w3 ⟨rfl, x3⟩
      have c3 := ext_cell x3 c2
      clear c2
      have hsz1 : (P ++ nam (a : Int)).size ≤ 1000 := by rw [ByteArray.size_append]; omega
      have h62 : (⟨#[62]⟩ : ByteArray).size = 1 := rfl
      have hsz2 : (P ++ nam (a : Int) ++ ⟨#[62]⟩).size ≤ 1000 := by rw [ByteArray.size_append, ByteArray.size_append, h62]; omega
      have hq1 : P.size + (nam (a : Int)).size ≤ 1000 := by omega
      have hq2 : (P ++ nam (a : Int)).size + 1 ≤ 1001 := by omega
      go_wp2_with fail
      refine (refCovers_any A c rs (a : Int) w3 B ((HM.out.ext hx).ext (ext_trans x2 x3)) hl).mono ?_
      rintro e w4 ⟨v, rfl, hown, x4⟩
      obtain ⟨Ac, cc, rfl⟩ := hown.form
      have c4 := ext_cell x4 c3
      clear c3
      have hR : NatsAt w4 w3.heap.size Ac (lcovers (mat rs) (a : Int)) := hown.rows
      obtain ⟨ls, hls⟩ : ∃ ls, ls = lcovers (mat rs) (a : Int) := ⟨_, rfl⟩
      have hll : ls.length ≤ 6 := by rw [hls]; exact covers_len _ _
      have H6 : Hid (∀ x ∈ ls, x < 6) := by rw [hls]; exact fun x hx => covers_lt hx
      rw [← hls] at hR HPS ⊢
      clear hown hls
      obtain ⟨P2, hP2⟩ : ∃ P2, P2 = P ++ nam (a : Int) ++ ⟨#[62]⟩ := ⟨_, rfl⟩
      rw [← hP2] at hsz2 HPS ⊢
      clear hP2 hsz1 hq1 hq2
      go_wp2_with fail
      go_loopw [3, 6] (fun t i wi => ∃ (j : Nat) (S : ByteArray), i = .int .i64 (j : Int) ∧ t = .string S ∧ j ≤ ls.length ∧ Ext w4 wi ∧ Hid (S = prNs (ls.take j) P2) ∧ S.size ≤ 1000 + j) (fun _ i _ => ls.length - (intOf i).toNat)
      case atStart => exact ⟨0, P2, rfl, rfl, Nat.zero_le _, Below.refl _ _, rfl, hsz2⟩
      case round =>
        obtain ⟨j, S, rfl, rfl, hj, hxj, HS, hss⟩ := hrel
        by_cases hlj : j < ls.length
        · obtain ⟨ad, rfl, p0⟩ := NatsAt.get (hR.ext hxj) hlj
          have HTK : Hid (prNs (ls.take (j + 1)) P2 = S ++ nam (ls[j] : Int)) := by
            show _ = _
            rw [List.take_succ_eq_append_getElem hlj, prNs_snoc, HS.out]
          obtain ⟨q, hq⟩ : ∃ q, q = ls[j] := ⟨_, rfl⟩
          have hq6 : q < 6 := by rw [hq]; exact H6.out _ (List.getElem_mem hlj)
          rw [← hq] at p0 HTK
          clear hq
          have hnq := nam_size (q : Int)
          go_wp2_with fail
          refine (refName_any (q : Int) wr (by omega)).mono ?_
          rintro e w5 ⟨rfl, x5⟩
          have hq3 : (S ++ nam (q : Int)).size ≤ 1000 + (j + 1) := by rw [ByteArray.size_append]; omega
          have hq4 : S.size + (nam (q : Int)).size ≤ 2000 := by omega
          go_wp2_with fail
          go_roundw
          case rel => exact ⟨j + 1, S ++ nam (q : Int), by go_num, rfl, hlj, ext_trans hxj x5, by show _ = _; rw [HTK.out], hq3⟩
          case measure => simp [intOf]; omega
        · obtain rfl : j = ls.length := by omega
          have c5 := ext_cell hxj c4
          have hq5 : S.size + 1 ≤ 2000 := by omega
          go_wp2_with fail
          go_roundw
          case rel => exact ⟨a + 1, by go_num, by rw [HPS.out, HS.out, List.take_length], hlt, ext_trans (ext_trans (ext_trans (ext_trans hx x2) x3) x4) hxj⟩
          case measure => simp [intOf]; omega
    · obtain rfl : a = N := by omega
      go_wp2_with fail
      go_ret
      exact ⟨by rw [HP.out]; rfl, ext_trans (ext_trans x0 hx) x2⟩
end Go.Proofs.YtdknkbpgkkakhaaDoor
