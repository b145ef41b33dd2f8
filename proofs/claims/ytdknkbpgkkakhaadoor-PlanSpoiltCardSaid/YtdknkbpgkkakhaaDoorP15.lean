/- Layer 2: the law PlanSpoilt, walked. -/
import Derived.Test.YtdknkbpgkkakhaaDoorP13
namespace Go.Proofs.YtdknkbpgkkakhaaDoor
open Go.RowKit

def badL : List ByteArray := [⟨#[]⟩, ⟨#[97, 62]⟩, ⟨#[97, 10]⟩, ⟨#[97, 62, 97, 10]⟩, ⟨#[97, 62, 10, 98, 62, 97, 97, 10]⟩, ⟨#[97, 62, 10, 98, 62, 99, 10]⟩, ⟨#[98, 62, 10, 97, 62, 10]⟩, ⟨#[97, 62, 10, 10]⟩, ⟨#[97, 62, 32, 10]⟩, ⟨#[65, 62, 10]⟩]
def badS (a : Nat) : ByteArray := badL.getD a ⟨#[]⟩
theorem bad_all : ((List.range 10).all fun a => decide (parseM (badS a) = ([], 10))) = true := by decide +kernel
theorem bad_is {a : Nat} (h : a < 10) : parseM (badS a) = ([], 10) := by
  have := List.all_eq_true.1 bad_all a (List.mem_range.2 h)
  simpa using this
theorem bad_size : ((List.range 10).all fun a => decide ((badS a).size ≤ 100)) = true := by decide +kernel
theorem bad_small {a : Nat} (h : a < 10) : (badS a).size ≤ 100 := by
  have := List.all_eq_true.1 bad_size a (List.mem_range.2 h)
  simpa using this
/-- The names of the first k levels, a line each. -/
def spS : Nat → ByteArray
  | 0 => ⟨#[]⟩
  | k + 1 => spS k ++ strOfNums [97 + (k : Int)] ++ ⟨#[62, 10]⟩
def spM (k : Nat) : Mat × Nat := if k ≤ 6 then ((List.range k).map fun a => (List.range k).map fun b => decide (a = b), 0) else ([], 10)
theorem sp_all : ((List.range 9).all fun k => decide (k = 0) || decide (parseM (spS k) = spM k)) = true := by decide +kernel
theorem sp_is {k : Nat} (h1 : 1 ≤ k) (h8 : k ≤ 8) : parseM (spS k) = spM k := by
  have := List.all_eq_true.1 sp_all k (List.mem_range.2 (by omega))
  simp only [Bool.or_eq_true, decide_eq_true_eq] at this
  rcases this with h | h
  · omega
  · exact h
theorem sp_size : ∀ k, (spS k).size = 3 * k
  | 0 => rfl
  | k + 1 => by
    rw [spS, ByteArray.size_append, ByteArray.size_append, sp_size k, strOfNums_size]
    show 3 * k + 1 + 2 = _
    omega
theorem round_is : parseM ⟨#[97, 62, 98, 10, 98, 62, 99, 10, 99, 62, 97, 10]⟩ = ([], 11) := by decide +kernel
def badCells : Array Value := (badL.map Value.string).toArray
theorem badCells_get {a : Nat} (h : a < 10) : badCells[a]? = some (.string (badS a)) := by
  unfold badCells badS
  rw [List.getElem?_toArray, List.getElem?_map, List.getElem?_eq_getElem (show a < badL.length from h), List.getD_eq_getElem?_getD, List.getElem?_eq_getElem (show a < badL.length from h)]
  rfl
set_option maxRecDepth 100000 in
set_option maxHeartbeats 4000000 in
theorem planSpoilt_walk (x n : Nat) (hx : x ≤ 255) (hn : n ≤ 255) (w : World) (m : Int) (hm : w.cell? ⟨0, 0, none⟩ = some (.int .i64 m)) :
    Calls Tryd.prog 5 #[.int .u8 (x : Int), .int .u8 (n : Int)] w fun e w' => e = .returned (.bool true) ∧ Ext w w' := by
  have hk := known_any w m hm
  go_enter Tryd.func5, Tryd.ntmps5
  go_wp2_with fail
  refine hk.mono ?_
  clear hk
  rintro e w1 ⟨rfl, x1⟩
  obtain ⟨V, hV⟩ : ∃ V, V = w1.alloc (.cells #[.string ⟨#[]⟩, .string ⟨#[97, 62]⟩, .string ⟨#[97, 10]⟩, .string ⟨#[97, 62, 97, 10]⟩, .string ⟨#[97, 62, 10, 98, 62, 97, 97, 10]⟩, .string ⟨#[97, 62, 10, 98, 62, 99, 10]⟩, .string ⟨#[98, 62, 10, 97, 62, 10]⟩, .string ⟨#[97, 62, 10, 10]⟩, .string ⟨#[97, 62, 32, 10]⟩, .string ⟨#[65, 62, 10]⟩] 44) := ⟨_, rfl⟩
  have z1 : Ext w1 V := by rw [hV]; exact ext_alloc _ _
  have b1 : Blk V w1.heap.size 44 badCells := by rw [hV]; exact Blk.new w1 44 badCells
  have HV : Hid (w1.alloc (.cells #[.string ⟨#[]⟩, .string ⟨#[97, 62]⟩, .string ⟨#[97, 10]⟩, .string ⟨#[97, 62, 97, 10]⟩, .string ⟨#[97, 62, 10, 98, 62, 97, 97, 10]⟩, .string ⟨#[97, 62, 10, 98, 62, 99, 10]⟩, .string ⟨#[98, 62, 10, 97, 62, 10]⟩, .string ⟨#[97, 62, 10, 10]⟩, .string ⟨#[97, 62, 32, 10]⟩, .string ⟨#[65, 62, 10]⟩] 44) = V) := hV.symm
  clear hV
  have y1 := ext_trans x1 z1
  obtain ⟨g1, hg1⟩ : ∃ g, g = w1.heap.size := ⟨_, rfl⟩
  rw [← hg1] at b1
  have ha10 : x % 10 < 10 := by omega
  have c1 : V.cell? ⟨g1, x % 10, none⟩ = some (.string (badS (x % 10))) := by rw [b1.cell]; exact badCells_get ha10
  have h2 := planParse_is (bad_is ha10) (n := 0) rfl V (by have := bad_small ha10; omega) (ext_cell y1 hm)
  generalize badS (x % 10) = sb at c1 h2
  go_upto_region 4 with fail
  rw [HV.out]
  rw [← hg1]
  clear hg1 z1 x1 b1 ha10
  go_wp2_with fail
  refine h2.mono ?_
  clear h2
  rintro e w2 ⟨A2, c2, rs2, B2, rfl, _, _, _, x2⟩
  have y2 := ext_trans y1 (ext_trans x2 (ext_alloc w2 (.cells #[.slice A2 0 c2] 24)))
  go_upto_region 5 with fail
  clear x2 y1 c1
  generalize w2.alloc (.cells #[.slice A2 0 c2] 24) = v2 at y2 ⊢
  obtain ⟨k, hk⟩ : ∃ k, k = n % 8 + 1 := ⟨_, rfl⟩
  have hkb : 1 ≤ k ∧ k ≤ 8 := by omega
  have HK : Hid ((n : Int) % 8 + 1 = (k : Int)) := by show _ = _; omega
  go_upto_region 7 with fail
  rw [HK.out]
  clear hk
  go_wp2_with fail
  go_loopw [8, 10] (fun t i wr => ∃ j : Nat, i = .int .i64 (j : Int) ∧ t = .string (spS j) ∧ j ≤ k ∧ Ext w wr) (fun _ i _ => k - (intOf i).toNat)
  case atStart => exact ⟨0, rfl, rfl, Nat.zero_le _, y2⟩
  case round =>
    clear y2
    obtain ⟨j, rfl, rfl, hj, hx2⟩ := hrel
    have hps := sp_size j
    have HPS : Hid (spS (j + 1) = spS j ++ strOfNums [97 + (j : Int)] ++ ⟨#[62, 10]⟩) := rfl
    have hst : (strOfNums [97 + (j : Int)]).size = 1 := strOfNums_size _
    obtain ⟨P, hP⟩ : ∃ P, P = spS j := ⟨_, rfl⟩
    have HP : Hid (spS j = P) := hP.symm
    rw [← hP] at hps HPS ⊢
    clear hP
    by_cases hlt : j < k
    · have hcv : (convert 45 9 (.slice (some ⟨wr.heap.size, 0, none⟩) 1 1)).run Tryd.prog (wr.alloc (.cells #[.int .u8 (97 + (j : Int))] 5)) = .ok (.string (strOfNums [97 + (j : Int)])) (wr.alloc (.cells #[.int .u8 (97 + (j : Int))] 5)) :=
        run_convert_bytes_arg _ 45 5 Tryd.underlying45 Tryd.underlying5 _ 0 1 1 [97 + (j : Int)] rfl (fun i hi => by
          obtain rfl : i = 0 := by omega
          simp [go_sem]) 9 Tryd.underlying9
      have hq1 : P.size + (strOfNums [97 + (j : Int)]).size ≤ 1000 := by omega
      have hq2 : (P ++ strOfNums [97 + (j : Int)]).size + 2 ≤ 1000 := by rw [ByteArray.size_append]; omega
      go_wp2
      go_roundw
      case rel => exact ⟨j + 1, by go_num, by rw [HPS.out], hlt, ext_trans hx2 (ext_alloc _ _)⟩
      case measure => simp [intOf]; omega
    · obtain rfl : k = j := by omega
      have hpm := sp_is hkb.1 hkb.2
      rw [HP.out] at hpm
      obtain ⟨M, f, hMf⟩ : ∃ M f, spM k = (M, f) := ⟨_, _, rfl⟩
      have HF : Hid ((k ≤ 6 ∧ M.length = k ∧ f = 0) ∨ (6 < k ∧ M.length = 0 ∧ f = 10)) := by
        unfold spM at hMf
        split at hMf
        · injection hMf with h1 h2
          exact .inl ⟨by assumption, by rw [← h1]; simp, h2.symm⟩
        · injection hMf with h1 h2
          exact .inr ⟨by omega, by rw [← h1]; rfl, h2.symm⟩
      rw [hMf] at hpm
      clear hMf HPS hst
      rcases HF.out with ⟨g6, hl, rfl⟩ | ⟨g6, hl, rfl⟩
      · have h3 := planParse_is hpm hl wr (by omega) (ext_cell hx2 hm)
        go_wp2_with fail
        refine h3.mono ?_
        clear h3
        rintro e w3 ⟨A3, c3, rs3, B3, rfl, _, _, _, x3⟩
        have b3 := Blk.new w3 24 #[.slice A3 k c3]
        obtain ⟨g3, hg3⟩ : ∃ g3, g3 = w3.heap.size := ⟨_, rfl⟩
        rw [← hg3] at b3
        have y3 := ext_trans hx2 (ext_trans x3 (ext_alloc w3 (.cells #[.slice A3 k c3] 24)))
        go_upto_region 12 with fail
        rw [← hg3]
        clear hg3 x3
        generalize w3.alloc (.cells #[.slice A3 k c3] 24) = v3 at y3 b3 ⊢
        have h4 := planParse_is round_is (n := 0) rfl v3 (by decide) (ext_cell y3 hm)
        go_wp2_with fail
        refine h4.mono ?_
        clear h4
        rintro e w4 ⟨A4, c4, rs4, B4, rfl, _, _, _, x4⟩
        have b4 := Blk.new w4 24 #[.slice A4 0 c4]
        have b3' := b3.ext (ext_trans x4 (ext_alloc w4 (.cells #[.slice A4 0 c4] 24)))
        obtain ⟨g4, hg4⟩ : ∃ g4, g4 = w4.heap.size := ⟨_, rfl⟩
        rw [← hg4] at b4
        have y4 := ext_trans y3 (ext_trans x4 (ext_alloc w4 (.cells #[.slice A4 0 c4] 24)))
        go_upto_region 13 with fail
        rw [← hg4]
        clear hg4 x4 b3
        generalize w4.alloc (.cells #[.slice A4 0 c4] 24) = v4 at y4 b3' b4 ⊢
        have q3 := b3'.cell 0
        have q4 := b4.cell 0
        simp only [List.getElem?_toArray, List.getElem?_cons_zero] at q3 q4
        have d6 : decide ((k : Int) ≤ 6) = true := by rw [decide_eq_true_eq]; omega
        go_wp2
        go_ret
        exact ⟨rfl, y4⟩
      · have h3 := planParse_is hpm hl wr (by omega) (ext_cell hx2 hm)
        go_wp2_with fail
        refine h3.mono ?_
        clear h3
        rintro e w3 ⟨A3, c3, rs3, B3, rfl, _, _, _, x3⟩
        have b3 := Blk.new w3 24 #[.slice A3 0 c3]
        obtain ⟨g3, hg3⟩ : ∃ g3, g3 = w3.heap.size := ⟨_, rfl⟩
        rw [← hg3] at b3
        have y3 := ext_trans hx2 (ext_trans x3 (ext_alloc w3 (.cells #[.slice A3 0 c3] 24)))
        go_upto_region 12 with fail
        rw [← hg3]
        clear hg3 x3
        generalize w3.alloc (.cells #[.slice A3 0 c3] 24) = v3 at y3 b3 ⊢
        have h4 := planParse_is round_is (n := 0) rfl v3 (by decide) (ext_cell y3 hm)
        go_wp2_with fail
        refine h4.mono ?_
        clear h4
        rintro e w4 ⟨A4, c4, rs4, B4, rfl, _, _, _, x4⟩
        have b4 := Blk.new w4 24 #[.slice A4 0 c4]
        have b3' := b3.ext (ext_trans x4 (ext_alloc w4 (.cells #[.slice A4 0 c4] 24)))
        obtain ⟨g4, hg4⟩ : ∃ g4, g4 = w4.heap.size := ⟨_, rfl⟩
        rw [← hg4] at b4
        have y4 := ext_trans y3 (ext_trans x4 (ext_alloc w4 (.cells #[.slice A4 0 c4] 24)))
        go_upto_region 13 with fail
        rw [← hg4]
        clear hg4 x4 b3
        generalize w4.alloc (.cells #[.slice A4 0 c4] 24) = v4 at y4 b3' b4 ⊢
        have q3 := b3'.cell 0
        have q4 := b4.cell 0
        simp only [List.getElem?_toArray, List.getElem?_cons_zero] at q3 q4
        have d6 : decide ((k : Int) ≤ 6) = false := by rw [decide_eq_false_iff_not]; omega
        go_wp2
        go_ret
        exact ⟨rfl, y4⟩
end Go.Proofs.YtdknkbpgkkakhaaDoor
