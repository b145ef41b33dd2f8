/- Layer 2: a line read. -/
import Derived.Test.YtdknkbpgkkakhaaDoorP1
import Derived.Test.YtdknkbpgkkakhaaDoorShelf
namespace Go.Proofs.YtdknkbpgkkakhaaDoor
open Go.RowKit

def rowGo (a n : Nat) : List UInt8 → List Bool → Option (List Bool)
  | [], bs => some (bs.set a true)
  | b :: l, bs => match lvl ⟨#[b]⟩ with
    | none => none
    | some k => if n ≤ k ∨ k = a ∨ bs.getD k false = true then none else rowGo a n l (bs.set k true)
def rowP (s : ByteArray) (a n : Nat) : Option (List Bool) :=
  if Lib.hasPrefix s.data.toList (nam a ++ ⟨#[62]⟩).data.toList = true then rowGo a n (Lib.trimPrefix s.data.toList (nam a ++ ⟨#[62]⟩).data.toList) (List.replicate n false) else none
def RowPost (w : World) (n : Nat) (o : Option (List Bool)) (e : Ending) (w' : World) : Prop :=
  Ext w w' ∧ match o with
  | none => e = .returned (.tuple #[.slice none 0 0, .bool false])
  | some bs => bs.length = n ∧ ∃ g, e = .returned (.tuple #[.slice (some ⟨g, 0, none⟩) n n, .bool true]) ∧ w.heap.size ≤ g ∧ Blk w' g 4 (bs.map Value.bool).toArray
theorem extract_one (l : List UInt8) (k : Nat) (h : k < l.length) : (⟨l.toArray⟩ : ByteArray).extract k (k + 1) = ⟨#[l[k]]⟩ := by
  apply ByteArray.ext
  rw [ByteArray.data_extract]
  apply Array.ext'
  simp only [List.extract_toArray, List.extract_eq_take_drop, Nat.add_sub_cancel_left]
  rw [List.drop_eq_getElem_cons h]
  rfl
theorem lvl_lt {s : ByteArray} {q : Nat} (h : lvl s = some q) : q < 6 := by
  unfold lvl at h
  split at h
  · injection h with h; omega
  · cases h
set_option maxRecDepth 100000 in
set_option maxHeartbeats 2000000 in
theorem planRow_any (s : ByteArray) (a n : Nat) (ha : a < n) (hn : n ≤ 6) (w : World) (hs : s.size ≤ 1000000) :
    Calls Tryd.prog 23 #[.string s, .int .i64 (a : Int), .int .i64 (n : Int)] w (RowPost w n (rowP s a n)) := by
  obtain ⟨pr, hpr⟩ : ∃ pr, pr = nam a ++ ⟨#[62]⟩ := ⟨_, rfl⟩
  have HP : Hid (nam a ++ ⟨#[62]⟩ = pr) := hpr.symm
  have hrow : rowP s a n = if Lib.hasPrefix s.data.toList pr.data.toList = true then rowGo a n (Lib.trimPrefix s.data.toList pr.data.toList) (List.replicate n false) else none := by rw [hpr]; rfl
  have HR := Lib.hid hrow
  clear hpr hrow
  have hnz : (nam (a : Int)).size + 1 ≤ 9223372036854775807 := by
    have : (nam (a : Int)).size ≤ 1 := by unfold nam; split <;> first | simp [strOfNums_size] | exact Nat.zero_le _
    omega
  go_enter Tryd.func23, Tryd.ntmps23
  go_wp2_with fail
  refine (planName_any (a : Int) w (by omega)).mono ?_
  rintro e w1 ⟨rfl, x1⟩
  go_wp2_with fail
  rw [HP.out]
  refine (Tryd.strings_CutPrefix s pr w1).mono ?_
  rintro e w2 ⟨rfl, rfl⟩
  obtain ⟨rest, hrest⟩ : ∃ rest, rest = Lib.trimPrefix s.data.toList pr.data.toList := ⟨_, rfl⟩
  rw [← hrest] at HR ⊢
  have HRS : Hid (rest = Lib.trimPrefix s.data.toList pr.data.toList) := hrest
  clear hrest
  cases hp : Lib.hasPrefix s.data.toList pr.data.toList
  · have HN : Hid (rowP s a n = none) := by
      show _ = _
      rw [HR.out, if_neg (by rw [hp]; decide)]
    clear hp
    go_wp2
    go_ret2
    unfold RowPost
    rw [HN.out]
    exact ⟨x1, rfl⟩
  · have HY : Hid (rowP s a n = rowGo a n rest (List.replicate n false)) := by
      show _ = _
      rw [HR.out, if_pos hp]
    clear hp
    have hrl : rest.length ≤ 1000000 := by
      have h1 := HRS.out
      have h2 : (Lib.trimPrefix s.data.toList pr.data.toList).length ≤ s.data.toList.length := by
        unfold Lib.trimPrefix
        split <;> simp
      rw [← h1] at h2
      exact Nat.le_trans h2 hs
    have hmk := run_make_row' (P := Tryd.prog) 38 4 (.bool false) 1 Tryd.underlying38 info4 rfl .i64 .i64 n (by omega) (by omega)
    go_upto_region 5 with fail
    obtain ⟨W, hW⟩ : ∃ W, W = w2.alloc (.cells (madeCells #[.bool false] n) 4) := ⟨_, rfl⟩
    have xW : Ext w W := by rw [hW]; exact ext_trans x1 (ext_alloc _ _)
    have hmc : madeCells #[.bool false] n = ((List.replicate n false).map Value.bool).toArray := by
      obtain rfl | rfl | rfl | rfl | rfl | rfl | rfl : n = 0 ∨ n = 1 ∨ n = 2 ∨ n = 3 ∨ n = 4 ∨ n = 5 ∨ n = 6 := by omega
      all_goals kernel_rfl
    have bW : Blk W w2.heap.size 4 ((List.replicate n false).map Value.bool).toArray := by rw [hW, hmc]; exact Blk.new _ _ _
    rw [← hW]
    have hgs : w.heap.size ≤ w2.heap.size := x1.size
    obtain ⟨g, hg⟩ : ∃ g, g = w2.heap.size := ⟨_, rfl⟩
    rw [← hg] at bW hgs ⊢
    clear hW hmc hmk hg x1 hnz
    clear w2
    go_wp2_with fail
    go_loopw [28] (fun i wr => ∃ (k : Nat) (bs : List Bool), i = .int .i64 (k : Int) ∧ k ≤ rest.length ∧ bs.length = n ∧ Blk wr g 4 (bs.map Value.bool).toArray ∧ Ext w wr ∧ Hid (rowP s a n = rowGo a n (rest.drop k) bs)) (fun i _ => rest.length - (intOf i).toNat)
    case atStart => exact ⟨0, _, rfl, Nat.zero_le _, by simp, bW, xW, HY⟩
    case round =>
      clear bW xW HY
      obtain ⟨k, bs, rfl, hk, hbl, hb, hx, HG⟩ := hrel
      by_cases hlt : k < rest.length
      · have hdr : rest.drop k = rest[k] :: rest.drop (k + 1) := List.drop_eq_getElem_cons hlt
        have hex := extract_one rest k hlt
        obtain ⟨b, hb0⟩ : ∃ b, b = rest[k] := ⟨_, rfl⟩
        rw [← hb0] at hdr hex
        have HEX : Hid ((⟨rest.toArray⟩ : ByteArray).extract k (k + 1) = ⟨#[b]⟩) := hex
        have HDR := Lib.hid hdr
        clear hdr hex hb0
        go_wp2_with fail
        rw [HEX.out]
        refine (planLevel_any ⟨#[b]⟩ wr (by show 1 ≤ 9223372036854775807; omega)).mono ?_
        rintro e w3 ⟨rfl, rfl⟩
        cases hlv : lvl ⟨#[b]⟩ with
        | none =>
          have HN : Hid (rowP s a n = none) := by
            show _ = _
            rw [HG.out, HDR.out, rowGo, hlv]
          rw [show lvlV none = .tuple #[.int .i64 0, .bool false] from rfl]
          clear hlv
          go_wp2
          go_ret2
          unfold RowPost
          rw [HN.out]
          exact ⟨hx, rfl⟩
        | some q =>
          have hq6 := lvl_lt hlv
          rw [show lvlV (some q) = .tuple #[.int .i64 (q : Int), .bool true] from rfl]
          have HS : Hid (rowGo a n (rest.drop k) bs = if n ≤ q ∨ q = a ∨ bs.getD q false = true then none else rowGo a n (rest.drop (k + 1)) (bs.set q true)) := by
            show _ = _
            rw [HDR.out, rowGo, hlv]
          clear hlv
          by_cases h1 : n ≤ q
          · have HN : Hid (rowP s a n = none) := by
              show _ = _
              rw [HG.out, HS.out, if_pos (.inl h1)]
            go_wp2
            go_ret2
            unfold RowPost
            rw [HN.out]
            exact ⟨hx, rfl⟩
          · by_cases h2 : q = a
            · have HN : Hid (rowP s a n = none) := by
                show _ = _
                rw [HG.out, HS.out, if_pos (.inr (.inl h2))]
              subst h2
              go_wp2
              go_ret2
              unfold RowPost
              rw [HN.out]
              exact ⟨hx, rfl⟩
            · have p0 : wr.cell? ⟨g, q, none⟩ = some (.bool (bs.getD q false)) := by
                rw [hb.cell]
                simp [List.getD_eq_getElem?_getD, List.getElem?_eq_getElem (show q < bs.length by omega)]
              have h2b : ((q : Int) == (a : Int)) = false := by rw [beq_eq_false_iff_ne]; omega
              have fz := hb.frozen
              cases hbq : bs.getD q false
              · have HN : Hid (rowP s a n = rowGo a n (rest.drop (k + 1)) (bs.set q true)) := by
                  show _ = _
                  rw [HG.out, HS.out, if_neg (by rw [hbq]; simp; omega)]
                rw [hbq] at p0
                clear hbq
                have hb2 : Blk (wr.setCell ⟨g, q, none⟩ (.bool true)) g 4 ((bs.set q true).map Value.bool).toArray := by
                  have := hb.set_ q (.bool true)
                  rw [List.map_set, ← List.setIfInBounds_toArray]
                  exact this
                have hx2 : Ext w (wr.setCell ⟨g, q, none⟩ (.bool true)) := Below.setCell hx hgs _
                go_wp2
                go_roundw
                case rel => exact ⟨k + 1, bs.set q true, by go_num, hlt, by simpa using hbl, hb2, hx2, HN⟩
                case measure => simp [intOf]; omega
              · have HN : Hid (rowP s a n = none) := by
                  show _ = _
                  rw [HG.out, HS.out, if_pos (.inr (.inr hbq))]
                rw [hbq] at p0
                clear hbq
                go_wp2
                go_ret2
                unfold RowPost
                rw [HN.out]
                exact ⟨hx, rfl⟩
      · obtain rfl : k = rest.length := by omega
        have HF : Hid (rowP s a n = some (bs.set a true)) := by
          show _ = _
          rw [HG.out, List.drop_length]; rfl
        have p0 : wr.cell? ⟨g, a, none⟩ = some (.bool (bs.getD a false)) := by
          rw [hb.cell]
          simp [List.getD_eq_getElem?_getD, List.getElem?_eq_getElem (show a < bs.length by omega)]
        have fz := hb.frozen
        have hb2 : Blk (wr.setCell ⟨g, a, none⟩ (.bool true)) g 4 ((bs.set a true).map Value.bool).toArray := by
          have := hb.set_ a (.bool true)
          rw [List.map_set, ← List.setIfInBounds_toArray]
          exact this
        have hx2 : Ext w (wr.setCell ⟨g, a, none⟩ (.bool true)) := Below.setCell hx hgs _
        go_wp2_with fail
        go_ret2
        unfold RowPost
        rw [HF.out]
        exact ⟨hx2, by simpa using hbl, g, rfl, hgs, hb2⟩
end Go.Proofs.YtdknkbpgkkakhaaDoor
