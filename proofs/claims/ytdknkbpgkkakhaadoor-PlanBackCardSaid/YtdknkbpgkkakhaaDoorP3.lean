/- Layer 2: the document's lines of a text. -/
import Derived.Test.YtdknkbpgkkakhaaDoorP1
namespace Go.Proofs.YtdknkbpgkkakhaaDoor
open Go.RowKit

def strC (s : ByteArray) : List Value := [.string s]
theorem info9 : (Tryd.prog.info? 9).map (fun i => (i.zero, i.size, i.bytes)) = some (some (.string ByteArray.empty), 1, 16) := by kernel_rfl
theorem strC_one (x : ByteArray) : ∀ u ∈ strC x, u.oneCell' = true := by intro u hu; simp [strC] at hu; subst hu; rfl
def elStr : Elem ByteArray := ⟨strC, 49, 9, 1, 16, _, fun _ => rfl, strC_one, Tryd.underlying49, info9, rfl, by decide⟩
/-- The pieces behind k letters, and where the next one begins. -/
def lnUp (s : ByteArray) : Nat → List ByteArray × Nat
  | 0 => ([], 0)
  | k + 1 => if (s.data.getD k 0).toNat = 10 then ((lnUp s k).1 ++ [s.extract (lnUp s k).2 k], k + 1) else lnUp s k
theorem lnUp_le (s : ByteArray) : ∀ k, (lnUp s k).2 ≤ k ∧ (lnUp s k).1.length ≤ k
  | 0 => ⟨Nat.le_refl _, Nat.le_refl _⟩
  | k + 1 => by
    have := lnUp_le s k
    unfold lnUp
    split
    · simp; omega
    · omega
set_option maxRecDepth 100000 in
set_option maxHeartbeats 2000000 in
theorem refLines_any (s : ByteArray) (w : World) (hs : s.size ≤ 1000000) :
    Calls Tryd.prog 26 #[.string s] w fun e w' => ∃ v, e = .returned (.tuple #[v, .bool (decide ((lnUp s s.size).2 = s.size))]) ∧ Own elStr w' w.heap.size v (lnUp s s.size).1 ∧ Ext w w' := by
  go_enter Tryd.func26, Tryd.ntmps26
  go_wp2
  go_loopw [4, 5, 6] (fun o f i wr => ∃ (k : Nat) (xs : List ByteArray) (fr : Nat), i = .int .i64 (k : Int) ∧ k ≤ s.size ∧ f = .int .i64 (fr : Int) ∧ Own elStr wr w.heap.size o xs ∧ Ext w wr ∧ Hid (lnUp s k = (xs, fr)) ∧ fr ≤ k ∧ xs.length ≤ k) (fun _ _ i _ => s.size - (intOf i).toNat)
  case atStart => exact ⟨0, [], 0, rfl, Nat.zero_le _, rfl, Own.nil _ _, Below.refl _ _, rfl, Nat.le_refl _, Nat.le_refl _⟩
  case round =>
    obtain ⟨k, xs, fr, rfl, hk, rfl, hown, hx, HL, hf, hxl⟩ := hrel
    obtain ⟨Ao, co, rfl⟩ := hown.form
    by_cases hlt : k < s.size
    · have HS : Hid (lnUp s (k + 1) = if (s.data.getD k 0).toNat = 10 then (xs ++ [s.extract fr k], k + 1) else (xs, fr)) := by
        show _ = _
        rw [lnUp, HL.out]
      obtain ⟨b, hb⟩ : ∃ b, b = s[k] := ⟨_, rfl⟩
      have hix : s[k] = b := hb.symm
      have hgd : s.data.getD k 0 = b := by
        rw [hb, Array.getD_eq_getD_getElem?, Array.getElem?_eq_getElem (show k < s.data.size from hlt)]
        rfl
      rw [hgd] at HS
      clear hb hgd
      by_cases h10 : b.toNat = 10
      · have HY : Hid (lnUp s (k + 1) = (xs ++ [s.extract fr k], k + 1)) := by show _ = _; rw [HS.out, if_pos h10]
        have HB := Lib.hid (rows_block (E := elStr) (B := w.heap.size) (s.extract fr k) (Blk.new wr 9 #[.string (s.extract fr k)]))
        have HO := Lib.hid (hown.ext (ext_alloc wr (.cells #[.string (s.extract fr k)] 9)))
        have hsz := hx.size
        go_upto_region 8 with (at_builtin; refine wpList_append elStr rfl _ _ rfl w.heap.size (.slice Ao xs.length co) xs rfl HO.out _ 1 [s.extract fr k] rfl w.heap.size HB.out (by show _ * 16 ≤ _; simp; omega) (by simp; omega) (by simp; omega) ?_; intro A2 c2 w3 hown3 hg3 hat3)
        have hx2 : Ext w (wr.alloc (.cells #[.string (s.extract fr k)] 9)) := ext_trans hx (ext_alloc _ _)
        have hx3 : Ext w w3 := hx2.grown hg3 (by simp; omega) (fun q hq => (HO.out.typed hq).1)
        go_wp2
        go_roundw
        case rel =>
          refine ⟨k + 1, xs ++ [s.extract fr k], k + 1, by go_num, hlt, by go_num, by simpa using hown3, hx3, HY, Nat.le_refl _, by simp; omega⟩
        case measure => simp [intOf]; omega
      · have HY : Hid (lnUp s (k + 1) = (xs, fr)) := by show _ = _; rw [HS.out, if_neg h10]
        have h10b : ((b.toNat : Int) == 10) = false := by rw [beq_eq_false_iff_ne]; omega
        go_wp2
        go_roundw
        case rel => exact ⟨k + 1, xs, fr, by go_num, hlt, rfl, hown, hx, HY, by omega, by omega⟩
        case measure => simp [intOf]; omega
    · obtain rfl : k = s.size := by omega
      have HF : Hid ((lnUp s s.size).1 = xs ∧ (lnUp s s.size).2 = fr) := by
        rw [HL.out]; exact ⟨rfl, rfl⟩
      go_wp2
      go_ret2
      rw [HF.out.1, HF.out.2]
      refine ⟨_, ?_, hown, hx⟩
      have e : ((fr : Int) == (s.size : Int)) = decide (fr = s.size) := by
        rw [Bool.eq_iff_iff, beq_iff_eq, decide_eq_true_eq]; omega
      rw [← e]
      rfl
end Go.Proofs.YtdknkbpgkkakhaaDoor
