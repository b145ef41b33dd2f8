/- Layer 2: names of levels. -/
import Derived.Test.YtdknkbpgkkakhaaDoorLat12
import Derived.Laws.BytesArg
namespace Go.Proofs.YtdknkbpgkkakhaaDoor
open Go.RowKit

/-- The level of a name. -/
def lvl (s : ByteArray) : Option Nat := if s.size = 1 ∧ 97 ≤ (s.data.getD 0 0).toNat ∧ (s.data.getD 0 0).toNat < 103 then some ((s.data.getD 0 0).toNat - 97) else none
def lvlV (o : Option Nat) : Value := .tuple #[.int .i64 ((o.getD 0 : Nat) : Int), .bool o.isSome]
def nam (n : Int) : ByteArray := if 0 ≤ n ∧ n < 6 then strOfNums [97 + n] else ⟨#[]⟩
set_option maxRecDepth 100000 in
set_option maxHeartbeats 1000000 in
theorem planLevel_any (s : ByteArray) (w : World) (hs : s.size ≤ 9223372036854775807) : Calls Tryd.prog 11 #[.string s] w fun e w' => e = .returned (lvlV (lvl s)) ∧ w = w' := by
  by_cases h1 : s.size = 1
  · obtain ⟨⟨l⟩⟩ := s
    match l, h1 with
    | [b], _ =>
      have hb := b.toNat_lt
      have h2 : lvl ⟨⟨[b]⟩⟩ = if 97 ≤ b.toNat ∧ b.toNat < 103 then some (b.toNat - 97) else none := by
        unfold lvl
        have e : ((⟨⟨[b]⟩⟩ : ByteArray).data.getD 0 0) = b := rfl
        rw [e]
        by_cases h : 97 ≤ b.toNat ∧ b.toNat < 103
        · rw [if_pos h, if_pos ⟨rfl, h⟩]
        · rw [if_neg h, if_neg (fun q => h q.2)]
      have H2 := Lib.hid h2
      clear h2
      have hix : ∀ h : 0 < (⟨⟨[b]⟩⟩ : ByteArray).size, (⟨⟨[b]⟩⟩ : ByteArray)[0]'h = b := fun _ => rfl
      go_enter Tryd.func11, Tryd.ntmps11
      go_wp2
      all_goals
        go_ret2
        refine ⟨?_, rfl⟩
        rw [H2.out]
        simp only [hix] at *
        split <;> first
         | (simp only [lvlV, Option.getD_some, Option.getD_none, Option.isSome_some, Option.isSome_none]; rfl)
         | (exfalso; omega)
         | (have e9 : ((b.toNat - 97 : Nat) : Int) = (b.toNat : Int) - 97 := by omega
            simp only [lvlV, Option.getD_some, Option.isSome_some, e9]
            rfl)
  · have h2 : lvl s = none := by unfold lvl; rw [if_neg (fun h => h1 h.1)]
    rw [h2]
    have h3 : ((s.size : Int) != 1) = true := by simp; omega
    go_enter Tryd.func11, Tryd.ntmps11
    go_wp2
    go_ret2
    exact ⟨rfl, rfl⟩
set_option maxRecDepth 100000 in
set_option maxHeartbeats 1000000 in
theorem planName_any (n : Int) (w : World) (hn : -9223372036854775808 ≤ n ∧ n ≤ 9223372036854775807) : Calls Tryd.prog 16 #[.int .i64 n] w fun e w' => e = .returned (.string (nam n)) ∧ Ext w w' := by
  by_cases h : 0 ≤ n ∧ n < 6
  · obtain ⟨a, rfl⟩ := Int.eq_ofNat_of_zero_le h.1
    have h6 : a < 6 := by omega
    rw [nam, if_pos h]
    clear h
    have hcv : (convert 45 9 (.slice (some ⟨w.heap.size, 0, none⟩) 1 1)).run Tryd.prog (w.alloc (.cells #[.int .u8 (97 + (a : Int))] 5)) = .ok (.string (strOfNums [97 + (a : Int)])) (w.alloc (.cells #[.int .u8 (97 + (a : Int))] 5)) :=
      run_convert_bytes_arg _ 45 5 Tryd.underlying45 Tryd.underlying5 _ 0 1 1 [97 + (a : Int)] rfl (fun i hi => by
        obtain rfl : i = 0 := by omega
        simp [go_sem]) 9 Tryd.underlying9
    go_enter Tryd.func16, Tryd.ntmps16
    go_wp2
    go_ret
    exact ⟨rfl, ext_alloc _ _⟩
  · rw [nam, if_neg h]
    by_cases h0 : n < 0
    · go_enter Tryd.func16, Tryd.ntmps16
      go_wp2
      go_ret
      exact ⟨rfl, Below.refl _ _⟩
    · have h6 : 6 ≤ n := by omega
      go_enter Tryd.func16, Tryd.ntmps16
      go_wp2
      go_ret
      exact ⟨rfl, Below.refl _ _⟩
set_option maxRecDepth 100000 in
set_option maxHeartbeats 1000000 in
theorem refLevel_any (s : ByteArray) (w : World) (hs : s.size ≤ 9223372036854775807) : Calls Tryd.prog 12 #[.string s] w fun e w' => e = .returned (lvlV (lvl s)) ∧ w = w' := by
  by_cases h1 : s.size = 1
  · obtain ⟨⟨l⟩⟩ := s
    match l, h1 with
    | [b], _ =>
      have hb := b.toNat_lt
      have h2 : lvl ⟨⟨[b]⟩⟩ = if 97 ≤ b.toNat ∧ b.toNat < 103 then some (b.toNat - 97) else none := by
        unfold lvl
        have e : ((⟨⟨[b]⟩⟩ : ByteArray).data.getD 0 0) = b := rfl
        rw [e]
        by_cases h : 97 ≤ b.toNat ∧ b.toNat < 103
        · rw [if_pos h, if_pos ⟨rfl, h⟩]
        · rw [if_neg h, if_neg (fun q => h q.2)]
      have H2 := Lib.hid h2
      clear h2
      have hix : ∀ h : 0 < (⟨⟨[b]⟩⟩ : ByteArray).size, (⟨⟨[b]⟩⟩ : ByteArray)[0]'h = b := fun _ => rfl
      go_enter Tryd.func12, Tryd.ntmps12
      go_wp2
      all_goals
        go_ret2
        refine ⟨?_, rfl⟩
        rw [H2.out]
        simp only [hix] at *
        split <;> first
         | (simp only [lvlV, Option.getD_some, Option.getD_none, Option.isSome_some, Option.isSome_none]; rfl)
         | (exfalso; omega)
         | (have e9 : ((b.toNat - 97 : Nat) : Int) = (b.toNat : Int) - 97 := by omega
            simp only [lvlV, Option.getD_some, Option.isSome_some, e9]
            rfl)
  · have h2 : lvl s = none := by unfold lvl; rw [if_neg (fun h => h1 h.1)]
    rw [h2]
    have h3 : ((s.size : Int) != 1) = true := by simp; omega
    go_enter Tryd.func12, Tryd.ntmps12
    go_wp2
    go_ret2
    exact ⟨rfl, rfl⟩
set_option maxRecDepth 100000 in
set_option maxHeartbeats 1000000 in
theorem refName_any (n : Int) (w : World) (hn : -9223372036854775808 ≤ n ∧ n ≤ 9223372036854775807) : Calls Tryd.prog 17 #[.int .i64 n] w fun e w' => e = .returned (.string (nam n)) ∧ Ext w w' := by
  by_cases h : 0 ≤ n ∧ n < 6
  · obtain ⟨a, rfl⟩ := Int.eq_ofNat_of_zero_le h.1
    have h6 : a < 6 := by omega
    rw [nam, if_pos h]
    clear h
    have hcv : (convert 45 9 (.slice (some ⟨w.heap.size, 0, none⟩) 1 1)).run Tryd.prog (w.alloc (.cells #[.int .u8 (97 + (a : Int))] 5)) = .ok (.string (strOfNums [97 + (a : Int)])) (w.alloc (.cells #[.int .u8 (97 + (a : Int))] 5)) :=
      run_convert_bytes_arg _ 45 5 Tryd.underlying45 Tryd.underlying5 _ 0 1 1 [97 + (a : Int)] rfl (fun i hi => by
        obtain rfl : i = 0 := by omega
        simp [go_sem]) 9 Tryd.underlying9
    go_enter Tryd.func17, Tryd.ntmps17
    go_wp2
    go_ret
    exact ⟨rfl, ext_alloc _ _⟩
  · rw [nam, if_neg h]
    by_cases h0 : n < 0
    · go_enter Tryd.func17, Tryd.ntmps17
      go_wp2
      go_ret
      exact ⟨rfl, Below.refl _ _⟩
    · have h6 : 6 ≤ n := by omega
      go_enter Tryd.func17, Tryd.ntmps17
      go_wp2
      go_ret
      exact ⟨rfl, Below.refl _ _⟩
end Go.Proofs.YtdknkbpgkkakhaaDoor
