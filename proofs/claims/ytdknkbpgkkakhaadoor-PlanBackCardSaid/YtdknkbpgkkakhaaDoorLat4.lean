/- Layer 1: Levels, Dom, Above, of the program and of the document. -/
import Derived.Test.YtdknkbpgkkakhaaDoorLat3
namespace Go.Proofs.YtdknkbpgkkakhaaDoor
open Go.RowKit

set_option maxHeartbeats 1000000 in
theorem latLevels_any (A : Option Addr) (c : Nat) (rs : List Rw) (w : World) (B : Nat) (hA : MatAt w B A rs) (hl : rs.length ≤ 9223372036854775807) :
    Calls Tryd.prog 27 #[.agg #[.slice A rs.length c]] w fun e w' => e = .returned (.int .i64 (levels (mat rs))) ∧ Ext w w' := by
  go_enter Tryd.func27, Tryd.ntmps27
  go_wp2_with fail
  refine (check_any A c rs _ B (hA.ext (ext_alloc _ _)) hl).mono ?_
  rintro e w1 ⟨rfl, x1⟩
  have c0 : w1.cell? ⟨w.heap.size, 0, none⟩ = some (.slice A rs.length c) := ext_cell x1 (by simp [go_sem])
  have hx : Ext w w1 := ext_trans (ext_alloc _ _) x1
  clear x1
  by_cases h : lchk (mat rs) = 0
  · have hb : (((lchk (mat rs) : Nat) : Int) != 0) = false := by simp [h]
    have H := Lib.hid h; clear h
    go_wp2
    go_ret
    exact ⟨ret_int (by rw [levels_of _ H.out, mat_length]), hx⟩
  · have hb : (((lchk (mat rs) : Nat) : Int) != 0) = true := by simp; omega
    have H := Lib.hid h; clear h
    go_wp2
    go_ret
    exact ⟨ret_int (by rw [levels_no _ H.out]; rfl), hx⟩

set_option maxHeartbeats 2000000 in
theorem latDom_any (A : Option Addr) (c : Nat) (rs : List Rw) (a b : Int) (w : World) (B : Nat) (hA : MatAt w B A rs) (hl : rs.length ≤ 9223372036854775807) :
    Calls Tryd.prog 46 #[.agg #[.slice A rs.length c], .int .i64 a, .int .i64 b] w fun e w' => e = .returned (.bool (ldom (mat rs) a b)) ∧ Ext w w' := by
  go_enter Tryd.func46, Tryd.ntmps46
  go_wp2_with fail
  refine (latLevels_any A c rs _ B (hA.ext (ext_alloc _ _)) hl).mono ?_
  rintro e w1 ⟨rfl, x1⟩
  have c0 : w1.cell? ⟨w.heap.size, 0, none⟩ = some (.slice A rs.length c) := ext_cell x1 (by simp [go_sem])
  have hx : Ext w w1 := ext_trans (ext_alloc _ _) x1
  clear x1
  by_cases h1 : 0 ≤ a
  · by_cases h2 : a < (levels (mat rs) : Int)
    · by_cases h3 : 0 ≤ b
      · by_cases h4 : b < (levels (mat rs) : Int)
        · obtain ⟨a, rfl⟩ := Int.eq_ofNat_of_zero_le h1
          obtain ⟨b, rfl⟩ := Int.eq_ofNat_of_zero_le h3
          have hk : lchk (mat rs) = 0 := by
            by_cases h : lchk (mat rs) = 0
            · exact h
            · have := levels_no _ h; omega
          have hlv : levels (mat rs) = rs.length := by rw [levels_of _ hk, mat_length]
          obtain ⟨ad, ra, ca, rfl, hc⟩ := (hA.ext hx).all (sq_of (lchk_square hk)).1 (by omega)
          obtain ⟨p1, p2⟩ := hc a (by omega)
          replace p2 := p2 b (by omega)
          have HR : Hid (at2 (mat rs) a b = ldom (mat rs) a b) := (ldom_eq (by omega) (by omega)).symm
          have d1 : decide ((0 : Int) ≤ a) = true := by simp
          have d2 : decide ((a : Int) < (levels (mat rs) : Int)) = true := by simp; omega
          have d3 : decide ((0 : Int) ≤ b) = true := by simp
          have d4 : decide ((b : Int) < (levels (mat rs) : Int)) = true := by simp; omega
          have n2 : a < rs.length := by omega
          have n4 : b < rs.length := by omega
          clear hlv hk hc hA
          go_wp2
          go_ret
          exact ⟨ret_bool HR.out, hx⟩
        · have HR : Hid (ldom (mat rs) a b = false) := by show _ = _; simp [ldom, h4]
          have d1 : decide ((0 : Int) ≤ a) = true := by simp; omega
          have d2 : decide (a < (levels (mat rs) : Int)) = true := by simp; omega
          have d3 : decide ((0 : Int) ≤ b) = true := by simp; omega
          have d4 : decide (b < (levels (mat rs) : Int)) = false := by simp; omega
          clear h1 h2 h3 h4
          go_wp2
          go_ret
          exact ⟨ret_bool HR.out.symm, hx⟩
      · have HR : Hid (ldom (mat rs) a b = false) := by show _ = _; simp [ldom, h3]
        have d1 : decide ((0 : Int) ≤ a) = true := by simp; omega
        have d2 : decide (a < (levels (mat rs) : Int)) = true := by simp; omega
        have d3 : decide ((0 : Int) ≤ b) = false := by simp; omega
        clear h1 h2 h3
        go_wp2
        go_ret
        exact ⟨ret_bool HR.out.symm, hx⟩
    · have HR : Hid (ldom (mat rs) a b = false) := by show _ = _; simp [ldom, h2]
      have d1 : decide ((0 : Int) ≤ a) = true := by simp; omega
      have d2 : decide (a < (levels (mat rs) : Int)) = false := by simp; omega
      clear h1 h2
      go_wp2
      go_ret
      exact ⟨ret_bool HR.out.symm, hx⟩
  · have HR : Hid (ldom (mat rs) a b = false) := by show _ = _; simp [ldom, h1]
    have d1 : decide ((0 : Int) ≤ a) = false := by simp; omega
    clear h1
    go_wp2
    go_ret
    exact ⟨ret_bool HR.out.symm, hx⟩

set_option maxHeartbeats 1000000 in
theorem latAbove_any (A : Option Addr) (c : Nat) (rs : List Rw) (a b : Int) (w : World) (B : Nat) (hA : MatAt w B A rs) (hl : rs.length ≤ 9223372036854775807) :
    Calls Tryd.prog 40 #[.agg #[.slice A rs.length c], .int .i64 a, .int .i64 b] w fun e w' => e = .returned (.bool (labove (mat rs) a b)) ∧ Ext w w' := by
  have hA1 := hA.ext (ext_alloc w (.cells #[.slice A rs.length c] 24))
  clear hA
  cases hab : a != b
  · have HR : Hid (labove (mat rs) a b = false) := by show _ = _; simp [labove, hab]
    go_enter Tryd.func40, Tryd.ntmps40
    go_wp2
    go_ret
    exact ⟨ret_bool HR.out.symm, ext_alloc _ _⟩
  · have HR : Hid (labove (mat rs) a b = ldom (mat rs) a b) := by show _ = _; simp [labove, hab]
    go_enter Tryd.func40, Tryd.ntmps40
    go_wp2_with fail
    refine (latDom_any A c rs a b _ B hA1 hl).mono ?_
    rintro e w1 ⟨rfl, x1⟩
    have hx : Ext w w1 := ext_trans (ext_alloc _ _) x1
    clear x1
    go_wp2
    go_ret
    exact ⟨ret_bool HR.out.symm, hx⟩

set_option maxHeartbeats 1000000 in
theorem refLevels_any (A : Option Addr) (c : Nat) (rs : List Rw) (w : World) (B : Nat) (hA : MatAt w B A rs) (hl : rs.length ≤ 9223372036854775807) :
    Calls Tryd.prog 31 #[.agg #[.slice A rs.length c]] w fun e w' => e = .returned (.int .i64 (levels (mat rs))) ∧ Ext w w' := by
  go_enter Tryd.func31, Tryd.ntmps31
  go_wp2_with fail
  refine (refCheck_any A c rs _ B (hA.ext (ext_alloc _ _)) hl).mono ?_
  rintro e w1 ⟨rfl, x1⟩
  have c0 : w1.cell? ⟨w.heap.size, 0, none⟩ = some (.slice A rs.length c) := ext_cell x1 (by simp [go_sem])
  have hx : Ext w w1 := ext_trans (ext_alloc _ _) x1
  clear x1
  by_cases h : lchk (mat rs) = 0
  · have hb : (((lchk (mat rs) : Nat) : Int) != 0) = false := by simp [h]
    have H := Lib.hid h; clear h
    go_wp2
    go_ret
    exact ⟨ret_int (by rw [levels_of _ H.out, mat_length]), hx⟩
  · have hb : (((lchk (mat rs) : Nat) : Int) != 0) = true := by simp; omega
    have H := Lib.hid h; clear h
    go_wp2
    go_ret
    exact ⟨ret_int (by rw [levels_no _ H.out]; rfl), hx⟩

set_option maxHeartbeats 2000000 in
theorem refDom_any (A : Option Addr) (c : Nat) (rs : List Rw) (a b : Int) (w : World) (B : Nat) (hA : MatAt w B A rs) (hl : rs.length ≤ 9223372036854775807) :
    Calls Tryd.prog 33 #[.agg #[.slice A rs.length c], .int .i64 a, .int .i64 b] w fun e w' => e = .returned (.bool (ldom (mat rs) a b)) ∧ Ext w w' := by
  go_enter Tryd.func33, Tryd.ntmps33
  go_wp2_with fail
  refine (refLevels_any A c rs _ B (hA.ext (ext_alloc _ _)) hl).mono ?_
  rintro e w1 ⟨rfl, x1⟩
  have c0 : w1.cell? ⟨w.heap.size, 0, none⟩ = some (.slice A rs.length c) := ext_cell x1 (by simp [go_sem])
  have hx : Ext w w1 := ext_trans (ext_alloc _ _) x1
  clear x1
  by_cases h1 : 0 ≤ a
  · by_cases h2 : a < (levels (mat rs) : Int)
    · by_cases h3 : 0 ≤ b
      · by_cases h4 : b < (levels (mat rs) : Int)
        · obtain ⟨a, rfl⟩ := Int.eq_ofNat_of_zero_le h1
          obtain ⟨b, rfl⟩ := Int.eq_ofNat_of_zero_le h3
          have hk : lchk (mat rs) = 0 := by
            by_cases h : lchk (mat rs) = 0
            · exact h
            · have := levels_no _ h; omega
          have hlv : levels (mat rs) = rs.length := by rw [levels_of _ hk, mat_length]
          obtain ⟨ad, ra, ca, rfl, hc⟩ := (hA.ext hx).all (sq_of (lchk_square hk)).1 (by omega)
          obtain ⟨p1, p2⟩ := hc a (by omega)
          replace p2 := p2 b (by omega)
          have HR : Hid (at2 (mat rs) a b = ldom (mat rs) a b) := (ldom_eq (by omega) (by omega)).symm
          have d1 : decide ((0 : Int) ≤ a) = true := by simp
          have d2 : decide ((a : Int) < (levels (mat rs) : Int)) = true := by simp; omega
          have d3 : decide ((0 : Int) ≤ b) = true := by simp
          have d4 : decide ((b : Int) < (levels (mat rs) : Int)) = true := by simp; omega
          have n2 : a < rs.length := by omega
          have n4 : b < rs.length := by omega
          clear hlv hk hc hA
          go_wp2
          go_ret
          exact ⟨ret_bool HR.out, hx⟩
        · have HR : Hid (ldom (mat rs) a b = false) := by show _ = _; simp [ldom, h4]
          have d1 : decide ((0 : Int) ≤ a) = true := by simp; omega
          have d2 : decide (a < (levels (mat rs) : Int)) = true := by simp; omega
          have d3 : decide ((0 : Int) ≤ b) = true := by simp; omega
          have d4 : decide (b < (levels (mat rs) : Int)) = false := by simp; omega
          clear h1 h2 h3 h4
          go_wp2
          go_ret
          exact ⟨ret_bool HR.out.symm, hx⟩
      · have HR : Hid (ldom (mat rs) a b = false) := by show _ = _; simp [ldom, h3]
        have d1 : decide ((0 : Int) ≤ a) = true := by simp; omega
        have d2 : decide (a < (levels (mat rs) : Int)) = true := by simp; omega
        have d3 : decide ((0 : Int) ≤ b) = false := by simp; omega
        clear h1 h2 h3
        go_wp2
        go_ret
        exact ⟨ret_bool HR.out.symm, hx⟩
    · have HR : Hid (ldom (mat rs) a b = false) := by show _ = _; simp [ldom, h2]
      have d1 : decide ((0 : Int) ≤ a) = true := by simp; omega
      have d2 : decide (a < (levels (mat rs) : Int)) = false := by simp; omega
      clear h1 h2
      go_wp2
      go_ret
      exact ⟨ret_bool HR.out.symm, hx⟩
  · have HR : Hid (ldom (mat rs) a b = false) := by show _ = _; simp [ldom, h1]
    have d1 : decide ((0 : Int) ≤ a) = false := by simp; omega
    clear h1
    go_wp2
    go_ret
    exact ⟨ret_bool HR.out.symm, hx⟩

set_option maxHeartbeats 1000000 in
theorem refAbove_any (A : Option Addr) (c : Nat) (rs : List Rw) (a b : Int) (w : World) (B : Nat) (hA : MatAt w B A rs) (hl : rs.length ≤ 9223372036854775807) :
    Calls Tryd.prog 20 #[.agg #[.slice A rs.length c], .int .i64 a, .int .i64 b] w fun e w' => e = .returned (.bool (labove (mat rs) a b)) ∧ Ext w w' := by
  have hA1 := hA.ext (ext_alloc w (.cells #[.slice A rs.length c] 24))
  clear hA
  cases hab : a != b
  · have HR : Hid (labove (mat rs) a b = false) := by show _ = _; simp [labove, hab]
    go_enter Tryd.func20, Tryd.ntmps20
    go_wp2
    go_ret
    exact ⟨ret_bool HR.out.symm, ext_alloc _ _⟩
  · have HR : Hid (labove (mat rs) a b = ldom (mat rs) a b) := by show _ = _; simp [labove, hab]
    go_enter Tryd.func20, Tryd.ntmps20
    go_wp2_with fail
    refine (refDom_any A c rs a b _ B hA1 hl).mono ?_
    rintro e w1 ⟨rfl, x1⟩
    have hx : Ext w w1 := ext_trans (ext_alloc _ _) x1
    clear x1
    go_wp2
    go_ret
    exact ⟨ret_bool HR.out.symm, hx⟩
end Go.Proofs.YtdknkbpgkkakhaaDoor
