/- Layer 2: what a text is read as: plain. -/
import Derived.Test.YtdknkbpgkkakhaaDoorCut
import Derived.Test.YtdknkbpgkkakhaaDoorP3
import Derived.Test.YtdknkbpgkkakhaaDoorP9
namespace Go.Proofs.YtdknkbpgkkakhaaDoor
open Go.RowKit

/-- The lines, and what stands behind the last line's end. -/
def pcs (s : ByteArray) : List ByteArray := (lnUp s s.size).1
def endAt (s : ByteArray) : Nat := (lnUp s s.size).2
def tl (s : ByteArray) : ByteArray := s.extract (endAt s) s.size
def rowsGo (ps : List ByteArray) (n : Nat) : Nat → Option Mat
  | 0 => some []
  | k + 1 => match rowsGo ps n k with
    | none => none
    | some m => match rowP (ps.getD k ⟨#[]⟩) k n with
      | none => none
      | some r => some (m ++ [r])
def closeM (m : Mat) : Mat := gridM m.length (close m.length (at2 m) m.length)
def parseC (m : Mat) : Mat × Nat := if lchk m = 0 then (m, 0) else ([], lchk m)
def parseR : Option Mat → Mat × Nat
  | none => ([], 10)
  | some m => parseC (closeM m)
def parseM (s : ByteArray) : Mat × Nat :=
  if endAt s = s.size ∧ 1 ≤ (pcs s).length ∧ (pcs s).length ≤ 6 then parseR (rowsGo (pcs s) (pcs s).length (pcs s).length) else ([], 10)

theorem take_bytes (s : ByteArray) (k : Nat) (h : k < s.size) : s.data.toList.take (k + 1) = s.data.toList.take k ++ [s.data.getD k 0] := by
  rw [List.take_succ_eq_append_getElem (by simpa using h)]
  congr 1
  rw [Array.getD_eq_getD_getElem?, Array.getElem?_eq_getElem (show k < s.data.size from h)]
  simp
theorem ext_list (s : ByteArray) (i j : Nat) : (s.extract i j).data.toList = (s.data.toList.take j).drop i := by
  rw [ByteArray.data_extract]
  simp [List.drop_take]
theorem toNat_ten (b : UInt8) : b.toNat = 10 ↔ b = 10 := by
  constructor
  · intro h; exact UInt8.toNat_inj.1 (by simpa using h)
  · intro h; rw [h]; rfl
theorem lnUp_cut (s : ByteArray) : ∀ k, k ≤ s.size → cut10 (s.data.toList.take k) = (lnUp s k).1.map (·.data.toList) ++ [(s.data.toList.take k).drop (lnUp s k).2]
  | 0, _ => by simp [cut10, lnUp]
  | k + 1, h => by
    have ih := lnUp_cut s k (by omega)
    have hle := (lnUp_le s k).1
    rw [take_bytes s k (by omega), cut10_snoc]
    unfold lnUp
    by_cases h10 : (s.data.getD k 0).toNat = 10
    · have hb := (toNat_ten _).1 h10
      rw [if_pos hb, if_pos h10, ih, List.map_append]
      have hl : (s.data.toList.take k ++ [s.data.getD k 0]).drop (k + 1) = [] := by
        apply List.drop_eq_nil_of_le
        simp; omega
      rw [hl]
      simp only [List.map_cons, List.map_nil, ext_list]
    · have hb : ¬ s.data.getD k 0 = 10 := fun e => h10 ((toNat_ten _).2 e)
      rw [if_neg hb, if_neg h10, ih]
      have hl : (s.data.toList.take k).length = k := by simp; omega
      simp only [putLast, List.dropLast_concat, List.getLastD_concat]
      rw [List.drop_append_of_le_length (by rw [hl]; exact hle)]
theorem data_inj {x y : ByteArray} (h : x.data.toList = y.data.toList) : x = y := ByteArray.ext (Array.ext' h)
theorem map_inj {l k : List ByteArray} (h : l.map (·.data.toList) = k.map (·.data.toList)) : l = k := by
  induction l generalizing k with
  | nil => cases k with
    | nil => rfl
    | cons _ _ => cases h
  | cons x l ih => cases k with
    | nil => cases h
    | cons y k =>
      rw [List.map_cons, List.map_cons] at h
      injection h with h1 h2
      rw [data_inj h1, ih h2]
/-- strings.Split's pieces: the lines, and the rest. -/
theorem split_pcs (s : ByteArray) : Lib.splitB ⟨#[10]⟩ 0 (Lib.countB s ⟨#[10]⟩) s = pcs s ++ [tl s] := by
  apply map_inj
  rw [Lib.splitB_data, List.map_append]
  have h1 := splitK_cut s.data.toList
  have h2 := lnUp_cut s s.size (Nat.le_refl _)
  have h3 : s.data.toList.take s.size = s.data.toList := by
    apply List.take_of_length_le
    simp
  rw [h3] at h2
  show Lib.splitK [10] 0 (Lib.count s.data.toList [10]) s.data.toList = _
  rw [h1, h2]
  simp only [pcs, tl, endAt, List.map_cons, List.map_nil, ext_list, h3]
theorem split_count (s : ByteArray) : Lib.countB s ⟨#[10]⟩ = (pcs s).length := by
  have h := Lib.splitB_all ⟨#[10]⟩ (Nat.le_refl 1) 0 _ s rfl
  rw [split_pcs, List.length_append] at h
  simpa using h.symm
theorem endAt_le (s : ByteArray) : endAt s ≤ s.size := (lnUp_le s s.size).1
theorem tl_size (s : ByteArray) : (tl s).size = s.size - endAt s := by
  unfold tl
  rw [ByteArray.size_extract]
  omega
theorem pcs_length (s : ByteArray) : (pcs s).length ≤ s.size := (lnUp_le s s.size).2
theorem lnUp_size (s : ByteArray) : ∀ k, ∀ x ∈ (lnUp s k).1, x.size ≤ s.size
  | 0, x, h => by cases h
  | k + 1, x, h => by
    unfold lnUp at h
    split at h
    · rcases List.mem_append.1 h with h1 | h1
      · exact lnUp_size s k x h1
      · have : x = s.extract (lnUp s k).2 k := by simpa using h1
        rw [this, ByteArray.size_extract]
        omega
    · exact lnUp_size s k x h
theorem pcs_size {s x : ByteArray} (h : x ∈ pcs s) : x.size ≤ s.size := lnUp_size s _ x h
theorem rowsGo_none {ps : List ByteArray} {n k : Nat} (h : rowsGo ps n k = none) : ∀ j, rowsGo ps n (k + j) = none
  | 0 => h
  | j + 1 => by
    show rowsGo ps n ((k + j) + 1) = none
    rw [rowsGo, rowsGo_none h j]
theorem rowsGo_len {ps : List ByteArray} {n : Nat} : ∀ {k : Nat} {m : Mat}, rowsGo ps n k = some m → m.length = k
  | 0, m, h => by injection h with h; rw [← h]; rfl
  | k + 1, m, h => by
    rw [rowsGo] at h
    cases h1 : rowsGo ps n k with
    | none => rw [h1] at h; cases h
    | some m' =>
      rw [h1] at h
      cases h2 : rowP (ps.getD k ⟨#[]⟩) k n with
      | none => rw [h2] at h; cases h
      | some r =>
        rw [h2] at h
        injection h with h
        rw [← h, List.length_append, rowsGo_len h1]; rfl
theorem rowP_len {s : ByteArray} {a n : Nat} {r : List Bool} (h : rowP s a n = some r) : r.length = n := by
  have go : ∀ (l : List UInt8) (bs : List Bool), rowGo a n l bs = some r → r.length = bs.length := by
    intro l
    induction l with
    | nil => intro bs h; injection h with h; rw [← h]; simp
    | cons b l ih =>
      intro bs h
      rw [rowGo] at h
      split at h
      · cases h
      · split at h
        · cases h
        · rw [ih _ h]; simp
  unfold rowP at h
  split at h
  · rw [go _ _ h]; simp
  · cases h
theorem rowsGo_rows {ps : List ByteArray} {n : Nat} : ∀ {k : Nat} {m : Mat}, rowsGo ps n k = some m → ∀ r ∈ m, r.length = n
  | 0, m, h => by injection h with h; rw [← h]; intro r hr; cases hr
  | k + 1, m, h => by
    rw [rowsGo] at h
    cases h1 : rowsGo ps n k with
    | none => rw [h1] at h; cases h
    | some m' =>
      rw [h1] at h
      cases h2 : rowP (ps.getD k ⟨#[]⟩) k n with
      | none => rw [h2] at h; cases h
      | some r =>
        rw [h2] at h
        injection h with h
        intro x hx
        rw [← h] at hx
        rcases List.mem_append.1 hx with h3 | h3
        · exact rowsGo_rows h1 x h3
        · rw [show x = r by simpa using h3]; exact rowP_len h2
theorem closeM_square {m : Mat} (h1 : 1 ≤ m.length) (h6 : m.length ≤ 6) : squareB (closeM m) = true := by
  unfold closeM
  simp only [squareB, gridM_length, Bool.and_eq_true, List.all_eq_true, decide_eq_true_eq, beq_iff_eq]
  refine ⟨⟨?_, h1⟩, h6⟩
  intro r hr
  obtain ⟨a, _, rfl⟩ := List.mem_map.1 hr
  simp [rowBs]
theorem lchk_closeM {m : Mat} (h1 : 1 ≤ m.length) (h6 : m.length ≤ 6) : lchk (closeM m) = 0 ∨ lchk (closeM m) = 11 := by
  unfold lchk
  rw [closeM_square h1 h6, if_pos rfl]
  split <;> simp
end Go.Proofs.YtdknkbpgkkakhaaDoor
