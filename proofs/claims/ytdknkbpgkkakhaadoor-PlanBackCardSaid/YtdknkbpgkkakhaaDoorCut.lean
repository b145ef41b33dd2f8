/- Layer 2: the pieces between the line ends. -/
import Derived.Lib.SplitLaws
namespace Go.Proofs.YtdknkbpgkkakhaaDoor
open Go

/-- The pieces between the bytes 10. -/
def putHead (b : UInt8) : List (List UInt8) → List (List UInt8)
  | [] => [[b]]
  | p :: q => (b :: p) :: q
def cut10 : List UInt8 → List (List UInt8)
  | [] => [[]]
  | b :: l => if b = 10 then [] :: cut10 l else putHead b (cut10 l)
theorem cut10_ne (l : List UInt8) : cut10 l ≠ [] := by
  cases l with
  | nil => simp [cut10]
  | cons b l =>
    unfold cut10
    split
    · exact fun h => by cases h
    · cases cut10 l <;> (intro h; cases h)
theorem splitK_eq (k : Nat) (l : List UInt8) : Lib.splitK [10] 0 (k + 1) (10 :: l) = [] :: Lib.splitK [10] 0 k l := by
  have h : Lib.index (10 :: l) [10] = 0 := by simp [Lib.index, List.isPrefixOf]
  rw [Lib.splitK, h]
  simp
theorem splitK_ne (b : UInt8) (hb : b ≠ 10) : ∀ (k : Nat) (l : List UInt8), Lib.splitK [10] 0 k (b :: l) = putHead b (Lib.splitK [10] 0 k l)
  | 0, l => rfl
  | k + 1, l => by
    have hp : ([10] : List UInt8).isPrefixOf (b :: l) = false := by simp [List.isPrefixOf, Ne.symm hb]
    have hix : Lib.index (b :: l) [10] = if Lib.index l [10] == -1 then -1 else Lib.index l [10] + 1 := by rw [Lib.index, hp]; rfl
    by_cases hm : Lib.index l [10] = -1
    · rw [Lib.splitK, Lib.splitK, hix, hm]; simp [putHead]
    · have hge := Lib.index_ge l [10]
      obtain ⟨j, hj⟩ : ∃ j : Nat, Lib.index l [10] = j := ⟨(Lib.index l [10]).toNat, by omega⟩
      have h1 : ¬ ((Lib.index l [10] == -1) = true) := fun e => hm (beq_iff_eq.1 e)
      have hix' : Lib.index (b :: l) [10] = ((j + 1 : Nat) : Int) := by rw [hix, if_neg h1, hj]; omega
      rw [Lib.splitK, Lib.splitK, hix', hj, if_neg (by simp <;> omega), if_neg (by simp <;> omega)]
      simp [putHead]
theorem splitK_cut : ∀ l : List UInt8, Lib.splitK [10] 0 (Lib.count l [10]) l = cut10 l
  | [] => by rw [Lib.count_miss (by simp [Lib.index])]; rfl
  | b :: l => by
    by_cases h : b = 10
    · subst h
      rw [Lib.count_cons_eq, Nat.add_comm, splitK_eq, splitK_cut l]
      simp [cut10]
    · rw [Lib.count_cons_ne b 10 l h, splitK_ne b h, splitK_cut l]
      simp [cut10, h]
theorem putHead_app (b : UInt8) (p q : List (List UInt8)) (h : p ≠ []) : putHead b (p ++ q) = putHead b p ++ q := by
  cases p with
  | nil => exact absurd rfl h
  | cons a p => rfl
/-- A byte more behind. -/
def putLast (b : UInt8) (p : List (List UInt8)) : List (List UInt8) := p.dropLast ++ [p.getLastD [] ++ [b]]
theorem putLast_cons (b : UInt8) (x : List UInt8) (p : List (List UInt8)) (h : p ≠ []) : putLast b (x :: p) = x :: putLast b p := by
  cases p with
  | nil => exact absurd rfl h
  | cons a p => simp [putLast, List.dropLast, List.getLastD]
theorem putHead_last (b c : UInt8) (p : List (List UInt8)) (h : p ≠ []) : putHead b (putLast c p) = putLast c (putHead b p) := by
  match p, h with
  | [x], _ => simp [putHead, putLast]
  | x :: y :: q, _ => 
    rw [putLast_cons c x (y :: q) (by simp)]
    show (b :: x) :: putLast c (y :: q) = putLast c ((b :: x) :: y :: q)
    rw [putLast_cons c (b :: x) (y :: q) (by simp)]
theorem cut10_snoc : ∀ (l : List UInt8) (c : UInt8), cut10 (l ++ [c]) = if c = 10 then cut10 l ++ [[]] else putLast c (cut10 l)
  | [], c => by
    by_cases h : c = 10
    · subst h; rfl
    · simp [cut10, h, putHead, putLast]
  | b :: l, c => by
    have ih := cut10_snoc l c
    rw [List.cons_append, cut10, ih]
    by_cases h : c = 10
    · rw [if_pos h, if_pos h]
      by_cases hb : b = 10
      · simp [cut10, hb]
      · simp only [cut10, hb, if_false]
        exact putHead_app b _ _ (cut10_ne l)
    · rw [if_neg h, if_neg h]
      by_cases hb : b = 10
      · simp only [cut10, hb, if_true]
        exact (putLast_cons c [] _ (cut10_ne l)).symm
      · simp only [cut10, hb, if_false]
        exact putHead_last b c _ (cut10_ne l)
end Go.Proofs.YtdknkbpgkkakhaaDoor
