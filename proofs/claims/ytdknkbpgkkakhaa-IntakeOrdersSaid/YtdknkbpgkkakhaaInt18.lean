/- Layer 20: items of one level in whatever order: the plain law of IntakeOrders. -/
import Derived.Test.YtdknkbpgkkakhaaInt16
namespace Go.Proofs.Ytdknkbpgkkakhaa
open Go.RowKit

/-- How many of the eight items behind the p-th were met. -/
def cntM (M : Nat → Bool) (p : Nat) : Nat := (List.range 8).countP fun n => decide (p < n) && M n
theorem range8 : List.range 8 = [0, 1, 2, 3, 4, 5, 6, 7] := rfl
theorem cntM_step {M : Nat → Bool} (h8 : ∀ n, 8 ≤ n → M n = false) (p : Nat) : cntM M p = cntM M (p + 1) + (if M (p + 1) = true then 1 else 0) := by
  unfold cntM
  rw [range8]
  by_cases hp : p + 1 < 8
  · obtain rfl | rfl | rfl | rfl | rfl | rfl | rfl : p = 0 ∨ p = 1 ∨ p = 2 ∨ p = 3 ∨ p = 4 ∨ p = 5 ∨ p = 6 := by omega
    all_goals
      simp [List.countP_cons]
      try omega
  · rw [h8 (p + 1) (by omega), if_neg Bool.false_ne_true]
    have e : ∀ q, 7 ≤ q → [0, 1, 2, 3, 4, 5, 6, 7].countP (fun n => decide (q < n) && M n) = 0 := fun q hq => by
      rw [List.countP_eq_zero]
      intro a ha
      simp at ha
      have : ¬ q < a := by omega
      simp [this]
    rw [e p (by omega), e (p + 1) (by omega)]
def setM8 (M : Nat → Bool) (k : Nat) (n : Nat) : Bool := if n = k then true else M n
theorem cntM_add {M : Nat → Bool} {p k : Nat} (hk : k < 8) (hM : M k = false) (hpk : p < k) : cntM (setM8 M k) p = cntM M p + 1 := by
  unfold cntM setM8
  rw [range8]
  obtain rfl | rfl | rfl | rfl | rfl | rfl | rfl : k = 1 ∨ k = 2 ∨ k = 3 ∨ k = 4 ∨ k = 5 ∨ k = 6 ∨ k = 7 := by omega
  all_goals
    simp [List.countP_cons, hM, hpk]
    try omega
theorem cntM_same {M : Nat → Bool} {p k : Nat} (hpk : k ≤ p) : cntM (setM8 M k) p = cntM M p := by
  unfold cntM
  apply List.countP_congr
  intro n _
  unfold setM8
  by_cases e : n = k
  · subst e
    have : ¬ p < n := by omega
    simp [this]
  · simp [e]
theorem cntM_le (M : Nat → Bool) (p : Nat) : cntM M p ≤ 8 := by
  unfold cntM
  have := List.countP_le_length (p := fun n => decide (p < n) && M n) (l := List.range 8)
  simpa using this
/-- The row of items: of level 0, numbers from 1, each of the turn that is then. -/
structure Row8 (f : Nat → It) (T : Nat → Int) : Prop where
  it : ∀ k, ∃ sh, f k = itIt 0 ((k : Int) + 1) (T k) sh ∧ T (k + 1) = T k + (if sh = true then 1 else 0)
  low : ∀ k, 0 ≤ T k ∧ T k ≤ k
structure OrdInv (f : Nat → It) (T : Nat → Int) (M : Nat → Bool) (p : Nat) (s : IntSt) : Prop where
  hav : s.have_ 0 = (p : Int)
  ovr : s.over 0 = T p
  ovr1 : s.over 1 = 0
  held : ∀ n : Nat, s.held (0, (n : Int) + 1) = if p < n ∧ M n = true then some (f n) else none
  cnt : s.cnt = cntM M p
theorem OrdInv.comes {f : Nat → It} {T : Nat → Int} {M : Nat → Bool} {p : Nat} {s : IntSt} (h8 : ∀ n, 8 ≤ n → M n = false) (hR : Row8 f T) (h : OrdInv f T M p s) :
    OrdInv f T M (p + 1) (letsSt (comesSt s (f p)) ((f p).level, (f p).n + 1)) := by
  obtain ⟨sh, e1, e2⟩ := hR.it p
  have hl : (f p).level = 0 := by rw [e1]; rfl
  have hn : (f p).n = (p : Int) + 1 := by rw [e1]; rfl
  have hs : (f p).shut = sh := by rw [e1]; rfl
  rw [hl, hn]
  have hc := cntM_step h8 p
  constructor
  · rw [letsSt_have, comesSt_have, hl]
    show (if (0 : Nat) = 0 then s.have_ 0 + 1 else s.have_ 0) = _
    rw [if_pos rfl, h.hav]; omega
  · rw [letsSt_over, comesSt_over, hl, hs, e2, h.ovr]
    cases sh <;> simp
  · rw [letsSt_over, comesSt_over, hl, h.ovr1]
    simp
  · intro n
    rw [letsSt_held, comesSt_held, h.held]
    by_cases e : n = p + 1
    · subst e
      rw [if_pos (by simp), if_neg (by omega)]
    · rw [if_neg (by simp; omega)]
      by_cases e3 : p < n ∧ M n = true
      · rw [if_pos e3, if_pos ⟨by omega, e3.2⟩]
      · rw [if_neg e3, if_neg (by intro hc; exact e3 ⟨by omega, hc.2⟩)]
  · show (if ((comesSt s (f p)).held (0, (p : Int) + 1 + 1)).isSome = true then (comesSt s (f p)).cnt - 1 else (comesSt s (f p)).cnt) = _
    have e0 : s.held (0, (p : Int) + 1 + 1) = if M (p + 1) = true then some (f (p + 1)) else none := by
      rw [show ((p : Int) + 1 + 1) = ((p + 1 : Nat) : Int) + 1 by omega, h.held]
      by_cases e : M (p + 1) = true
      · rw [if_pos ⟨by omega, e⟩, if_pos e]
      · rw [if_neg (by intro hx; exact e hx.2), if_neg e]
    rw [comesSt_held, comesSt_cnt, h.cnt, e0]
    by_cases e : M (p + 1) = true
    · simp [e] at hc ⊢
      omega
    · simp [e] at hc ⊢
      omega
/-- The first item that was not met, from the p-th on. -/
def nextM (M : Nat → Bool) : Nat → Nat → Nat
  | 0, p => p
  | k + 1, p => if M p = true then nextM M k (p + 1) else p
theorem rowF_ord {f : Nat → It} {T : Nat → Int} {M : Nat → Bool} (h8 : ∀ n, 8 ≤ n → M n = false) (hR : Row8 f T) (k : Nat) : ∀ (p : Nat) (s : IntSt), p + k = 8 → OrdInv f T M p s →
    OrdInv f T M (nextM M k (p + 1)) (rowF s.cnt s (f p)).1 ∧ (rowF s.cnt s (f p)).2 = (List.range' p (nextM M k (p + 1) - p)).map f ∧ p + 1 ≤ nextM M k (p + 1) := by
  induction k with
  | zero =>
    intro p s hp h
    have hn := h.comes h8 hR
    obtain ⟨sh, e1, e2⟩ := hR.it p
    have hnone : s.held ((f p).level, (f p).n + 1) = none := by
      rw [e1]
      show s.held (0, (p : Int) + 1 + 1) = none
      rw [show ((p : Int) + 1 + 1) = ((p + 1 : Nat) : Int) + 1 by omega, h.held, if_neg (by rw [h8 (p + 1) (by omega)]; simp)]
    have hr : rowF s.cnt s (f p) = (letsSt (comesSt s (f p)) ((f p).level, (f p).n + 1), [f p]) := by
      cases hc : s.cnt with
      | zero => rfl
      | succ c => rw [rowF.eq_2, hnone]
    rw [hr]
    exact ⟨hn, by simp [nextM, List.range'], Nat.le_refl _⟩
  | succ k ih =>
    intro p s hp h
    have hn := h.comes h8 hR
    obtain ⟨sh, e1, e2⟩ := hR.it p
    obtain ⟨sh', e1', e2'⟩ := hR.it (p + 1)
    have hh : s.held ((f p).level, (f p).n + 1) = if M (p + 1) = true then some (f (p + 1)) else none := by
      rw [e1]
      show s.held (0, (p : Int) + 1 + 1) = _
      rw [show ((p : Int) + 1 + 1) = ((p + 1 : Nat) : Int) + 1 by omega, h.held]
      by_cases e : M (p + 1) = true
      · rw [if_pos ⟨by omega, e⟩, if_pos e]
      · rw [if_neg (by intro hx; exact e hx.2), if_neg e]
    by_cases e : M (p + 1) = true
    · rw [if_pos e] at hh
      have hc := cntM_step h8 p
      rw [if_pos e] at hc
      obtain ⟨c, hcc⟩ : ∃ c, s.cnt = c + 1 := ⟨cntM M (p + 1), by rw [h.cnt, hc]⟩
      have hc2 : (letsSt (comesSt s (f p)) ((f p).level, (f p).n + 1)).cnt = c := by rw [hn.cnt]; have := h.cnt; omega
      have hot : (f (p + 1)).turn = (comesSt s (f p)).over (f p).level.toNat := by
        have h1 := hn.ovr
        rw [letsSt_over] at h1
        have h2 : (f p).level.toNat = 0 := by rw [e1]; rfl
        rw [h2, h1, e1']; rfl
      obtain ⟨i1, i2, i3⟩ := ih (p + 1) _ (by omega) hn
      rw [hc2] at i1 i2
      have hr : rowF s.cnt s (f p) = ((rowF c (letsSt (comesSt s (f p)) ((f p).level, (f p).n + 1)) (f (p + 1))).1, f p :: (rowF c (letsSt (comesSt s (f p)) ((f p).level, (f p).n + 1)) (f (p + 1))).2) := by
        rw [hcc, rowF.eq_2, hh]
        dsimp only
        rw [if_pos hot]
      have hnx : nextM M (k + 1) (p + 1) = nextM M k (p + 1 + 1) := by show (if M (p + 1) = true then _ else _) = _; rw [if_pos e]
      rw [hr, hnx]
      refine ⟨i1, ?_, by omega⟩
      rw [i2, show nextM M k (p + 1 + 1) - p = (nextM M k (p + 1 + 1) - (p + 1)) + 1 by omega, List.range'_succ]
      rfl
    · rw [if_neg e] at hh
      have hr : rowF s.cnt s (f p) = (letsSt (comesSt s (f p)) ((f p).level, (f p).n + 1), [f p]) := by
        cases hc : s.cnt with
        | zero => rfl
        | succ c => rw [rowF.eq_2, hh]
      have hnx : nextM M (k + 1) (p + 1) = p + 1 := by show (if M (p + 1) = true then _ else _) = _; rw [if_neg e]
      rw [hr, hnx]
      exact ⟨hn, by rw [show p + 1 - p = 1 by omega]; simp [List.range'], Nat.le_refl _⟩
theorem nextM_spec {M : Nat → Bool} (h8 : ∀ n, 8 ≤ n → M n = false) : ∀ (k p : Nat), 8 ≤ p + k → p ≤ 8 → p ≤ nextM M k p ∧ nextM M k p ≤ 8 ∧ (∀ j, p ≤ j → j < nextM M k p → M j = true) ∧ M (nextM M k p) = false := by
  intro k
  induction k with
  | zero =>
    intro p h1 h2
    exact ⟨Nat.le_refl _, h2, fun j a b => absurd b (by show ¬ j < p; omega), h8 p (by omega)⟩
  | succ k ih =>
    intro p h1 h2
    by_cases e : M p = true
    · have hp : p < 8 := by
        rcases Nat.lt_or_ge p 8 with h | h
        · exact h
        · rw [h8 p h] at e; cases e
      have hx : nextM M (k + 1) p = nextM M k (p + 1) := by show (if M p = true then _ else _) = _; rw [if_pos e]
      obtain ⟨a1, a2, a3, a4⟩ := ih (p + 1) (by omega) (by omega)
      rw [hx]
      refine ⟨by omega, a2, fun j b1 b2 => ?_, a4⟩
      by_cases ej : j = p
      · rw [ej]; exact e
      · exact a3 j (by omega) b2
    · have hx : nextM M (k + 1) p = p := by show (if M p = true then _ else _) = _; rw [if_neg e]
      rw [hx]
      exact ⟨Nat.le_refl _, h2, fun j a b => by omega, by simpa using e⟩
theorem nextM_unique {M : Nat → Bool} {a b : Nat} (ha : ∀ j, j < a → M j = true) (ha' : M a = false) (hb : ∀ j, j < b → M j = true) (hb' : M b = false) : a = b := by
  rcases Nat.lt_trichotomy a b with h | h | h
  · rw [hb a h] at ha'; cases ha'
  · exact h
  · rw [ha b h] at hb'; cases hb'
def preM (M : Nat → Bool) : Nat := nextM M 8 0
theorem preM_spec {M : Nat → Bool} (h8 : ∀ n, 8 ≤ n → M n = false) : preM M ≤ 8 ∧ (∀ j, j < preM M → M j = true) ∧ M (preM M) = false := by
  obtain ⟨_, a2, a3, a4⟩ := nextM_spec h8 8 0 (by omega) (by omega)
  exact ⟨a2, fun j hj => a3 j (Nat.zero_le _) hj, a4⟩
theorem setM8_out {M : Nat → Bool} {k : Nat} (h8 : ∀ n, 8 ≤ n → M n = false) (hk : k < 8) : ∀ n, 8 ≤ n → setM8 M k n = false := fun n hn => by
  unfold setM8
  rw [if_neg (by omega)]; exact h8 n hn
theorem setM8_id {M : Nat → Bool} {k : Nat} (h : M k = true) : setM8 M k = M := by
  funext n
  unfold setM8
  split
  · rename_i e; rw [e, h]
  · rfl
theorem chain3_above : labove (lchain 3) 2 0 = true := by decide +kernel
theorem OrdInv.new {f : Nat → It} {T : Nat → Int} (h0 : T 0 = 0) : OrdInv f T (fun _ => false) 0 IntSt.new := by
  refine ⟨rfl, h0.symm, rfl, fun n => by rw [if_neg (by simp)]; rfl, ?_⟩
  show 0 = cntM _ 0
  decide
theorem OrdInv.step {f : Nat → It} {T : Nat → Int} {M : Nat → Bool} {s : IntSt} (h8 : ∀ n, 8 ≤ n → M n = false) (hR : Row8 f T) (h : OrdInv f T M (preM M) s) {k : Nat} (hk : k < 8) :
    putN (lchain 3) 2 s (f k) = 0 ∧ OrdInv f T (setM8 M k) (preM (setM8 M k)) (putSt (lchain 3) 2 s (f k)).1 ∧ (putSt (lchain 3) 2 s (f k)).2 = (List.range' (preM M) (preM (setM8 M k) - preM M)).map f ∧ preM M ≤ preM (setM8 M k) := by
  obtain ⟨hp8, hpa, hpn⟩ := preM_spec h8
  obtain ⟨sh, e1, e2⟩ := hR.it k
  have hlow := hR.low k
  have his : (itIt 0 ((k : Int) + 1) (T k) sh).is = true := itIt_is (by decide) (by omega) (by omega)
  have hPut := put_it (ms := lchain 3) (lev := 2) (s := s) (a := 0) his chain3_above rfl
  rw [← e1, h.hav, h.held] at hPut
  obtain ⟨hN, hS⟩ := hPut
  by_cases hM : M k = true
  · have hkp : k < preM M ∨ preM M < k := by
      rcases Nat.lt_trichotomy k (preM M) with a | a | a
      · exact .inl a
      · rw [← a, hM] at hpn; cases hpn
      · exact .inr a
    have hyes : (k : Int) + 1 ≤ (preM M : Int) ∨ ((if preM M < k ∧ M k = true then some (f k) else none)).isSome = true := by
      rcases hkp with a | a
      · left; omega
      · right; rw [if_pos ⟨a, hM⟩]; rfl
    rw [if_pos hyes] at hN hS
    rw [hN, hS, setM8_id hM]
    exact ⟨rfl, h, by simp, Nat.le_refl _⟩
  · have hMf : M k = false := by simpa using hM
    have hkp : preM M ≤ k := by
      rcases Nat.lt_or_ge k (preM M) with a | a
      · rw [hpa k a] at hMf; cases hMf
      · exact a
    have hno : ¬ ((k : Int) + 1 ≤ (preM M : Int) ∨ ((if preM M < k ∧ M k = true then some (f k) else none)).isSome = true) := by
      rw [if_neg (by intro hc; exact hM hc.2)]
      simp; omega
    rw [if_neg hno] at hN hS
    have h8' := setM8_out (k := k) h8 hk
    obtain ⟨hp8', hpa', hpn'⟩ := preM_spec h8'
    by_cases hkq : k = preM M
    · have hgt : ¬ (preM M : Int) + 1 < (k : Int) + 1 := by omega
      have hot : T k = s.over 0 := by rw [h.ovr, hkq]
      rw [if_neg hgt, if_pos hot] at hN hS
      have h2 : OrdInv f T (setM8 M k) k s := by
        rw [← hkq] at h
        refine ⟨h.hav, h.ovr, h.ovr1, fun n => ?_, by rw [h.cnt, cntM_same (Nat.le_refl _)]⟩
        rw [h.held]
        unfold setM8
        by_cases en : n = k
        · subst en
          simp
        · rw [if_neg en]
      obtain ⟨i1, i2, i3⟩ := rowF_ord h8' hR (8 - k) k s (by omega) h2
      obtain ⟨_, b2, b3, b4⟩ := nextM_spec h8' (8 - k) (k + 1) (by omega) (by omega)
      have hq : nextM (setM8 M k) (8 - k) (k + 1) = preM (setM8 M k) := by
        refine nextM_unique (fun j hj => ?_) b4 hpa' hpn'
        by_cases hjk : j = k
        · unfold setM8; rw [if_pos hjk]
        · by_cases hjl : j < k
          · unfold setM8; rw [if_neg hjk]; exact hpa j (by omega)
          · exact b3 j (by omega) hj
      rw [hq] at i1 i2 i3
      rw [hN, hS, ← hkq]
      exact ⟨rfl, i1, i2, by omega⟩
    · have hgt : (preM M : Int) + 1 < (k : Int) + 1 := by omega
      rw [if_pos hgt] at hN hS
      have hc := cntM_le M (preM M)
      have hc40 : s.cnt < 40 := by rw [h.cnt]; omega
      have hq : preM (setM8 M k) = preM M := by
        refine nextM_unique hpa' hpn' (fun j hj => ?_) ?_
        · unfold setM8; rw [if_neg (by omega)]; exact hpa j hj
        · unfold setM8; rw [if_neg (by omega)]; exact hpn
      rw [hN, hS, hq]
      refine ⟨by unfold holdsN; rw [if_pos hc40], ?_, by simp, Nat.le_refl _⟩
      unfold holdsSt
      rw [if_pos hc40]
      refine ⟨h.hav, h.ovr, h.ovr1, fun n => ?_, ?_⟩
      · show (if ((0 : Int), (n : Int) + 1) = ((f k).level, (f k).n) then some (f k) else s.held (0, (n : Int) + 1)) = _
        rw [h.held, e1]
        show (if ((0 : Int), (n : Int) + 1) = (0, (k : Int) + 1) then _ else _) = _
        unfold setM8
        by_cases en : n = k
        · subst en
          rw [if_pos rfl, if_pos ⟨by omega, by simp⟩, ← e1]
        · rw [if_neg (by simp; omega), if_neg en]
      · show s.cnt + 1 = _
        rw [h.cnt, cntM_add hk hMf (by omega)]
theorem chain3_below : lbelow (lchain 3) 2 = [0, 1] := by decide +kernel
theorem OrdInv.ready {f : Nat → It} {T : Nat → Int} {M : Nat → Bool} {p : Nat} {s : IntSt} (h : OrdInv f T M p s) : rdy (lchain 3) s.over 2 0 = false := by
  unfold rdy
  rw [chain3_below]
  simp [h.ovr1]
end Go.Proofs.Ytdknkbpgkkakhaa
