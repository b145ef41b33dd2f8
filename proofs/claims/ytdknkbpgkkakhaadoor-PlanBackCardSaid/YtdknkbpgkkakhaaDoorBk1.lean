/- Layer 2: a text of names that stand between the covers and all that is below is read as the lattice: plain. -/
import Derived.Test.YtdknkbpgkkakhaaDoorP10
import Derived.Test.YtdknkbpgkkakhaaDoorP4
namespace Go.Proofs.YtdknkbpgkkakhaaDoor
open Go.RowKit

/- Steps by way of all levels: what comes of it. -/
theorem rowsUp_at (n k : Nat) (f : Nat → Nat → Bool) (hk : k < n) : ∀ j, j ≤ n → ∀ a b, a < n → b < n → rowsUp n f k j a b = if a < j then f a b || (f a k && f k b) else f a b
  | 0, _, a, b, _, _ => by simp [rowsUp]
  | j + 1, hj, a, b, ha, hb => by
    have ih := rowsUp_at n k f hk j (by omega)
    have e1 := ih a b ha hb
    have e2 : rowsUp n f k j j b = f j b := by rw [ih j b (by omega) hb, if_neg (by omega)]
    have e3 : rowsUp n f k j j k = f j k := by rw [ih j k (by omega) hk, if_neg (by omega)]
    have e4 : rowsUp n f k j k b = f k b := by
      rw [ih k b hk hb]
      split
      · cases f k b <;> cases f k k <;> rfl
      · rfl
    show stepR (rowsUp n f k j) j k n a b = _
    unfold stepR
    by_cases h : a = j
    · subst h
      rw [if_pos ⟨rfl, hb⟩, if_pos (by omega), e2, e3, e4]
    · rw [if_neg (fun e => h e.1), e1]
      by_cases h2 : a < j
      · rw [if_pos h2, if_pos (by omega)]
      · rw [if_neg h2, if_neg (by omega)]
theorem close_succ (n k : Nat) (f : Nat → Nat → Bool) (hk : k < n) {a b : Nat} (ha : a < n) (hb : b < n) : close n f (k + 1) a b = (close n f k a b || (close n f k a k && close n f k k b)) := by
  show rowsUp n (close n f k) k n a b = _
  rw [rowsUp_at n k _ hk n (Nat.le_refl _) a b ha hb, if_pos ha]
theorem close_more (n : Nat) (f : Nat → Nat → Bool) : ∀ k, k ≤ n → ∀ a b, a < n → b < n → f a b = true → close n f k a b = true
  | 0, _, _, _, _, _, h => h
  | k + 1, hk, a, b, ha, hb, h => by rw [close_succ n k f (by omega) ha hb, close_more n f k (by omega) a b ha hb h]; rfl
theorem close_within (n : Nat) (f g : Nat → Nat → Bool) (hfg : ∀ a b, a < n → b < n → f a b = true → g a b = true) (ht : ∀ a b c, a < n → b < n → c < n → g a b = true → g b c = true → g a c = true) :
    ∀ k, k ≤ n → ∀ a b, a < n → b < n → close n f k a b = true → g a b = true
  | 0, _, a, b, ha, hb, h => hfg a b ha hb h
  | k + 1, hk, a, b, ha, hb, h => by
    have ih := close_within n f g hfg ht k (by omega)
    rw [close_succ n k f (by omega) ha hb, Bool.or_eq_true, Bool.and_eq_true] at h
    rcases h with h | ⟨h1, h2⟩
    · exact ih a b ha hb h
    · exact ht a k b ha (by omega) hb (ih a k ha (by omega) h1) (ih k b (by omega) hb h2)
/-- By way of the first k levels nothing is lacking. -/
theorem close_trans (n : Nat) (f : Nat → Nat → Bool) : ∀ k, k ≤ n → ∀ i, i < k → ∀ a b, a < n → b < n → close n f k a i = true → close n f k i b = true → close n f k a b = true
  | 0, _, i, hi, _, _, _, _, _, _ => by omega
  | k + 1, hk, i, hi, a, b, ha, hb, h1, h2 => by
    have hkn : k < n := by omega
    have hin : i < n := by omega
    have ih := close_trans n f k (by omega)
    rw [close_succ n k f hkn ha hin, Bool.or_eq_true, Bool.and_eq_true] at h1
    rw [close_succ n k f hkn hin hb, Bool.or_eq_true, Bool.and_eq_true] at h2
    rw [close_succ n k f hkn ha hb, Bool.or_eq_true, Bool.and_eq_true]
    by_cases hik : i = k
    · subst hik
      have g1 : close n f i a i = true := by rcases h1 with h | h; exact h; exact h.1
      have g2 : close n f i i b = true := by rcases h2 with h | h; exact h; exact h.2
      exact .inr ⟨g1, g2⟩
    · have hi' : i < k := by omega
      rcases h1 with h1 | h1 <;> rcases h2 with h2 | h2
      · exact .inl (ih i hi' a b ha hb h1 h2)
      · exact .inr ⟨ih i hi' a k ha hkn h1 h2.1, h2.2⟩
      · exact .inr ⟨h1.1, ih i hi' k b hkn hb h1.2 h2⟩
      · exact .inr ⟨h1.1, h2.2⟩

/-- Between the covers and all that is below, one's own level too: then all that is below is reached, and nothing else. -/
theorem close_lattice {m : Mat} (hm : lchk m = 0) {f : Nat → Nat → Bool} (hself : ∀ a, a < m.length → f a a = true)
    (hcov : ∀ a b : Nat, a < m.length → b ∈ lcovers m a → f a b = true) (hin : ∀ a b : Nat, a < m.length → b < m.length → f a b = true → ldom m a b = true) :
    ∀ a b, a < m.length → b < m.length → close m.length f m.length a b = at2 m a b := by
  have hlv := levels_of m hm
  have hd : ∀ {a b : Nat}, a < m.length → b < m.length → ldom m a b = at2 m a b := fun ha hb => ldom_eq (by omega) (by omega)
  have low : ∀ (N a b : Nat), (lbelow m a).length ≤ N → a < m.length → b < m.length → ldom m a b = true → close m.length f m.length a b = true := by
    intro N
    induction N with
    | zero =>
      intro a b hN ha hb h
      by_cases hab : a = b
      · subst hab; exact close_more _ _ _ (Nat.le_refl _) _ _ ha ha (hself a ha)
      · have : b ∈ lbelow m a := mem_below.2 (above_iff.2 ⟨by omega, h⟩)
        have := List.length_pos_of_mem this
        omega
    | succ N ih =>
      intro a b hN ha hb h
      by_cases hab : a = b
      · subst hab; exact close_more _ _ _ (Nat.le_refl _) _ _ ha ha (hself a ha)
      · have hmem : b ∈ lbelow m a := mem_below.2 (above_iff.2 ⟨by omega, h⟩)
        obtain ⟨c, hc, hcb⟩ := cover_reaches hmem
        have hcl : c ∈ lbelow m a := (List.mem_filter.1 hc).1
        have hcn : c < m.length := by have := below_lt hcl; omega
        have hlt := below_shrinks (mem_below.1 hcl)
        have t1 := close_more _ _ _ (Nat.le_refl _) a c ha hcn (hcov a c ha hc)
        have t2 := ih c b (by omega) hcn hb hcb
        exact close_trans _ _ _ (Nat.le_refl _) c hcn a b ha hb t1 t2
  have hi : ∀ a b, a < m.length → b < m.length → close m.length f m.length a b = true → at2 m a b = true := by
    refine close_within m.length f (at2 m) (fun a b ha hb h => ?_) (fun a b c ha hb hc h1 h2 => ?_) m.length (Nat.le_refl _)
    · rw [← hd ha hb]; exact hin a b ha hb h
    · rw [← hd ha hc]
      rw [← hd ha hb] at h1
      rw [← hd hb hc] at h2
      exact dom_trans h1 h2
  intro a b ha hb
  rw [Bool.eq_iff_iff]
  constructor
  · exact hi a b ha hb
  · intro h
    rw [← hd ha hb] at h
    exact low _ a b (Nat.le_refl _) ha hb h
theorem gridM_self {m : Mat} {n : Nat} (hn : m.length = n) (hr : ∀ r ∈ m, r.length = n) {f : Nat → Nat → Bool} (h : ∀ a b, a < n → b < n → f a b = at2 m a b) : gridM n f = m := by
  apply List.ext_getElem
  · rw [gridM_length, hn]
  · intro i h1 h2
    have hi : i < n := by rw [gridM_length] at h1; exact h1
    have hl := hr m[i] (List.getElem_mem h2)
    simp only [gridM, List.getElem_map, List.getElem_range]
    apply List.ext_getElem
    · simp [rowBs, hl]
    · intro j h3 h4
      have hj : j < n := by simpa [rowBs] using h3
      simp only [rowBs, List.getElem_map, List.getElem_range]
      rw [h i j hi hj]
      unfold at2
      rw [List.getD_eq_getElem?_getD, List.getD_eq_getElem?_getD, List.getElem?_eq_getElem h2, Option.getD_some, List.getElem?_eq_getElem h4, Option.getD_some]

/- The text. -/
def nb (k : Nat) : UInt8 := UInt8.ofNat (97 + k)
theorem nam_list {k : Nat} (h : k < 6) : (nam (k : Int)).data.toList = [nb k] := by
  obtain rfl | rfl | rfl | rfl | rfl | rfl : k = 0 ∨ k = 1 ∨ k = 2 ∨ k = 3 ∨ k = 4 ∨ k = 5 := by omega
  all_goals decide +kernel
theorem lvl_nb {k : Nat} (h : k < 6) : lvl ⟨#[nb k]⟩ = some k := by
  obtain rfl | rfl | rfl | rfl | rfl | rfl : k = 0 ∨ k = 1 ∨ k = 2 ∨ k = 3 ∨ k = 4 ∨ k = 5 := by omega
  all_goals decide +kernel
theorem nb_ne {k : Nat} (h : k < 6) : nb k ≠ 10 := by
  obtain rfl | rfl | rfl | rfl | rfl | rfl : k = 0 ∨ k = 1 ∨ k = 2 ∨ k = 3 ∨ k = 4 ∨ k = 5 := by omega
  all_goals decide +kernel
/-- A line for each level. -/
def txt (ls : Nat → List Nat) : Nat → ByteArray
  | 0 => ⟨#[]⟩
  | a + 1 => prNs (ls a) (txt ls a ++ nam (a : Int) ++ ⟨#[62]⟩) ++ ⟨#[10]⟩
theorem prUp_txt (m : Mat) : ∀ a, prUp m a = txt (fun a => lcovers m (a : Int)) a
  | 0 => rfl
  | a + 1 => by rw [prUp, txt, prUp_txt m a]
theorem prNs_list {l : List Nat} (h : ∀ x ∈ l, x < 6) (s : ByteArray) : (prNs l s).data.toList = s.data.toList ++ l.map nb := by
  induction l generalizing s with
  | nil => simp [prNs]
  | cons c l ih =>
    show (prNs l (s ++ nam (c : Int))).data.toList = _
    rw [ih (fun x hx => h x (by simp [hx])), ByteArray.data_append, Array.toList_append, nam_list (h c (by simp))]
    simp
def lineL (a : Nat) (l : List Nat) : List UInt8 := nb a :: 62 :: l.map nb
theorem txt_list {ls : Nat → List Nat} {n : Nat} (hn : n ≤ 6) (h : ∀ a, a < n → ∀ x ∈ ls a, x < 6) {a : Nat} (ha : a < n) : (txt ls (a + 1)).data.toList = (txt ls a).data.toList ++ lineL a (ls a) ++ [10] := by
  rw [txt, ByteArray.data_append, Array.toList_append, prNs_list (h a ha), ByteArray.data_append, Array.toList_append, ByteArray.data_append, Array.toList_append, nam_list (by omega)]
  simp [lineL]
theorem cut10_line (L : List (List UInt8)) : ∀ (t : List UInt8) (p q : List UInt8), (∀ b ∈ t, b ≠ 10) → cut10 p = L ++ [q] → cut10 (p ++ t) = L ++ [q ++ t]
  | [], p, q, _, h => by simpa using h
  | b :: t, p, q, hb, h => by
    have h1 : cut10 (p ++ [b]) = L ++ [q ++ [b]] := by
      rw [cut10_snoc, if_neg (hb b (by simp)), h]
      simp [putLast]
    have h2 := cut10_line L t (p ++ [b]) (q ++ [b]) (fun x hx => hb x (by simp [hx])) h1
    simpa using h2
theorem line_no {a : Nat} {l : List Nat} (ha : a < 6) (hl : ∀ x ∈ l, x < 6) : ∀ b ∈ lineL a l, b ≠ 10 := by
  intro b hb
  simp only [lineL, List.mem_cons, List.mem_map] at hb
  rcases hb with rfl | rfl | ⟨x, hx, rfl⟩
  · exact nb_ne ha
  · decide
  · exact nb_ne (hl x hx)
theorem cut10_txt {ls : Nat → List Nat} {n : Nat} (hn : n ≤ 6) (h : ∀ a, a < n → ∀ x ∈ ls a, x < 6) : ∀ a, a ≤ n → cut10 (txt ls a).data.toList = (List.range a).map (fun i => lineL i (ls i)) ++ [[]]
  | 0, _ => rfl
  | a + 1, ha => by
    have ih := cut10_txt hn h a (by omega)
    have h1 := cut10_line _ (lineL a (ls a)) _ _ (line_no (by omega) (h a (by omega))) ih
    rw [txt_list hn h (by omega), cut10_snoc, if_pos rfl, h1, List.range_succ, List.map_append]
    simp
theorem txt_pcs {ls : Nat → List Nat} {n : Nat} (hn : n ≤ 6) (h : ∀ a, a < n → ∀ x ∈ ls a, x < 6) :
    (pcs (txt ls n)).map (·.data.toList) = (List.range n).map (fun i => lineL i (ls i)) ∧ endAt (txt ls n) = (txt ls n).size := by
  have h1 := lnUp_cut (txt ls n) (txt ls n).size (Nat.le_refl _)
  have h3 : (txt ls n).data.toList.take (txt ls n).size = (txt ls n).data.toList := by
    apply List.take_of_length_le
    simp
  rw [h3, cut10_txt hn h n (Nat.le_refl _)] at h1
  obtain ⟨e1, e2⟩ := List.append_inj' h1 (by simp)
  refine ⟨e1.symm, ?_⟩
  have e3 : (txt ls n).data.toList.drop (endAt (txt ls n)) = [] := by
    injection e2 with e2 _
    exact e2.symm
  have e4 := List.drop_eq_nil_iff.1 e3
  have e5 := endAt_le (txt ls n)
  have e6 : (txt ls n).data.toList.length = (txt ls n).size := by simp
  omega

/- A line read. -/
def rowB (n a : Nat) (l : List Nat) : List Bool := (l.foldl (fun bs x => bs.set x true) (List.replicate n false)).set a true
theorem fold_len (l : List Nat) (bs : List Bool) : (l.foldl (fun bs x => bs.set x true) bs).length = bs.length := by
  induction l generalizing bs with
  | nil => rfl
  | cons x l ih => rw [List.foldl_cons, ih]; simp
theorem fold_get (l : List Nat) (bs : List Bool) {b : Nat} (hb : b < bs.length) : (l.foldl (fun bs x => bs.set x true) bs).getD b false = (decide (b ∈ l) || bs.getD b false) := by
  induction l generalizing bs with
  | nil => simp
  | cons x l ih =>
    rw [List.foldl_cons, ih _ (by simpa using hb)]
    simp only [List.getD_eq_getElem?_getD, List.getElem?_set, List.mem_cons]
    by_cases hx : x = b
    · subst hx; simp [hb]
    · simp [hx, Ne.symm hx]
theorem rowGo_names {a n : Nat} : ∀ (l : List Nat) (bs : List Bool), bs.length = n → l.Nodup → (∀ x ∈ l, x < n ∧ x < 6 ∧ x ≠ a ∧ bs.getD x false = false) →
    rowGo a n (l.map nb) bs = some ((l.foldl (fun bs x => bs.set x true) bs).set a true)
  | [], bs, _, _, _ => rfl
  | x :: l, bs, hb, hn, h => by
    obtain ⟨h1, h2, h3, h4⟩ := h x (by simp)
    obtain ⟨hx, hn'⟩ := List.nodup_cons.1 hn
    rw [List.map_cons, rowGo, lvl_nb h2]
    simp only []
    rw [if_neg (by rw [h4]; simp; omega)]
    refine rowGo_names l _ (by simpa using hb) hn' (fun y hy => ?_)
    obtain ⟨g1, g2, g3, g4⟩ := h y (by simp [hy])
    refine ⟨g1, g2, g3, ?_⟩
    have hxy : x ≠ y := fun e => hx (e ▸ hy)
    rw [List.getD_eq_getElem?_getD, List.getElem?_set_ne hxy, ← List.getD_eq_getElem?_getD]
    exact g4
theorem rowP_line {x : ByteArray} {a n : Nat} {l : List Nat} (ha : a < 6) (hx : x.data.toList = lineL a l) (hn : l.Nodup) (h : ∀ y ∈ l, y < n ∧ y < 6 ∧ y ≠ a) : rowP x a n = some (rowB n a l) := by
  have hp : (nam (a : Int) ++ ⟨#[62]⟩).data.toList = [nb a, 62] := by
    rw [ByteArray.data_append, Array.toList_append, nam_list ha]; rfl
  unfold rowP
  rw [hx, hp]
  have h1 : Lib.hasPrefix (lineL a l) [nb a, 62] = true := by simp [Lib.hasPrefix, lineL, List.isPrefixOf]
  rw [if_pos h1, Lib.trimPrefix, if_pos h1]
  show rowGo a n (l.map nb) (List.replicate n false) = _
  refine rowGo_names l _ (by simp) hn (fun y hy => ?_)
  obtain ⟨g1, g2, g3⟩ := h y hy
  exact ⟨g1, g2, g3, by simp [List.getD_eq_getElem?_getD, g1]⟩
theorem rowsGo_txt {ps : List ByteArray} {ls : Nat → List Nat} {n : Nat} (hn : n ≤ 6) (hps : ps.map (·.data.toList) = (List.range n).map (fun i => lineL i (ls i)))
    (hnd : ∀ a, a < n → (ls a).Nodup) (h : ∀ a, a < n → ∀ y ∈ ls a, y < n ∧ y < 6 ∧ y ≠ a) : ∀ k, k ≤ n → rowsGo ps n k = some ((List.range k).map fun a => rowB n a (ls a))
  | 0, _ => rfl
  | k + 1, hk => by
    have hl : ps.length = n := by have := congrArg List.length hps; simpa using this
    have hx : (ps.getD k ⟨#[]⟩).data.toList = lineL k (ls k) := by
      have e := congrArg (fun l => l[k]?) hps
      simp only [List.getElem?_map] at e
      rw [List.getElem?_eq_getElem (show k < ps.length by omega), List.getElem?_range (show k < n by omega)] at e
      rw [List.getD_eq_getElem?_getD, List.getElem?_eq_getElem (show k < ps.length by omega)]
      simpa using e
    rw [rowsGo, rowsGo_txt hn hps hnd h k (by omega)]
    simp only []
    rw [rowP_line (by omega) hx (hnd k (by omega)) (h k (by omega))]
    simp only []
    rw [List.range_succ, List.map_append]
    rfl
theorem rowB_at {n a b : Nat} {l : List Nat} (ha : a < n) (hb : b < n) : (rowB n a l).getD b false = (decide (b = a) || decide (b ∈ l)) := by
  unfold rowB
  rw [List.getD_eq_getElem?_getD, List.getElem?_set]
  by_cases h : a = b
  · subst h
    rw [if_pos rfl, if_pos (by rw [fold_len]; simpa using ha)]
    simp
  · rw [if_neg h, ← List.getD_eq_getElem?_getD, fold_get _ _ (by simpa using hb)]
    simp [Ne.symm h, List.getD_eq_getElem?_getD, hb]
/-- A text whose lines name the covers, and only what is below, is read as the lattice. -/
theorem parse_txt {m : Mat} (hm : lchk m = 0) {ls : Nat → List Nat} (hnd : ∀ a, a < m.length → (ls a).Nodup) (hin : ∀ a : Nat, a < m.length → ∀ y ∈ ls a, labove m a y = true)
    (hcov : ∀ a : Nat, a < m.length → ∀ y ∈ lcovers m a, y ∈ ls a) : parseM (txt ls m.length) = (m, 0) := by
  have hsq := lchk_square hm
  have hlv := levels_of m hm
  have hn6 : m.length ≤ 6 := by simp [squareB] at hsq; omega
  have hn1 : 1 ≤ m.length := by simp [squareB] at hsq; omega
  have hrow : ∀ r ∈ m, r.length = m.length := by
    simp only [squareB, Bool.and_eq_true, List.all_eq_true, beq_iff_eq] at hsq
    exact hsq.1.1
  have hlt : ∀ a, a < m.length → ∀ y ∈ ls a, y < m.length ∧ y < 6 ∧ y ≠ a := by
    intro a ha y hy
    have h1 := above_iff.1 (hin a ha y hy)
    have h2 := ldom_lt h1.2
    refine ⟨by omega, by omega, ?_⟩
    intro e
    exact h1.1 (by omega)
  obtain ⟨e1, e2⟩ := txt_pcs (ls := ls) hn6 (fun a ha x hx => (hlt a ha x hx).2.1)
  have hlen : (pcs (txt ls m.length)).length = m.length := by have := congrArg List.length e1; simpa using this
  have hr := rowsGo_txt hn6 e1 hnd hlt m.length (Nat.le_refl _)
  unfold parseM
  rw [if_pos ⟨e2, by omega, by omega⟩, hlen, hr]
  obtain ⟨M, hM⟩ : ∃ M, M = (List.range m.length).map fun a => rowB m.length a (ls a) := ⟨_, rfl⟩
  rw [← hM]
  have hMl : M.length = m.length := by rw [hM]; simp
  have hat : ∀ a b, a < m.length → b < m.length → at2 M a b = (decide (b = a) || decide (b ∈ ls a)) := by
    intro a b ha hb
    rw [← rowB_at (l := ls a) ha hb, hM]
    simp [at2, List.getD_eq_getElem?_getD, ha]
  have hclose := close_lattice hm (f := at2 M) (fun a ha => by rw [hat a a ha ha]; simp) (fun a b ha hb => by
      have hb' : b < m.length := by have := (hlt a ha b (hcov a ha b hb)).1; exact this
      rw [hat a b ha hb']
      simp [hcov a ha b hb]) (fun a b ha hb h => by
      rw [hat a b ha hb, Bool.or_eq_true, decide_eq_true_eq, decide_eq_true_eq] at h
      rcases h with h | h
      · subst h; exact dom_refl (by omega)
      · exact (above_iff.1 (hin a ha b h)).2)
  have hcm : closeM M = m := by
    unfold closeM
    rw [hMl]
    exact gridM_self rfl hrow hclose
  show parseC (closeM M) = _
  rw [hcm, parseC, if_pos hm]
/-- What is printed is read. -/
theorem parse_print {m : Mat} (hm : lchk m = 0) : parseM (prUp m (levels m)) = (m, 0) := by
  rw [prUp_txt, levels_of m hm]
  refine parse_txt hm (fun a _ => ?_) (fun a _ y hy => ?_) (fun a _ y hy => hy)
  · unfold lcovers lbelow
    exact (List.nodup_range.filter _).filter _
  · exact mem_below.1 (List.mem_filter.1 hy).1
end Go.Proofs.YtdknkbpgkkakhaaDoor
