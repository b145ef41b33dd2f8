/- Layer 20: the intake and the document's are of one mind (no program in sight). -/
import Derived.Test.YtdknkbpgkkakhaaInt22
namespace Go.Proofs.Ytdknkbpgkkakhaa
open Go.RowKit

theorem find_ix_none {p : It → Bool} {l : List It} (h : l.findIdx? p = none) : l.find? p = none := by
  rw [List.findIdx?_eq_none_iff] at h
  rw [List.find?_eq_none]
  intro x hx
  rw [h x hx]; decide
theorem find_ix_some {p : It → Bool} {l : List It} {i : Nat} (h : l.findIdx? p = some i) : ∃ hi : i < l.length, l.find? p = some l[i] ∧ p l[i] = true := by
  rw [List.findIdx?_eq_some_iff_getElem] at h
  obtain ⟨h1, h2, h3⟩ := h
  refine ⟨h1, ?_, h2⟩
  rw [List.find?_eq_some_iff_getElem]
  exact ⟨h2, i, h1, rfl, fun j hj => by simpa using h3 j hj⟩
theorem flatMap_ext9 {α β : Type} {l : List α} {f g : α → List β} (h : ∀ a ∈ l, f a = g a) : l.flatMap f = l.flatMap g := by
  rw [List.flatMap_def, List.flatMap_def, List.map_congr_left h]
def keyNe (x y : It) : Prop := ¬ (x.level = y.level ∧ x.n = y.n)
theorem hKey_iff {lv n : Int} {y : It} : hKey lv n y = true ↔ y.level = lv ∧ y.n = n := by simp [hKey]
theorem find_erase (lv n lv' n' : Int) : ∀ (l : List It) (i : Nat), l.Pairwise keyNe → l.findIdx? (hKey lv n) = some i → (l.eraseIdx i).find? (hKey lv' n') = if lv' = lv ∧ n' = n then none else l.find? (hKey lv' n') := by
  intro l
  induction l with
  | nil => intro i _ h; simp at h
  | cons x l ih =>
    intro i hp h
    rw [List.pairwise_cons] at hp
    rw [List.findIdx?_cons] at h
    by_cases hx : hKey lv n x = true
    · rw [if_pos hx] at h
      injection h with h
      subst h
      obtain ⟨e1, e2⟩ := hKey_iff.1 hx
      rw [List.eraseIdx_zero, List.tail_cons]
      split
      · rename_i e
        obtain ⟨rfl, rfl⟩ := e
        rw [List.find?_eq_none]
        intro y hy hk
        obtain ⟨f1, f2⟩ := hKey_iff.1 hk
        exact hp.1 y hy ⟨by rw [e1, f1], by rw [e2, f2]⟩
      · rename_i e
        rw [List.find?_cons]
        have : hKey lv' n' x = false := by
          rw [← Bool.not_eq_true, hKey_iff]
          rintro ⟨f1, f2⟩
          exact e ⟨by rw [← f1, e1], by rw [← f2, e2]⟩
        rw [this]
    · rw [if_neg hx] at h
      cases hj : l.findIdx? (hKey lv n) with
      | none => rw [hj] at h; cases h
      | some j =>
        rw [hj] at h
        injection h with h
        subst h
        rw [List.eraseIdx_cons_succ, List.find?_cons, List.find?_cons, ih j hp.2 hj]
        cases hk : hKey lv' n' x with
        | false => rfl
        | true =>
          by_cases e : lv' = lv ∧ n' = n
          · rw [e.1, e.2] at hk
            exact absurd hk hx
          · rw [if_neg e, if_neg e]
theorem pair_erase (l : List It) (i : Nat) (h : l.Pairwise keyNe) : (l.eraseIdx i).Pairwise keyNe := h.sublist (List.eraseIdx_sublist _ _)

/-- Both tell the same. -/
structure Sim (s : IntSt) (r : RfSt) : Prop where
  hav : ∀ a : Nat, a < 6 → s.have_ a = ((r.came a).length : Int)
  ovr : ∀ a : Nat, a < 6 → s.over a = (overL (r.came a) : Int)
  held : ∀ lv n, s.held (lv, n) = r.held.find? (hKey lv n)
  uniq : r.held.Pairwise keyNe
  cnt : s.cnt = r.held.length
  first : s.first = r.first
  came : ∀ a : Nat, a < 6 → s.came.filter (fun x => decide (x.level = (a : Int)) && decide (s.first ≤ x.turn)) = (r.came a).filter (fun x => !x.shut && decide (s.first ≤ x.turn))
section
variable {s : IntSt} {r : RfSt}
theorem Sim.new : Sim IntSt.new RfSt.new := ⟨fun _ _ => rfl, fun _ _ => rfl, fun _ _ => rfl, List.Pairwise.nil, rfl, rfl, fun _ _ => rfl⟩
theorem rfCame_came (r : RfSt) (a : Nat) (x : It) (b : Nat) : (rfCame r a x).came b = if b = a then r.came b ++ [x] else r.came b := rfl
theorem Sim.comes (h : Sim s r) {a : Nat} (ha : a < 6) {x : It} (hx : x.level = (a : Int)) : Sim (comesSt s x) (rfCame r a x) := by
  have hf : (comesSt s x).first = s.first := by unfold comesSt comesHave comesOver; split <;> rfl
  have hl : x.level.toNat = a := by rw [hx]; rfl
  refine ⟨fun b hb => ?_, fun b hb => ?_, fun lv n => by rw [comesSt_held]; exact h.held lv n, h.uniq, by rw [comesSt_cnt]; exact h.cnt, by rw [hf]; exact h.first, fun b hb => ?_⟩
  · rw [comesSt_have, rfCame_came, hl]
    split
    · rw [h.hav b hb]; simp
    · exact h.hav b hb
  · rw [comesSt_over, rfCame_came, hl]
    by_cases e : b = a
    · subst e
      rw [if_pos rfl, h.ovr b hb]
      cases hs : x.shut <;> simp [overL, hs]
    · rw [if_neg e, if_neg (fun q => e q.1)]; exact h.ovr b hb
  · rw [comesSt_came, hf, rfCame_came]
    have h0 := h.came b hb
    by_cases e : b = a
    · subst e
      rw [if_pos rfl, List.filter_append, ← h0]
      cases hs : x.shut
      · simp [hs, hx, List.filter_append, List.filter_cons]
      · simp [hs]
    · rw [if_neg e, ← h0]
      cases hs : x.shut
      · have hne : ¬ x.level = (b : Int) := by rw [hx]; omega
        simp [hne, List.filter_append]
      · simp
theorem Sim.lets_none (h : Sim s r) {k : Int × Int} (hk : s.held k = none) : Sim (letsSt s k) r :=
  ⟨h.hav, h.ovr, fun lv n => by
    show (if (lv, n) = k then none else s.held (lv, n)) = _
    split
    · rename_i e; rw [← h.held, e, hk]
    · exact h.held lv n, h.uniq, by
    show (if (s.held k).isSome = true then s.cnt - 1 else s.cnt) = _
    rw [hk]; exact h.cnt, h.first, h.came⟩
theorem Sim.lets_some (h : Sim s r) {lv n : Int} {i : Nat} (hk : r.held.findIdx? (hKey lv n) = some i) : Sim (letsSt s (lv, n)) (rfPull r i) := by
  obtain ⟨hi, h1, h2⟩ := find_ix_some hk
  refine ⟨h.hav, h.ovr, fun lv' n' => ?_, pair_erase _ _ h.uniq, ?_, h.first, h.came⟩
  · show (if (lv', n') = (lv, n) then none else s.held (lv', n')) = _
    show _ = (r.held.eraseIdx i).find? (hKey lv' n')
    rw [find_erase lv n lv' n' _ _ h.uniq hk, h.held]
    simp only [Prod.mk.injEq]
  · show (if (s.held (lv, n)).isSome = true then s.cnt - 1 else s.cnt) = (r.held.eraseIdx i).length
    rw [h.held, h1, List.length_eraseIdx, if_pos hi, h.cnt]
    simp
theorem Sim.holds (h : Sim s r) {x : It} (hno : s.held (x.level, x.n) = none) (hc : s.cnt < 40) : Sim (holdsSt s x) (rfHold r (r.held ++ [x])) := by
  unfold holdsSt
  rw [if_pos hc]
  refine ⟨h.hav, h.ovr, fun lv n => ?_, ?_, ?_, h.first, h.came⟩
  · show (if (lv, n) = (x.level, x.n) then some x else s.held (lv, n)) = (r.held ++ [x]).find? (hKey lv n)
    rw [List.find?_append, ← h.held]
    by_cases e : (lv, n) = (x.level, x.n)
    · rw [if_pos e, e, hno]
      injection e with e1 e2
      have : hKey lv n x = true := hKey_iff.2 ⟨e1.symm, e2.symm⟩
      simp [List.find?_cons, this]
    · rw [if_neg e]
      have : hKey lv n x = false := by
        rw [← Bool.not_eq_true, hKey_iff]
        rintro ⟨f1, f2⟩
        exact e (by rw [f1, f2])
      cases s.held (lv, n) <;> simp [List.find?_cons, this]
  · show (r.held ++ [x]).Pairwise keyNe
    rw [List.pairwise_append]
    refine ⟨h.uniq, List.pairwise_singleton _ _, fun y hy z hz => ?_⟩
    have : z = x := by simpa using hz
    subst this
    rw [h.held, List.find?_eq_none] at hno
    exact fun q => hno y hy (hKey_iff.2 q)
  · show s.cnt + 1 = (r.held ++ [x]).length
    rw [h.cnt]; simp
theorem Sim.drop (h : Sim s r) (hf : s.first ≤ 1000001) (t : Int) : Sim (dropSt s t) (rfDrop r t) := by
  have hfst : dropFirst s t = (rfDrop r t).first := by
    show _ = if t < 1000000 then (if r.first < t + 1 then t + 1 else r.first) else 1000001
    rw [← h.first]
    unfold dropFirst
    by_cases h1 : t < 1000000
    · rw [if_neg (show ¬ 1000000 < t by omega), if_pos h1]
    · rw [if_neg h1]
      by_cases h2 : 1000000 < t
      · rw [if_pos h2]
        split <;> omega
      · rw [if_neg h2]
        split <;> omega
  have hle : s.first ≤ dropFirst s t := by
    unfold dropFirst
    by_cases h1 : (1000000 : Int) < t
    · rw [if_pos h1]; split <;> omega
    · rw [if_neg h1]; split <;> omega
  refine ⟨h.hav, h.ovr, h.held, h.uniq, h.cnt, hfst, fun a ha => ?_⟩
  show (s.came.filter fun x => !late (dropFirst s t) x).filter (fun x => decide (x.level = (a : Int)) && decide (dropFirst s t ≤ x.turn)) = (r.came a).filter (fun x => !x.shut && decide (dropFirst s t ≤ x.turn))
  have h0 := congrArg (List.filter fun x : It => decide (dropFirst s t ≤ x.turn)) (h.came a ha)
  rw [List.filter_filter, List.filter_filter] at h0
  rw [List.filter_filter]
  generalize dropFirst s t = f at *
  refine Eq.trans (List.filter_congr fun x _ => ?_) (h0.trans (List.filter_congr fun x _ => ?_))
  · by_cases e : f ≤ x.turn
    · have : s.first ≤ x.turn := by omega
      simp [late, e, this]
    · simp [late, e]
  · by_cases e : f ≤ x.turn
    · have : s.first ≤ x.turn := by omega
      simp [e, this]
    · simp [e]
theorem Sim.row : ∀ (k : Nat) (s : IntSt) (r : RfSt) (x : It) {a : Nat}, a < 6 → s.cnt = k → Sim s r → x.level = (a : Int) → x.n = s.have_ a + 1 →
    (rowF k s x).2 = x :: (rowR k (rfCame r a x) a).2 ∧ Sim (rowF k s x).1 (rowR k (rfCame r a x) a).1 := by
  intro k
  induction k with
  | zero =>
    intro s r x a ha hk h hx hn
    refine ⟨rfl, ?_⟩
    have h0 : r.held = [] := List.eq_nil_of_length_eq_zero (by rw [← h.cnt, hk])
    refine (h.comes ha hx).lets_none ?_
    rw [comesSt_held, h.held, h0]; rfl
  | succ k ih =>
    intro s r x a ha hk h hx hn
    have hc := h.comes ha hx
    have hlen : (((rfCame r a x).came a).length : Int) + 1 = x.n + 1 := by
      rw [hn, h.hav a ha, rfCame_came, if_pos rfl]; simp
    have hov : (comesSt s x).over a = (overL ((rfCame r a x).came a) : Int) := hc.ovr a ha
    have hl : x.level.toNat = a := by rw [hx]; rfl
    unfold rowF rowR
    rw [hlen, hx]
    show _ ∧ _
    cases hf : r.held.findIdx? (hKey (a : Int) (x.n + 1)) with
    | none =>
      have e1 : s.held ((a : Int), x.n + 1) = none := by rw [h.held, find_ix_none hf]
      have e2 : (rfCame r a x).held.findIdx? (hKey (a : Int) (x.n + 1)) = none := hf
      simp only [e1, e2]
      exact ⟨trivial, hc.lets_none (by rw [comesSt_held]; exact e1)⟩
    | some i =>
      obtain ⟨hi, h1, h2⟩ := find_ix_some hf
      obtain ⟨y, hy⟩ : ∃ y, y = r.held[i] := ⟨_, rfl⟩
      rw [← hy] at h1 h2
      have e1 : s.held ((a : Int), x.n + 1) = some y := by rw [h.held, h1]
      have e2 : (rfCame r a x).held.findIdx? (hKey (a : Int) (x.n + 1)) = some i := hf
      have e3 : (rfCame r a x).held[i]? = some y := by rw [hy]; exact List.getElem?_eq_getElem hi
      obtain ⟨f1, f2⟩ := hKey_iff.1 h2
      have hS : Sim (letsSt (comesSt s x) ((a : Int), x.n + 1)) (rfPull (rfCame r a x) i) := hc.lets_some e2
      have hcn : (letsSt (comesSt s x) ((a : Int), x.n + 1)).cnt = k := by
        rw [letsSt_cnt (y := y) (by rw [comesSt_held]; exact e1), comesSt_cnt, hk]; rfl
      have hhv : y.n = (letsSt (comesSt s x) ((a : Int), x.n + 1)).have_ a + 1 := by
        show y.n = (comesSt s x).have_ a + 1
        rw [f2, comesSt_have, hl, if_pos rfl, ← hn]
      have hi2 := ih _ _ y ha hcn hS f1 hhv
      simp only [e1, e2, e3, Int.toNat_natCast, hov]
      split
      · exact ⟨by rw [hi2.1], hi2.2⟩
      · exact ⟨rfl, hS⟩
theorem hIx_find {l : List It} {lv n : Int} : 0 ≤ hIx l lv n ↔ (l.find? (hKey lv n)).isSome = true := by
  cases hf : l.findIdx? (hKey lv n) with
  | none =>
    rw [find_ix_none hf]
    unfold hIx
    rw [hf]
    simp
  | some i =>
    obtain ⟨_, h1, _⟩ := find_ix_some hf
    rw [h1]
    unfold hIx
    rw [hf]
    simp
theorem Sim.put (h : Sim s r) (ms : Mat) (lev : Int) (x : It) : putN ms lev s x = putRN ms lev r x ∧ (putSt ms lev s x).2 = (putRSt ms lev r x).2 ∧ Sim (putSt ms lev s x).1 (putRSt ms lev r x).1 := by
  unfold putN putRN putSt putRSt
  by_cases hx : x.is = true
  · simp only [if_pos hx]
    have hb := (It.is_nums hx).1.1
    obtain ⟨a, ha⟩ := Int.eq_ofNat_of_zero_le hb.1
    have ha6 : a < 6 := by omega
    have hl : x.level.toNat = a := by rw [ha]; rfl
    have hhv : rfHave r x.level = s.have_ a := by rw [h.hav a ha6]; unfold rfHave; rw [if_pos hb, hl]
    have hov : rfOver r x.level = s.over a := by rw [h.ovr a ha6]; unfold rfOver; rw [if_pos hb, hl]
    rw [hl, hhv, hov]
    by_cases hab : labove ms lev x.level = true
    · simp only [if_pos hab]
      have hiff : (0 ≤ hIx r.held x.level x.n) = ((s.held (x.level, x.n)).isSome = true) := by rw [h.held]; exact propext hIx_find
      simp only [hiff]
      by_cases h1 : x.n ≤ s.have_ a ∨ (s.held (x.level, x.n)).isSome = true
      · simp only [if_pos h1]
        exact ⟨trivial, trivial, h⟩
      · simp only [if_neg h1]
        by_cases h2 : s.have_ a + 1 < x.n
        · simp only [if_pos h2]
          have hno : s.held (x.level, x.n) = none := by
            cases hq : s.held (x.level, x.n) with
            | none => rfl
            | some y => rw [hq] at h1; simp at h1
          rw [holdsN, ← h.cnt]
          by_cases h3 : s.cnt < 40
          · simp only [if_pos h3]
            exact ⟨trivial, trivial, h.holds hno h3⟩
          · simp only [if_neg h3]
            refine ⟨trivial, trivial, ?_⟩
            unfold holdsSt
            rw [if_neg h3]
            exact h
        · simp only [if_neg h2]
          by_cases h4 : x.turn = s.over a
          · simp only [if_pos h4]
            obtain ⟨q1, q2⟩ := Sim.row s.cnt s r x ha6 rfl h ha (by omega)
            rw [← h.cnt]
            exact ⟨trivial, q1, q2⟩
          · simp only [if_neg h4]
            exact ⟨trivial, trivial, h⟩
    · simp only [if_neg hab]
      exact ⟨trivial, trivial, h⟩
  · simp only [if_neg hx]
    exact ⟨trivial, trivial, h⟩
theorem Sim.have_ (h : Sim s r) (l : Int) : lv6 s.have_ l = rfHave r l := by
  unfold lv6 rfHave
  split
  · exact h.hav _ (by omega)
  · rfl
theorem Sim.over_ (h : Sim s r) (l : Int) : lv6 s.over l = rfOver r l := by
  unfold lv6 rfOver
  split
  · exact h.ovr _ (by omega)
  · rfl
theorem Sim.ready (h : Sim s r) (ms : Mat) (lev t : Int) : rdy ms s.over lev t = rdR ms r lev t := by
  unfold rdy rdR
  rw [Bool.eq_iff_iff, List.all_eq_true, List.all_eq_true]
  refine forall_congr' fun b => forall_congr' fun hb => ?_
  obtain ⟨i, hi, rfl⟩ := List.getElem_of_mem hb
  have h6 := below_six hi
  rw [h.ovr _ h6]
  unfold rfOver
  rw [if_pos (by omega)]; rfl
theorem Sim.of (h : Sim s r) (ms : Mat) (t : Int) : ofL ms s.came s.first t = ofR ms r t := by
  unfold ofL ofR
  rw [← h.first]
  by_cases hf : s.first ≤ t
  · rw [if_pos hf]
    have hlv : ∀ a ∈ lorder ms, a < 6 := fun a ha => by
      have := (order_taken ms).1.2 _ ha
      have := levels_le ms
      omega
    refine flatMap_ext9 fun a ha => ?_
    have h0 := congrArg (List.filter fun x : It => decide (x.turn = t)) (h.came a (hlv a ha))
    rw [List.filter_filter, List.filter_filter] at h0
    refine Eq.trans (List.filter_congr fun x _ => ?_) (h0.trans (List.filter_congr fun x _ => ?_))
    · unfold ofP
      by_cases e : x.turn = t
      · simp [e, hf]
      · simp [e]
    · unfold ofRp
      by_cases e : x.turn = t
      · simp [e, hf]
      · simp [e]
  · rw [if_neg hf, List.flatMap_eq_nil_iff]
    intro a _
    rw [List.filter_eq_nil_iff]
    intro x _
    simp [ofP, hf]
end
end Go.Proofs.Ytdknkbpgkkakhaa
