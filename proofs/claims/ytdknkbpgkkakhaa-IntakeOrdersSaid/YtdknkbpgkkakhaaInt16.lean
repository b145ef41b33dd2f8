/- Layer 20: the walk of IntakeHeld. -/
import Derived.Test.YtdknkbpgkkakhaaInt14
namespace Go.Proofs.Ytdknkbpgkkakhaa
open Go.RowKit Go.Maps

/-- Items of the lowest level are held, none has come. -/
structure HeldInv (i : Nat) (s : IntSt) : Prop where
  hav : ∀ a, s.have_ a = 0
  ovr : ∀ a, s.over a = 0
  came : s.came = []
  first : s.first = 0
  cnt : s.cnt = min i 40
  held : ∀ n : Int, s.held (0, n) = if 2 ≤ n ∧ n < 2 + (min i 40 : Nat) then some (itIt 0 n 0 false) else none
theorem HeldInv.new : HeldInv 0 IntSt.new := ⟨fun _ => rfl, fun _ => rfl, rfl, rfl, rfl, fun n => by rw [if_neg (by omega)]; rfl⟩
theorem batchKv : batchIs [kvWr] = true ∧ shortKeys [kvWr] = true := by decide +kernel
theorem itIt_is {l n t : Int} {sh : Bool} (hl : 0 ≤ l ∧ l < 6) (hn : 1 ≤ n ∧ n ≤ 1000000) (ht : 0 ≤ t ∧ t ≤ 1000000) : (itIt l n t sh).is = true := by
  have h1 : betw l 0 5 = true := by simp [betw]; omega
  have h2 : betw n 1 1000000 = true := by simp [betw]; omega
  have h3 : betw t 0 1000000 = true := by simp [betw]; omega
  unfold It.is
  show (betw l 0 5 && betw n 1 1000000 && betw t 0 1000000 && (if sh = true then (if sh = true then [] else [kvWr] : List Wr).isEmpty else !(if sh = true then [] else [kvWr] : List Wr).isEmpty && (shortKeys (if sh = true then [] else [kvWr]) && batchIs (if sh = true then [] else [kvWr])))) = true
  rw [h1, h2, h3]
  cases sh
  · simp [batchKv.1, batchKv.2]
  · simp
theorem put_it {ms : Mat} {lev l n t : Int} {sh : Bool} {s : IntSt} {a : Nat} (his : (itIt l n t sh).is = true) (hab : labove ms lev l = true) (ha : l = (a : Int)) :
    putN ms lev s (itIt l n t sh) = (if n ≤ s.have_ a ∨ (s.held (l, n)).isSome = true then 0 else if s.have_ a + 1 < n then holdsN s else if t = s.over a then 0 else 22) ∧
      putSt ms lev s (itIt l n t sh) = (if n ≤ s.have_ a ∨ (s.held (l, n)).isSome = true then (s, []) else if s.have_ a + 1 < n then (holdsSt s (itIt l n t sh), []) else if t = s.over a then rowF s.cnt s (itIt l n t sh) else (s, [])) := by
  subst ha
  unfold putN putSt
  rw [if_pos his, show (itIt (a : Int) n t sh).level = (a : Int) from rfl, if_pos hab, if_pos his, if_pos hab]
  exact ⟨rfl, rfl⟩
theorem letsSt_have (s : IntSt) (k : Int × Int) : (letsSt s k).have_ = s.have_ := rfl
theorem letsSt_over (s : IntSt) (k : Int × Int) : (letsSt s k).over = s.over := rfl
theorem letsSt_first (s : IntSt) (k : Int × Int) : (letsSt s k).first = s.first := rfl
theorem letsSt_held (s : IntSt) (k j : Int × Int) : (letsSt s k).held j = if j = k then none else s.held j := rfl
theorem comesSt_first (s : IntSt) (x : It) : (comesSt s x).first = s.first := by unfold comesSt comesHave comesOver; split <;> rfl
theorem chain2_above : labove (lchain 2) 1 0 = true := by decide +kernel
theorem HeldInv.step {i : Nat} {s : IntSt} (h : HeldInv i s) (hi : i ≤ 50) :
    putN (lchain 2) 1 s (itIt 0 ((i : Int) + 2) 0 false) = (if i < 40 then 0 else 25) ∧ HeldInv (i + 1) (putSt (lchain 2) 1 s (itIt 0 ((i : Int) + 2) 0 false)).1 := by
  have his := itIt_is (l := 0) (n := (i : Int) + 2) (t := 0) (sh := false) (by decide) (by omega) (by decide)
  have hno : ¬ ((i : Int) + 2 ≤ s.have_ 0 ∨ (s.held (0, (i : Int) + 2)).isSome = true) := by
    rw [h.hav, h.held, if_neg (by omega)]
    simp; omega
  have hgt : s.have_ 0 + 1 < (i : Int) + 2 := by rw [h.hav]; omega
  have e1 : putN (lchain 2) 1 s (itIt 0 ((i : Int) + 2) 0 false) = holdsN s := by
    rw [(put_it (a := 0) his chain2_above rfl).1, if_neg hno, if_pos hgt]
  have e2 : putSt (lchain 2) 1 s (itIt 0 ((i : Int) + 2) 0 false) = (holdsSt s (itIt 0 ((i : Int) + 2) 0 false), []) := by
    rw [(put_it (a := 0) his chain2_above rfl).2, if_neg hno, if_pos hgt]
  rw [e1, e2]
  unfold holdsN holdsSt
  rw [h.cnt]
  by_cases hc : i < 40
  · rw [if_pos (by omega), if_pos hc, if_pos (by omega)]
    refine ⟨rfl, h.hav, h.ovr, h.came, h.first, by show min i 40 + 1 = _; omega, fun n => ?_⟩
    show (if ((0 : Int), n) = (0, (i : Int) + 2) then some (itIt 0 ((i : Int) + 2) 0 false) else s.held (0, n)) = _
    by_cases hn : n = (i : Int) + 2
    · subst hn
      rw [if_pos rfl, if_pos (by omega)]
    · rw [if_neg (by simp; exact hn), h.held]
      by_cases h2 : 2 ≤ n ∧ n < 2 + (min i 40 : Nat)
      · rw [if_pos h2, if_pos (by omega)]
      · rw [if_neg h2, if_neg (by omega)]
  · rw [if_neg (by omega), if_neg hc, if_neg (by omega)]
    refine ⟨rfl, h.hav, h.ovr, h.came, h.first, by rw [h.cnt]; omega, fun n => ?_⟩
    rw [h.held]
    have : min (i + 1) 40 = min i 40 := by omega
    rw [this]
theorem rowF_all (c : Nat) : ∀ (s : IntSt) (h : Int), s.have_ 0 = h → s.over 0 = 0 → (∀ n, s.held (0, n) = if h + 2 ≤ n ∧ n < h + 2 + c then some (itIt 0 n 0 false) else none) → s.cnt = c →
    (rowF c s (itIt 0 (h + 1) 0 false)).2.length = c + 1 ∧ (rowF c s (itIt 0 (h + 1) 0 false)).1.have_ 0 = h + c + 1 ∧ (rowF c s (itIt 0 (h + 1) 0 false)).1.cnt = 0 ∧ (rowF c s (itIt 0 (h + 1) 0 false)).1.first = s.first ∧
      (rowF c s (itIt 0 (h + 1) 0 false)).1.came.length = s.came.length + c + 1 ∧ ∀ x ∈ (rowF c s (itIt 0 (h + 1) 0 false)).1.came, x ∈ s.came ∨ x.turn = 0 ∧ x.level = 0 := by
  have hx : ∀ h : Int, (itIt 0 (h + 1) 0 false).level = 0 ∧ (itIt 0 (h + 1) 0 false).n = h + 1 ∧ (itIt 0 (h + 1) 0 false).shut = false ∧ (itIt 0 (h + 1) 0 false).turn = 0 := fun h => ⟨rfl, rfl, rfl, rfl⟩
  have hcame : ∀ (s : IntSt) (h : Int) (k : Int × Int), (letsSt (comesSt s (itIt 0 (h + 1) 0 false)) k).came = s.came ++ [itIt 0 (h + 1) 0 false] := fun s h k => by
    rw [letsSt_came, comesSt_came, (hx h).2.2.1, if_neg Bool.false_ne_true]
  have hhave : ∀ (s : IntSt) (h : Int) (k : Int × Int), (letsSt (comesSt s (itIt 0 (h + 1) 0 false)) k).have_ 0 = s.have_ 0 + 1 := fun s h k => by
    rw [letsSt_have, comesSt_have]; rfl
  have hover : ∀ (s : IntSt) (h : Int) (k : Int × Int), (letsSt (comesSt s (itIt 0 (h + 1) 0 false)) k).over 0 = s.over 0 := fun s h k => by
    rw [letsSt_over, comesSt_over, (hx h).2.2.1, if_neg (by simp)]
  have hfirst : ∀ (s : IntSt) (h : Int) (k : Int × Int), (letsSt (comesSt s (itIt 0 (h + 1) 0 false)) k).first = s.first := fun s h k => by
    rw [letsSt_first, comesSt_first]
  have hmem : ∀ (s : IntSt) (h : Int), ∀ x ∈ s.came ++ [itIt 0 (h + 1) 0 false], x ∈ s.came ∨ x.turn = 0 ∧ x.level = 0 := fun s h x hm => by
    rcases List.mem_append.1 hm with hm | hm
    · exact .inl hm
    · have e : x = itIt 0 (h + 1) 0 false := by simpa using hm
      subst e
      exact .inr ⟨rfl, rfl⟩
  induction c with
  | zero =>
    intro s h hh ho hheld hc
    have hn : s.held (0, h + 1 + 1) = none := by rw [hheld, if_neg (by omega)]
    have hr : rowF 0 s (itIt 0 (h + 1) 0 false) = (letsSt (comesSt s (itIt 0 (h + 1) 0 false)) (0, h + 1 + 1), [itIt 0 (h + 1) 0 false]) := rfl
    rw [hr]
    refine ⟨rfl, by rw [hhave, hh]; simp, ?_, hfirst _ _ _, by rw [hcame]; simp, ?_⟩
    · show (if ((comesSt s _).held (0, h + 1 + 1)).isSome = true then (comesSt s _).cnt - 1 else (comesSt s _).cnt) = 0
      rw [comesSt_held, hn, comesSt_cnt, hc]; rfl
    · rw [hcame]; exact hmem s h
  | succ c ih =>
    intro s h hh ho hheld hc
    have hn : s.held (0, h + 1 + 1) = some (itIt 0 (h + 1 + 1) 0 false) := by rw [hheld, if_pos (by omega)]
    obtain ⟨s2, hs2⟩ : ∃ s2, s2 = letsSt (comesSt s (itIt 0 (h + 1) 0 false)) (0, h + 1 + 1) := ⟨_, rfl⟩
    have hr : rowF (c + 1) s (itIt 0 (h + 1) 0 false) = ((rowF c s2 (itIt 0 (h + 1 + 1) 0 false)).1, itIt 0 (h + 1) 0 false :: (rowF c s2 (itIt 0 (h + 1 + 1) 0 false)).2) := by
      rw [hs2]
      rw [rowF.eq_2]
      rw [show (itIt 0 (h + 1) 0 false).level = 0 from rfl, show (itIt 0 (h + 1) 0 false).n = h + 1 from rfl, hn]
      dsimp only
      rw [if_pos (show (itIt 0 (h + 1 + 1) 0 false).turn = (comesSt s (itIt 0 (h + 1) 0 false)).over (Int.toNat 0) from by rw [comesSt_over, (hx h).2.2.1, if_neg (by simp), show ((0 : Int).toNat) = 0 from rfl, ho]; rfl)]
    have e1 : s2.have_ 0 = h + 1 := by rw [hs2, hhave, hh]
    have e2 : s2.over 0 = 0 := by rw [hs2, hover, ho]
    have e3 : s2.cnt = c := by rw [hs2, letsSt_cnt (y := itIt 0 (h + 1 + 1) 0 false) (by rw [comesSt_held]; exact hn), comesSt_cnt, hc]; rfl
    have e4 : ∀ n, s2.held (0, n) = if h + 1 + 2 ≤ n ∧ n < h + 1 + 2 + c then some (itIt 0 n 0 false) else none := fun n => by
      rw [hs2, letsSt_held, comesSt_held]
      by_cases hnn : n = h + 1 + 1
      · subst hnn
        rw [if_pos rfl, if_neg (by omega)]
      · rw [if_neg (by simp; exact hnn), hheld]
        by_cases h2 : h + 2 ≤ n ∧ n < h + 2 + (c + 1 : Nat)
        · rw [if_pos h2, if_pos (by omega)]
        · rw [if_neg h2, if_neg (by omega)]
    obtain ⟨i1, i2, i3, i4, i5, i6⟩ := ih s2 (h + 1) e1 e2 e4 e3
    have hc2 : s2.came = s.came ++ [itIt 0 (h + 1) 0 false] := by rw [hs2, hcame]
    have hf2 : s2.first = s.first := by rw [hs2, hfirst]
    rw [hr]
    refine ⟨by simp [i1], by rw [i2]; omega, i3, by rw [i4, hf2], by rw [i5, hc2]; simp; omega, fun x hxm => ?_⟩
    rcases i6 x hxm with hm | hm
    · rw [hc2] at hm
      exact hmem s h x hm
    · exact .inr hm
theorem order2 : lorder (lchain 2) = [0, 1] := by decide +kernel
theorem HeldInv.last {i : Nat} {s : IntSt} (h : HeldInv i s) :
    putN (lchain 2) 1 s (itIt 0 1 0 false) = 0 ∧ (putSt (lchain 2) 1 s (itIt 0 1 0 false)).2.length = min i 40 + 1 ∧ (putSt (lchain 2) 1 s (itIt 0 1 0 false)).1.cnt = 0 ∧
      lv6 (putSt (lchain 2) 1 s (itIt 0 1 0 false)).1.have_ 0 = (min i 40 : Nat) + 1 ∧ (ofL (lchain 2) (putSt (lchain 2) 1 s (itIt 0 1 0 false)).1.came (putSt (lchain 2) 1 s (itIt 0 1 0 false)).1.first 0).length = min i 40 + 1 := by
  have his := itIt_is (l := 0) (n := 1) (t := 0) (sh := false) (by decide) (by decide) (by decide)
  have hno : ¬ ((1 : Int) ≤ s.have_ 0 ∨ (s.held (0, (1 : Int))).isSome = true) := by
    rw [h.hav, h.held, if_neg (by omega)]
    simp
  have hgt : ¬ s.have_ 0 + 1 < (1 : Int) := by rw [h.hav]; omega
  have hot : (0 : Int) = s.over 0 := (h.ovr 0).symm
  have e1 : putN (lchain 2) 1 s (itIt 0 1 0 false) = 0 := by
    rw [(put_it (a := 0) his chain2_above rfl).1, if_neg hno, if_neg hgt, if_pos hot]
  have e2 : putSt (lchain 2) 1 s (itIt 0 1 0 false) = rowF s.cnt s (itIt 0 (0 + 1) 0 false) := by
    rw [(put_it (a := 0) his chain2_above rfl).2, if_neg hno, if_neg hgt, if_pos hot]; rfl
  obtain ⟨i1, i2, i3, i4, i5, i6⟩ := rowF_all s.cnt s 0 (h.hav 0) (h.ovr 0) (fun n => by rw [h.held, h.cnt]; simp) rfl
  rw [e2]
  refine ⟨e1, by rw [i1, h.cnt], i3, ?_, ?_⟩
  · unfold lv6
    rw [if_pos (by omega)]
    show (rowF _ _ _).1.have_ 0 = _
    rw [i2, h.cnt]; omega
  · unfold ofL
    rw [order2, i4, h.first]
    have hall : ∀ x ∈ (rowF s.cnt s (itIt 0 (0 + 1) 0 false)).1.came, x.turn = 0 ∧ x.level = 0 := fun x hx => by
      rcases i6 x hx with hm | hm
      · rw [h.came] at hm; cases hm
      · exact hm
    have f0 : (rowF s.cnt s (itIt 0 (0 + 1) 0 false)).1.came.filter (ofP 0 0 0) = (rowF s.cnt s (itIt 0 (0 + 1) 0 false)).1.came := List.filter_eq_self.2 fun x hx => by
      obtain ⟨a1, a2⟩ := hall x hx
      simp [ofP, a1, a2]
    have f1 : (rowF s.cnt s (itIt 0 (0 + 1) 0 false)).1.came.filter (ofP 0 0 1) = [] := List.filter_eq_nil_iff.2 fun x hx => by
      obtain ⟨a1, a2⟩ := hall x hx
      simp [ofP, a2]
    simp only [List.flatMap_cons, List.flatMap_nil, List.append_nil, f0, f1]
    rw [i5, h.came, h.cnt]; simp
set_option maxRecDepth 100000 in
set_option maxHeartbeats 8000000 in
theorem intakeHeld_walk (a : Int) (w : World) (ha : 0 ≤ a ∧ a ≤ 255) :
    Calls Try.prog 19 #[.int .u8 a] w fun e w' => e = .returned (.bool true) ∧ Ext w w' := by
  obtain ⟨ha0, ha1⟩ := ha
  go_enter Try.func19, Try.ntmps19
  go_wp2_with fail
  refine (known20_any w).mono ?_
  rintro e w1 ⟨rfl, x1⟩
  go_wp2_with fail
  refine (refChain_any 2 w1 (by decide) (by decide)).mono ?_
  rintro e w2 ⟨A, c, rs, rfl, hm, hM, x2⟩
  have HM := Lib.hid hm
  have hl : rs.length ≤ 9223372036854775807 := by rw [← mat_length, hm]; decide
  have HL := Lib.hid hl
  clear hm hl
  go_wp2_with fail
  refine (intNew_any A c rs 1 w2 (hM.up x2.size)).mono ?_
  rintro e w3 ⟨m, rfl, h, x3⟩
  have x := ext_trans (ext_trans x1 x2) x3
  have HB := Lib.hid (ext_trans x1 x2).size
  obtain ⟨g0, hg0⟩ : ∃ g0, g0 = m.ga := ⟨_, rfl⟩
  rw [← hg0]
  have hga : Hid (m.ga = g0) := hg0.symm
  clear hg0
  generalize w2.heap.size = B at h HB
  have hinv := IntInv.new
  clear hM x1 x2 x3
  go_upto_region 4 with fail
  go_cut [4] (fun s wc => (∃ K : Nat, (39 ≤ K ∧ K ≤ 41) ∧ s = .int .i64 (K : Int)) ∧ w3 = wc)
  case first =>
    have m1 := Int.emod_nonneg a (b := 3) (by omega)
    have m2 := Int.emod_lt_of_pos a (b := 3) (by omega)
    go_wp2
    go_meet
    exact ⟨⟨(39 + a % 3).toNat, by omega, congrArg (Value.int .i64) (by omega)⟩, rfl⟩
  case rest =>
    obtain ⟨⟨K, ⟨hK1, hK2⟩, rfl⟩, rfl⟩ := hcut
    clear ha0 ha1
    have HA := Lib.hid (And.intro h (And.intro hga.out (And.intro hinv HeldInv.new)))
    have HX := Lib.hid x
    clear h hga hinv x
    go_wp2_with fail
    go_loopw [5] (fun i wr => ∃ (r : Nat) (m : IntMem) (s : IntSt), i = .int .i64 (r : Int) ∧ r ≤ K ∧ Hid (IntAt wr B A c rs 1 m s) ∧ Hid (m.ga = g0) ∧ Hid (IntInv s r) ∧ Hid (HeldInv r s) ∧ Hid (Ext w wr)) (fun i _ => K - (intOf i).toNat)
    case atStart => exact ⟨0, m, IntSt.new, rfl, Nat.zero_le _, HA.out.1, HA.out.2.1, HA.out.2.2.1, HA.out.2.2.2, HX.out⟩
    case round =>
      clear HA HX
      clear m
      obtain ⟨r, m, s, rfl, hr, Hh, hga, Hinv, HI, Hx⟩ := hrel
      have h := Hh.out
      have x := Hx.out
      have hinv := Hinv.out
      clear Hh Hx Hinv
      by_cases hlt : r < K
      · have HS := Lib.hid (HI.out.step (by omega))
        go_wp2_with fail
        refine (it20_any _ 0 ((r : Int) + 2) 0 false).mono ?_
        rintro e wi ⟨Ai, ci, rfl, hok, xi⟩
        replace h := h.ext xi
        replace x := ext_trans x xi
        go_wp2_with fail
        have hp := intPut_any h ⟨itIt 0 ((r : Int) + 2) 0 false, Ai, ci⟩ (hok B) hinv (by omega) HL.out
        rw [hga.out] at hp
        refine hp.mono ?_
        clear hp hok xi
        rintro e wj ⟨v, zs, m', rfl, hown, hits, hzs, h', go⟩
        obtain ⟨Av, cAv, rfl⟩ := hown.form
        rw [HM.out] at hits h'
        rw [HM.out, HS.out.1]
        clear hits
        have hits := True.intro
        have hga' : Hid (m'.ga = g0) := go.ga.trans hga.out
        replace x := x.trans (go.below.mono HB.out)
        replace hinv := hinv.put (lev := 1) (lchain 2) (itIt 0 ((r : Int) + 2) 0 false)
        obtain ⟨sn, hst⟩ : ∃ sn, sn = (putSt (lchain 2) 1 s (itIt 0 ((r : Int) + 2) 0 false)).1 := ⟨_, rfl⟩
        rw [← hst] at h' hinv
        have Hsn := Lib.hid hst
        clear hst
        clear hown hits hzs h go hga
        clear m
        rename IntMem => m
        have h := h'
        have hga := hga'
        clear h' hga'
        have HI2 : Hid (HeldInv (r + 1) sn) := by
          show HeldInv _ _
          rw [Hsn.out]; exact HS.out.2
        clear Hsn HS
        have HF := Lib.hid (And.intro h (And.intro hga.out (And.intro hinv x)))
        clear h hga hinv x HI
        by_cases h40 : r < 40
        · rw [if_pos h40]
          go_wp2_with fail
          go_roundw
          case rel => exact ⟨r + 1, m, sn, by go_num, hlt, HF.out.1, HF.out.2.1, HF.out.2.2.1, HI2, HF.out.2.2.2⟩
          case measure => simp [intOf]; omega
        · rw [if_neg h40]
          go_wp2_with fail
          go_roundw
          case rel => exact ⟨r + 1, m, sn, by go_num, hlt, HF.out.1, HF.out.2.1, HF.out.2.2.1, HI2, HF.out.2.2.2⟩
          case measure => simp [intOf]; omega
      · obtain rfl : r = K := by omega
        have HS := Lib.hid HI.out.last
        obtain ⟨M, hM⟩ : ∃ M, M = min r 40 := ⟨_, rfl⟩
        have hcnt : s.cnt = M := by rw [HI.out.cnt, hM]
        have hhave : lv6 s.have_ 0 = 0 := by
          unfold lv6
          rw [if_pos (by omega)]
          exact HI.out.hav _
        rw [← hM] at HS
        have HM0 := Lib.hid hM
        have hM40 : M ≤ 40 := by omega
        clear hM
        have hcnt' := Lib.hid hcnt
        have hhave' := Lib.hid hhave
        clear hcnt hhave
        go_upto_region 11 with fail
        go_cut [8] (fun t wc => t = .int .i64 (M : Int) ∧ wr = wc)
        case first =>
          have hM := HM0.out
          by_cases h4 : (r : Int) ≤ 40
          · go_wp2
            all_goals
              go_meet
              exact ⟨congrArg (Value.int .i64) (by omega), rfl⟩
          · go_wp2
            all_goals
              go_meet
              exact ⟨congrArg (Value.int .i64) (by omega), rfl⟩
        case rest =>
          obtain ⟨rfl, rfl⟩ := hcut
          go_wp2_with fail
          have hp := intHeld_any h
          rw [hga.out] at hp
          refine hp.mono ?_
          clear hp
          rintro e wk ⟨rfl, rfl⟩
          rw [hcnt'.out]
          go_wp2_with fail
          have hp := intHave_any h 0
          rw [hga.out] at hp
          refine hp.mono ?_
          clear hp
          rintro e wk ⟨rfl, rfl⟩
          rw [hhave'.out]
          go_wp2_with fail
          refine (it20_any _ 0 1 0 false).mono ?_
          rintro e wi ⟨Ai, ci, rfl, hok, xi⟩
          replace h := h.ext xi
          replace x := ext_trans x xi
          go_wp2_with fail
          have hp := intPut_any h ⟨itIt 0 1 0 false, Ai, ci⟩ (hok B) hinv (by omega) HL.out
          rw [hga.out] at hp
          refine hp.mono ?_
          clear hp hok xi
          rintro e wj ⟨v, zs, m', rfl, hown, hits, hzs, h', go⟩
          obtain ⟨Av, cAv, rfl⟩ := hown.form
          rw [HM.out] at hits h'
          rw [HM.out, HS.out.1]
          have hlen : zs.length = M + 1 := by rw [← its_length, hits]; exact HS.out.2.1
          rw [hlen]
          clear hlen
          have hga' : Hid (m'.ga = g0) := go.ga.trans hga.out
          replace x := x.trans (go.below.mono HB.out)
          replace hinv := hinv.put (lev := 1) (lchain 2) (itIt 0 1 0 false)
          obtain ⟨sn, hst⟩ : ∃ sn, sn = (putSt (lchain 2) 1 s (itIt 0 1 0 false)).1 := ⟨_, rfl⟩
          rw [← hst] at h' hinv
          have Hsn := Lib.hid hst
          clear hst
          clear hown hits hzs h go hga
          clear m
          rename IntMem => m
          have h := h'
          have hga := hga'
          clear h' hga'
          have f1 : sn.cnt = 0 := by rw [Hsn.out]; exact HS.out.2.2.1
          have f2 : lv6 sn.have_ 0 = (M : Int) + 1 := by rw [Hsn.out]; exact HS.out.2.2.2.1
          have f3 : (ofL (lchain 2) sn.came sn.first 0).length = M + 1 := by rw [Hsn.out]; exact HS.out.2.2.2.2
          have F1 := Lib.hid f1
          have F2 := Lib.hid f2
          have F3 := Lib.hid f3
          clear f1 f2 f3
          go_wp2_with fail
          have hp := intHeld_any h
          rw [hga.out] at hp
          refine hp.mono ?_
          clear hp
          rintro e wk ⟨rfl, rfl⟩
          rw [F1.out]
          go_wp2_with fail
          have hp := intHave_any h 0
          rw [hga.out] at hp
          refine hp.mono ?_
          clear hp
          rintro e wk ⟨rfl, rfl⟩
          rw [F2.out]
          go_wp2_with fail
          have hp := intOf_all h 0 HL.out
          rw [hga.out] at hp
          refine hp.mono ?_
          clear hp
          rintro e wk ⟨v, zs, rfl, hown, hits, _, xr⟩
          obtain ⟨Av, cv, rfl⟩ := hown.form
          rw [HM.out] at hits
          have hlen : zs.length = M + 1 := by rw [← its_length, hits]; exact F3.out
          rw [hlen]
          replace h := h.ext xr
          replace x := ext_trans x xr
          clear xr hown hlen hits
          go_wp2_with fail
          go_ret
          exact ⟨rfl, x⟩
end Go.Proofs.Ytdknkbpgkkakhaa
