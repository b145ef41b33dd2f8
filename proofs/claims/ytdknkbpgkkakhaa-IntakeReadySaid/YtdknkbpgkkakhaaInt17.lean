/- Layer 20: the walk of IntakeReady. -/
import Derived.Test.YtdknkbpgkkakhaaInt16
namespace Go.Proofs.Ytdknkbpgkkakhaa
open Go.RowKit Go.Maps

/-- So many turns of each level are over, nothing else came. -/
structure ReadyInv (f : Nat → Nat) (s : IntSt) : Prop where
  hav : ∀ a, s.have_ a = f a
  ovr : ∀ a, s.over a = f a
  came : s.came = []
  cnt : s.cnt = 0
  held : ∀ k, s.held k = none
theorem ReadyInv.new {f : Nat → Nat} (hf : ∀ k, f k = 0) : ReadyInv f IntSt.new := ⟨fun a => by rw [hf]; rfl, fun a => by rw [hf]; rfl, rfl, rfl, fun _ => rfl⟩
theorem ReadyInv.to {f f' : Nat → Nat} {s : IntSt} (h : ReadyInv f s) (he : ∀ k, f k = f' k) : ReadyInv f' s := ⟨fun a => by rw [← he]; exact h.hav a, fun a => by rw [← he]; exact h.ovr a, h.came, h.cnt, h.held⟩
theorem chain4_above : ∀ l : Nat, l < 3 → labove (lchain 4) 3 (l : Int) = true := by decide +kernel
theorem chain4_below : lbelow (lchain 4) 3 = [0, 1, 2] := by decide +kernel
theorem ReadyInv.step {f : Nat → Nat} {s : IntSt} (h : ReadyInv f s) {l j : Nat} (hl : l < 3) (hj : f l = j) (hj6 : j < 6) :
    putN (lchain 4) 3 s (itIt l ((j : Int) + 1) j true) = 0 ∧ (putSt (lchain 4) 3 s (itIt l ((j : Int) + 1) j true)).2.length = 1 ∧ ReadyInv (fun k => if k = l then j + 1 else f k) (putSt (lchain 4) 3 s (itIt l ((j : Int) + 1) j true)).1 := by
  have his := itIt_is (l := (l : Int)) (n := (j : Int) + 1) (t := (j : Int)) (sh := true) (by omega) (by omega) (by omega)
  have hab := chain4_above l hl
  have hno : ¬ ((j : Int) + 1 ≤ s.have_ l ∨ (s.held ((l : Int), (j : Int) + 1)).isSome = true) := by
    rw [h.hav, h.held, hj]
    simp; omega
  have hgt : ¬ s.have_ l + 1 < (j : Int) + 1 := by rw [h.hav, hj]; omega
  have hot : (j : Int) = s.over l := by rw [h.ovr, hj]
  rw [(put_it (a := l) his hab rfl).1, (put_it (a := l) his hab rfl).2, if_neg hno, if_neg hgt, if_pos hot, if_neg hno, if_neg hgt, if_pos hot, h.cnt]
  have hr : rowF 0 s (itIt l ((j : Int) + 1) j true) = (letsSt (comesSt s (itIt l ((j : Int) + 1) j true)) ((l : Int), (j : Int) + 1 + 1), [itIt l ((j : Int) + 1) j true]) := rfl
  rw [hr]
  have hsh : (itIt (l : Int) ((j : Int) + 1) j true).shut = true := rfl
  have hlv : (itIt (l : Int) ((j : Int) + 1) j true).level.toNat = l := rfl
  refine ⟨rfl, rfl, ?_⟩
  constructor
  · intro a
    rw [letsSt_have, comesSt_have, hlv, h.hav]
    by_cases e : a = l
    · subst e
      simp [hj]
    · simp [e]
  · intro a
    rw [letsSt_over, comesSt_over, hlv, hsh, h.ovr]
    by_cases e : a = l
    · subst e
      simp [hj]
    · simp [e]
  · rw [letsSt_came, comesSt_came, hsh, if_pos rfl, h.came]
  · show (if ((comesSt s _).held _).isSome = true then (comesSt s _).cnt - 1 else (comesSt s _).cnt) = 0
    rw [comesSt_held, h.held, comesSt_cnt, h.cnt]; rfl
  · intro k
    rw [letsSt_held, comesSt_held, h.held]
    split <;> rfl
theorem ReadyInv.rdy {f : Nat → Nat} {s : IntSt} (h : ReadyInv f s) (t : Int) : rdy (lchain 4) s.over 3 t = (decide (t < (f 0 : Int)) && (decide (t < (f 1 : Int)) && decide (t < (f 2 : Int)))) := by
  unfold Ytdknkbpgkkakhaa.rdy
  rw [chain4_below]
  simp [h.ovr]
theorem ReadyInv.of {f : Nat → Nat} {s : IntSt} (h : ReadyInv f s) (t : Int) : (ofL (lchain 4) s.came s.first t).length = 0 := by
  unfold ofL
  rw [h.came, List.length_eq_zero_iff, List.flatMap_eq_nil_iff]
  intro x _
  rfl
/-- So many turns of the levels before si, j of the level si. -/
def upto (nn : Nat → Nat) (si j : Nat) (k : Nat) : Nat := if k < si then nn k else if k = si then j else 0
set_option maxRecDepth 100000 in
set_option maxHeartbeats 8000000 in
theorem intakeReady_walk (a b c t : Int) (w : World) (ha : 0 ≤ a ∧ a ≤ 255) (hb : 0 ≤ b ∧ b ≤ 255) (hc : 0 ≤ c ∧ c ≤ 255) (ht : 0 ≤ t ∧ t ≤ 255) :
    Calls Try.prog 18 #[.int .u8 a, .int .u8 b, .int .u8 c, .int .u8 t] w fun e w' => e = .returned (.bool true) ∧ Ext w w' := by
  obtain ⟨ha0, ha1⟩ := ha
  obtain ⟨hb0, hb1⟩ := hb
  obtain ⟨hc0, hc1⟩ := hc
  obtain ⟨ht0, ht1⟩ := ht
  obtain ⟨cc, hcc⟩ : ∃ cc, cc = c := ⟨_, rfl⟩
  rw [← hcc] at hc0 hc1 ⊢
  clear hcc c
  go_enter Try.func18, Try.ntmps18
  go_wp2_with fail
  refine (known20_any w).mono ?_
  rintro e w1 ⟨rfl, x1⟩
  go_wp2_with fail
  refine (refChain_any 4 w1 (by decide) (by decide)).mono ?_
  rintro e w2 ⟨A, c, rs, rfl, hm, hM, x2⟩
  have HM := Lib.hid hm
  have hl : rs.length ≤ 9223372036854775807 := by rw [← mat_length, hm]; decide
  have HL := Lib.hid hl
  clear hm hl
  go_wp2_with fail
  refine (intNew_any A c rs 3 w2 (hM.up x2.size)).mono ?_
  rintro e w3 ⟨m, rfl, h, x3⟩
  have x := ext_trans (ext_trans x1 x2) x3
  have HB := Lib.hid (ext_trans x1 x2).size
  obtain ⟨g0, hg0⟩ : ∃ g0, g0 = m.ga := ⟨_, rfl⟩
  rw [← hg0]
  have hga : Hid (m.ga = g0) := hg0.symm
  clear hg0
  generalize w2.heap.size = B at h HB
  have hinv := IntInv.new
  clear hM x1 x2 x3
  go_upto_region 4 with fail
  obtain ⟨nn, h6, hn0, hn1, hn2⟩ : ∃ nn : Nat → Nat, (∀ k, nn k < 6) ∧ a % 6 = (nn 0 : Int) ∧ b % 6 = (nn 1 : Int) ∧ cc % 6 = (nn 2 : Int) := by
    have a1 := Int.emod_nonneg a (b := 6) (by omega)
    have a2 := Int.emod_lt_of_pos a (b := 6) (by omega)
    have b1 := Int.emod_nonneg b (b := 6) (by omega)
    have b2 := Int.emod_lt_of_pos b (b := 6) (by omega)
    have c1 := Int.emod_nonneg cc (b := 6) (by omega)
    have c2 := Int.emod_lt_of_pos cc (b := 6) (by omega)
    refine ⟨fun k => if k = 0 then (a % 6).toNat else if k = 1 then (b % 6).toNat else (cc % 6).toNat, fun k => ?_, by simp; omega, by simp; omega, by simp; omega⟩
    dsimp only
    split
    · omega
    · split <;> omega
  obtain ⟨T, hT⟩ : ∃ T : Nat, t % 7 = (T : Int) := by
    have t1 := Int.emod_nonneg t (b := 7) (by omega)
    exact ⟨(t % 7).toNat, by omega⟩
  go_upto_region 5 with fail
  obtain ⟨V, hV⟩ : ∃ V, V = w3.alloc (.cells #[.int .i64 (nn 0 : Int), .int .i64 (nn 1 : Int), .int .i64 (nn 2 : Int)] 116) := ⟨_, rfl⟩
  have xV : Ext w3 V := by rw [hV]; exact ext_alloc _ _
  have bV : Blk V w3.heap.size 116 #[.int .i64 (nn 0 : Int), .int .i64 (nn 1 : Int), .int .i64 (nn 2 : Int)] := by rw [hV]; exact Blk.new _ _ _
  have hnV : ¬ IntOwn m w3.heap.size := fun e => by have := (h.own_lt e).2; omega
  rw [← hV]
  replace h := h.ext xV
  replace x := ext_trans x xV
  obtain ⟨gn, hgn⟩ : ∃ gn, gn = w3.heap.size := ⟨_, rfl⟩
  rw [← hgn] at bV hnV ⊢
  have HT := Lib.hid hT
  have HT0 := Lib.hid (And.intro ht0 ht1)
  have H6 := Lib.hid h6
  have HNN := Lib.hid (And.intro hn0 (And.intro hn1 hn2))
  clear hV xV hgn hT h6 hn0 hn1 hn2 ha0 ha1 hb0 hb1 hc0 hc1 ht0 ht1
  have HS := Lib.hid (And.intro h (And.intro hga.out (And.intro hinv (And.intro (ReadyInv.new (f := upto nn 0 0) (fun k => by simp [upto])) (And.intro x (And.intro bV hnV))))))
  clear h hga hinv x bV hnV
  go_wp2_with fail
  go_loopw [11] (fun i wr => ∃ (r : Nat) (m : IntMem) (s : IntSt), i = .int .i64 (r : Int) ∧ r ≤ 3 ∧ Hid (IntAt wr B A c rs 3 m s ∧ m.ga = g0 ∧ IntInv s (6 * r) ∧ ReadyInv (upto nn r 0) s ∧ Ext w wr ∧ Blk wr gn 116 #[.int .i64 (nn 0 : Int), .int .i64 (nn 1 : Int), .int .i64 (nn 2 : Int)] ∧ ¬ IntOwn m gn)) (fun i _ => 3 - (intOf i).toNat)
  case atStart => exact ⟨0, m, _, rfl, by omega, HS⟩
  case round =>
    clear HS
    clear m
    obtain ⟨r, m, s, rfl, hr, HS⟩ := hrel
    by_cases hlt : r < 3
    · have hd3 : decide ((r : Int) < 3) = true := by rw [decide_eq_true_eq]; omega
      go_wp2_with fail
      go_loopw [12] (fun i wq => ∃ (j : Nat) (m : IntMem) (s : IntSt), i = .int .i64 (j : Int) ∧ j ≤ nn r ∧ Hid (IntAt wq B A c rs 3 m s ∧ m.ga = g0 ∧ IntInv s (6 * r + j) ∧ ReadyInv (upto nn r j) s ∧ Ext w wq ∧ Blk wq gn 116 #[.int .i64 (nn 0 : Int), .int .i64 (nn 1 : Int), .int .i64 (nn 2 : Int)] ∧ ¬ IntOwn m gn)) (fun i _ => nn r - (intOf i).toNat)
      case atStart => exact ⟨0, m, s, rfl, Nat.zero_le _, HS⟩
      case round =>
        clear HS
        clear m s
        obtain ⟨j, m, s, rfl, hj, HS⟩ := hrel
        obtain ⟨h, hga', hinv, HI, x, bV, hnV⟩ := HS.out
        have hga : Hid (m.ga = g0) := hga'
        have HRI := Lib.hid HI
        have h6r := H6.out r
        have p0 : wr.cell? ⟨gn, r, none⟩ = some (.int .i64 (nn r : Int)) := by
          rw [bV.cell]
          obtain rfl | rfl | rfl : r = 0 ∨ r = 1 ∨ r = 2 := by omega
          all_goals rfl
        clear hga' HI HS
        by_cases hlj : j < nn r
        · have HS2 := Lib.hid (HRI.out.step (l := r) (j := j) hlt (by simp [upto]) (by omega))
          go_wp2_with fail
          refine (it20_any _ (r : Int) ((j : Int) + 1) (j : Int) true).mono ?_
          rintro e wi ⟨Ai, ci, rfl, hok, xi⟩
          replace h := h.ext xi
          replace x := ext_trans x xi
          replace bV := bV.ext xi
          go_wp2_with fail
          have hp := intPut_any h ⟨itIt (r : Int) ((j : Int) + 1) (j : Int) true, Ai, ci⟩ (hok B) hinv (by omega) HL.out
          rw [hga.out] at hp
          refine hp.mono ?_
          clear hp hok xi
          rintro e wj ⟨v, zs, m', rfl, hown, hits, hzs, h', go⟩
          obtain ⟨Av, cAv, rfl⟩ := hown.form
          rw [HM.out] at hits h'
          rw [HM.out, HS2.out.1]
          have hlen : zs.length = 1 := by rw [← its_length, hits]; exact HS2.out.2.1
          rw [hlen]
          clear hlen
          obtain ⟨hnV', hgV⟩ := go.free bV.lt hnV
          replace bV : Blk wj gn 116 #[.int .i64 (nn 0 : Int), .int .i64 (nn 1 : Int), .int .i64 (nn 2 : Int)] := hgV.trans bV
          clear hnV hgV
          have hga' : Hid (m'.ga = g0) := go.ga.trans hga.out
          replace x := x.trans (go.below.mono HB.out)
          replace hinv := hinv.put (lev := 3) (lchain 4) (itIt (r : Int) ((j : Int) + 1) (j : Int) true)
          obtain ⟨sn, hst⟩ : ∃ sn, sn = (putSt (lchain 4) 3 s (itIt (r : Int) ((j : Int) + 1) (j : Int) true)).1 := ⟨_, rfl⟩
          rw [← hst] at h' hinv
          have Hsn := Lib.hid hst
          clear hst
          clear hown hits hzs h go hga
          clear m
          rename IntMem => m
          have h := h'
          have hga := hga'
          clear h' hga'
          have HF := Lib.hid (And.intro h (And.intro hga.out (And.intro hinv (And.intro (show ReadyInv (upto nn r (j + 1)) sn by
            rw [Hsn.out]
            exact HS2.out.2.2.to (fun k => by
              unfold upto
              by_cases e : k = r
              · subst e
                simp
              · simp [e])) (And.intro x (And.intro bV hnV'))))))
          clear h hga hinv x bV hnV' Hsn HS2 p0 HRI
          go_wp2_with fail
          go_roundw
          case rel => exact ⟨j + 1, m, sn, by go_num, hlj, HF⟩
          case measure => simp [intOf]; omega
        · obtain rfl : j = nn r := by omega
          have HF := Lib.hid (And.intro h (And.intro hga.out (And.intro (hinv.mono (show 6 * r + nn r ≤ 6 * (r + 1) by omega)) (And.intro (show ReadyInv (upto nn (r + 1) 0) s from HRI.out.to (fun k => by
              unfold upto
              by_cases e : k < r
              · rw [if_pos e, if_pos (by omega)]
              · by_cases e2 : k = r
                · subst e2
                  simp
                · rw [if_neg e, if_neg e2, if_neg (by omega)]
                  split <;> rfl)) (And.intro x (And.intro bV hnV))))))
          clear h hga hinv x bV hnV HRI
          go_wp2_with fail
          go_roundw
          case rel => exact ⟨r + 1, m, s, by go_num, hlt, HF⟩
          case measure => simp [intOf]; omega
    · obtain rfl : r = 3 := by omega
      obtain ⟨h, hga', hinv, HI, x, bV, hnV⟩ := HS.out
      have hga : Hid (m.ga = g0) := hga'
      have HRI := Lib.hid HI
      have hT := HT.out
      obtain ⟨ht0, ht1⟩ := HT0.out
      clear hga' HI HS hinv hnV
      go_upto_region 15 with fail
      have f0 := bV.cell 0
      have f1 := bV.cell 1
      have f2 := bV.cell 2
      simp only [List.getElem?_toArray, List.getElem?_cons_zero, List.getElem?_cons_succ] at f0 f1 f2
      have y0 := fun x' (hx : Ext wr x') => ext_cell hx f0
      have y1 := fun x' (hx : Ext wr x') => ext_cell hx f1
      have y2 := fun x' (hx : Ext wr x') => ext_cell hx f2
      obtain ⟨M, hM⟩ : ∃ M : Int, (if (nn 2 : Int) < (if nn 1 < nn 0 then (nn 1 : Int) else (nn 0 : Int)) then (nn 2 : Int) else (if nn 1 < nn 0 then (nn 1 : Int) else (nn 0 : Int))) = M := ⟨_, rfl⟩
      obtain ⟨d, hd⟩ : ∃ d, decide ((T : Int) < M) = d := ⟨_, rfl⟩
      have hrd : Hid (rdy (lchain 4) s.over 3 (T : Int) = d) := by
        show _ = _
        rw [HRI.out.rdy, ← hd, Bool.eq_iff_iff]
        simp only [Bool.and_eq_true, decide_eq_true_eq, upto]
        rw [← hM]
        simp
        split <;> split <;> omega
      have ho0 : Hid (lv6 s.over 0 = (nn 0 : Int)) := by
        show _ = _
        unfold lv6
        rw [if_pos (by omega), HRI.out.ovr]; rfl
      have ho2 : Hid (lv6 s.over 2 = (nn 2 : Int)) := by
        show _ = _
        unfold lv6
        rw [if_pos (by omega), HRI.out.ovr]; rfl
      have hh1 : Hid (lv6 s.have_ 1 = (nn 1 : Int)) := by
        show _ = _
        unfold lv6
        rw [if_pos (by omega), HRI.out.hav]; rfl
      have HOF := Lib.hid (HRI.out.of (T : Int))
      clear f0 f1 f2 bV HRI hT
      refine wp_region_planH3 (.reads 0 (.reads 1 (.reads 3 (.reads 4 (.reads 5 (.reads 6 (.reads 7 (.reads 8 (.reads 9 (.reads 10 (.reads 11 (.makes 2 (.reads 12 (.reads 13 (.reads 14 (.reads 16 (.reads 17 (.makes 15 (.reads 18 (.reads 19 (.reads 20 (.reads 21 (.reads 23 (.reads 24 (.makes 22 (.reads 25 (.reads 26 (.reads 27 (.reads 28 (.reads 30 (.reads 31 (.makes 29 (.reads 32 (.reads 33 (.reads 34 (.reads 35 (.reads 36 (.makes 37 (.reads 38 (.reads 39 (.reads 40 (.reads 41 (.done))))))))))))))))))))))))))))))))))))))))))) (by kernel_rfl) (by kernel_rfl) (fun x' => Ext wr x') (ext_drewN wr 1) (fun ops HOPS => ?_)
      (refine segH_pure _ _ _ _ _ _ (hid_get HOPS 0 _ rfl) rfl wanted_none (fun _ _ _ _ h => h) ?_; intro K hK; go_big_quiet_op; go_big_quiet_on)
      (refine segH_pure _ _ _ _ _ _ (hid_get HOPS 1 _ rfl) rfl wanted_none (fun _ _ _ _ h => h) ?_; intro K hK; go_big_quiet_op; go_big_quiet_on)
      (refine segH_pure _ _ _ _ _ _ (hid_get HOPS 3 _ rfl) rfl wanted_none (fun _ _ _ _ h => h) ?_; intro K hK; go_big_quiet_op; go_big_quiet_on)
      (refine segH_load _ _ _ _ _ _ _ _ _ (hid_get HOPS 4 _ rfl) wanted_none rfl (fun _ _ _ _ h => h) (fun y hy => by go_simp; try with_reducible rfl) ?_; simp only [Act.put, List.setIfInBounds_toArray, List.set_cons_zero, List.set_cons_succ])
      (refine segH_pure _ _ _ _ _ _ (hid_get HOPS 5 _ rfl) rfl wanted_none (fun _ _ _ _ h => h) ?_; intro K hK; go_big_quiet_op; go_big_quiet_on)
      (refine segH_load _ _ _ _ _ _ _ _ _ (hid_get HOPS 6 _ rfl) wanted_none rfl (fun _ _ _ _ h => h) (fun y hy => by go_simp; try with_reducible rfl) ?_; simp only [Act.put, List.setIfInBounds_toArray, List.set_cons_zero, List.set_cons_succ])
      (refine segH_pure _ _ _ _ _ _ (hid_get HOPS 7 _ rfl) rfl wanted_none (fun _ _ _ _ h => h) ?_; intro K hK; go_big_quiet_op; go_big_quiet_on)
      (refine segH_load _ _ _ _ _ _ _ _ _ (hid_get HOPS 8 _ rfl) wanted_none rfl (fun _ _ _ _ h => h) (fun y hy => by go_simp; try with_reducible rfl) ?_; simp only [Act.put, List.setIfInBounds_toArray, List.set_cons_zero, List.set_cons_succ])
      (refine segH_pure _ _ _ _ _ _ (hid_get HOPS 9 _ rfl) rfl wanted_none (fun _ _ _ _ h => h) ?_; intro K hK; go_big_quiet_op; go_big_quiet_on)
      (refine segH_pure _ _ _ _ _ _ (hid_get HOPS 10 _ rfl) rfl wanted_none (fun _ _ _ _ h => h) ?_; intro K hK; go_big_quiet_op; go_big_quiet_on)
      (refine segH_pure _ _ _ _ _ _ (hid_get HOPS 11 _ rfl) rfl wanted_none (fun _ _ _ _ h => h) ?_; intro K hK; go_big_quiet_op; go_big_quiet_on)
      refine segH_makes _ _ _ _ _ _ (hid_get HOPS 2 _ rfl) wanted_none (fun K hK => ?_)
      go_big_op
      have hp := intReady_any (h.ext (ext_drewN wr 1)) (T : Int) HL.out
      rw [hga.out] at hp
      refine hp.mono ?_
      clear hp
      rintro e wk ⟨rfl, xr⟩
      have xk : Ext wr wk := ext_trans (ext_drewN wr 1) xr
      rw [HM.out, hrd.out]
      refine hK _ _ (fun x' => Ext wr x') xk (fun _ h => h) ?_
      clear hK xr
      (refine segH_pure _ _ _ _ _ _ (hid_get HOPS 12 _ rfl) rfl wanted_none (fun _ _ _ _ h => h) ?_; intro K hK; go_big_quiet_op; go_big_quiet_on)
      (refine segH_pure _ _ _ _ _ _ (hid_get HOPS 13 _ rfl) rfl wanted_none (fun _ _ _ _ h => h) ?_; intro K hK; go_big_quiet_op; go_big_quiet_on)
      first | (refine segH_pass _ _ _ _ _ _ (hid_get HOPS 14 _ rfl) (wanted_some (hid_get HOPS 13 _ rfl) rfl rfl rfl) (fun _ _ _ _ h => h) ?_; simp only [Act.put, List.setIfInBounds_toArray, List.set_cons_zero, List.set_cons_succ]) | (refine segH_pure _ _ _ _ _ _ (hid_get HOPS 14 _ rfl) rfl (wanted_some (hid_get HOPS 13 _ rfl) rfl rfl rfl) (fun _ _ _ _ h => h) ?_; intro K hK; go_big_quiet_op; go_big_quiet_on) | (refine segH_pass _ _ _ _ _ _ (hid_get HOPS 14 _ rfl) (wanted_gone (hid_get HOPS 13 _ rfl) rfl rfl) (fun _ _ _ _ h => h) ?_; simp only [Act.put, List.setIfInBounds_toArray, List.set_cons_zero, List.set_cons_succ])
      first | (refine segH_pass _ _ _ _ _ _ (hid_get HOPS 16 _ rfl) (wanted_some (hid_get HOPS 13 _ rfl) rfl rfl rfl) (fun _ _ _ _ h => h) ?_; simp only [Act.put, List.setIfInBounds_toArray, List.set_cons_zero, List.set_cons_succ]) | (refine segH_pure _ _ _ _ _ _ (hid_get HOPS 16 _ rfl) rfl (wanted_some (hid_get HOPS 13 _ rfl) rfl rfl rfl) (fun _ _ _ _ h => h) ?_; intro K hK; go_big_quiet_op; go_big_quiet_on) | (refine segH_pass _ _ _ _ _ _ (hid_get HOPS 16 _ rfl) (wanted_gone (hid_get HOPS 13 _ rfl) rfl rfl) (fun _ _ _ _ h => h) ?_; simp only [Act.put, List.setIfInBounds_toArray, List.set_cons_zero, List.set_cons_succ])
      first | (refine segH_pass _ _ _ _ _ _ (hid_get HOPS 17 _ rfl) (wanted_some (hid_get HOPS 13 _ rfl) rfl rfl rfl) (fun _ _ _ _ h => h) ?_; simp only [Act.put, List.setIfInBounds_toArray, List.set_cons_zero, List.set_cons_succ]) | (refine segH_load _ _ _ _ _ _ _ _ _ (hid_get HOPS 17 _ rfl) (wanted_some (hid_get HOPS 13 _ rfl) rfl rfl rfl) rfl (fun _ _ _ _ h => h) (fun y hy => by go_simp; try with_reducible rfl) ?_; simp only [Act.put, List.setIfInBounds_toArray, List.set_cons_zero, List.set_cons_succ]) | (refine segH_pass _ _ _ _ _ _ (hid_get HOPS 17 _ rfl) (wanted_gone (hid_get HOPS 13 _ rfl) rfl rfl) (fun _ _ _ _ h => h) ?_; simp only [Act.put, List.setIfInBounds_toArray, List.set_cons_zero, List.set_cons_succ])
      refine segH_makes _ _ _ _ _ _ (hid_get HOPS 15 _ rfl) (wanted_some (hid_get HOPS 13 _ rfl) rfl rfl rfl) (fun K hK => ?_)
      go_big_op
      have hp := intOver_any (h.ext xk) 0
      rw [hga.out] at hp
      refine hp.mono ?_
      clear hp
      rintro e wl ⟨rfl, rfl⟩
      rw [ho0.out]
      refine hK _ _ (fun x' => Ext wr x') xk (fun _ h => h) ?_
      clear hK
      first | (refine segH_pass _ _ _ _ _ _ (hid_get HOPS 18 _ rfl) (wanted_some (hid_get HOPS 13 _ rfl) rfl rfl rfl) (fun _ _ _ _ h => h) ?_; simp only [Act.put, List.setIfInBounds_toArray, List.set_cons_zero, List.set_cons_succ]) | (refine segH_pure _ _ _ _ _ _ (hid_get HOPS 18 _ rfl) rfl (wanted_some (hid_get HOPS 13 _ rfl) rfl rfl rfl) (fun _ _ _ _ h => h) ?_; intro K hK; go_big_quiet_op; go_big_quiet_on) | (refine segH_pass _ _ _ _ _ _ (hid_get HOPS 18 _ rfl) (wanted_gone (hid_get HOPS 13 _ rfl) rfl rfl) (fun _ _ _ _ h => h) ?_; simp only [Act.put, List.setIfInBounds_toArray, List.set_cons_zero, List.set_cons_succ])
      (refine segH_pure _ _ _ _ _ _ (hid_get HOPS 19 _ rfl) rfl wanted_none (fun _ _ _ _ h => h) ?_; intro K hK; go_big_quiet_op; go_big_quiet_on)
      (refine segH_pure _ _ _ _ _ _ (hid_get HOPS 20 _ rfl) rfl wanted_none (fun _ _ _ _ h => h) ?_; intro K hK; go_big_quiet_op; go_big_quiet_on)
      first | (refine segH_pass _ _ _ _ _ _ (hid_get HOPS 21 _ rfl) (wanted_some (hid_get HOPS 20 _ rfl) rfl rfl rfl) (fun _ _ _ _ h => h) ?_; simp only [Act.put, List.setIfInBounds_toArray, List.set_cons_zero, List.set_cons_succ]) | (refine segH_pure _ _ _ _ _ _ (hid_get HOPS 21 _ rfl) rfl (wanted_some (hid_get HOPS 20 _ rfl) rfl rfl rfl) (fun _ _ _ _ h => h) ?_; intro K hK; go_big_quiet_op; go_big_quiet_on) | (refine segH_pass _ _ _ _ _ _ (hid_get HOPS 21 _ rfl) (wanted_gone (hid_get HOPS 20 _ rfl) rfl rfl) (fun _ _ _ _ h => h) ?_; simp only [Act.put, List.setIfInBounds_toArray, List.set_cons_zero, List.set_cons_succ])
      first | (refine segH_pass _ _ _ _ _ _ (hid_get HOPS 23 _ rfl) (wanted_some (hid_get HOPS 20 _ rfl) rfl rfl rfl) (fun _ _ _ _ h => h) ?_; simp only [Act.put, List.setIfInBounds_toArray, List.set_cons_zero, List.set_cons_succ]) | (refine segH_pure _ _ _ _ _ _ (hid_get HOPS 23 _ rfl) rfl (wanted_some (hid_get HOPS 20 _ rfl) rfl rfl rfl) (fun _ _ _ _ h => h) ?_; intro K hK; go_big_quiet_op; go_big_quiet_on) | (refine segH_pass _ _ _ _ _ _ (hid_get HOPS 23 _ rfl) (wanted_gone (hid_get HOPS 20 _ rfl) rfl rfl) (fun _ _ _ _ h => h) ?_; simp only [Act.put, List.setIfInBounds_toArray, List.set_cons_zero, List.set_cons_succ])
      first | (refine segH_pass _ _ _ _ _ _ (hid_get HOPS 24 _ rfl) (wanted_some (hid_get HOPS 20 _ rfl) rfl rfl rfl) (fun _ _ _ _ h => h) ?_; simp only [Act.put, List.setIfInBounds_toArray, List.set_cons_zero, List.set_cons_succ]) | (refine segH_load _ _ _ _ _ _ _ _ _ (hid_get HOPS 24 _ rfl) (wanted_some (hid_get HOPS 20 _ rfl) rfl rfl rfl) rfl (fun _ _ _ _ h => h) (fun y hy => by go_simp; try with_reducible rfl) ?_; simp only [Act.put, List.setIfInBounds_toArray, List.set_cons_zero, List.set_cons_succ]) | (refine segH_pass _ _ _ _ _ _ (hid_get HOPS 24 _ rfl) (wanted_gone (hid_get HOPS 20 _ rfl) rfl rfl) (fun _ _ _ _ h => h) ?_; simp only [Act.put, List.setIfInBounds_toArray, List.set_cons_zero, List.set_cons_succ])
      refine segH_makes _ _ _ _ _ _ (hid_get HOPS 22 _ rfl) (wanted_some (hid_get HOPS 20 _ rfl) rfl rfl rfl) (fun K hK => ?_)
      go_big_op
      have hp := intOver_any (h.ext xk) 2
      rw [hga.out] at hp
      refine hp.mono ?_
      clear hp
      rintro e wl ⟨rfl, rfl⟩
      rw [ho2.out]
      refine hK _ _ (fun x' => Ext wr x') xk (fun _ h => h) ?_
      clear hK
      first | (refine segH_pass _ _ _ _ _ _ (hid_get HOPS 25 _ rfl) (wanted_some (hid_get HOPS 20 _ rfl) rfl rfl rfl) (fun _ _ _ _ h => h) ?_; simp only [Act.put, List.setIfInBounds_toArray, List.set_cons_zero, List.set_cons_succ]) | (refine segH_pure _ _ _ _ _ _ (hid_get HOPS 25 _ rfl) rfl (wanted_some (hid_get HOPS 20 _ rfl) rfl rfl rfl) (fun _ _ _ _ h => h) ?_; intro K hK; go_big_quiet_op; go_big_quiet_on) | (refine segH_pass _ _ _ _ _ _ (hid_get HOPS 25 _ rfl) (wanted_gone (hid_get HOPS 20 _ rfl) rfl rfl) (fun _ _ _ _ h => h) ?_; simp only [Act.put, List.setIfInBounds_toArray, List.set_cons_zero, List.set_cons_succ])
      (refine segH_pure _ _ _ _ _ _ (hid_get HOPS 26 _ rfl) rfl wanted_none (fun _ _ _ _ h => h) ?_; intro K hK; go_big_quiet_op; go_big_quiet_on)
      (refine segH_pure _ _ _ _ _ _ (hid_get HOPS 27 _ rfl) rfl wanted_none (fun _ _ _ _ h => h) ?_; intro K hK; go_big_quiet_op; go_big_quiet_on)
      first | (refine segH_pass _ _ _ _ _ _ (hid_get HOPS 28 _ rfl) (wanted_some (hid_get HOPS 27 _ rfl) rfl rfl rfl) (fun _ _ _ _ h => h) ?_; simp only [Act.put, List.setIfInBounds_toArray, List.set_cons_zero, List.set_cons_succ]) | (refine segH_pure _ _ _ _ _ _ (hid_get HOPS 28 _ rfl) rfl (wanted_some (hid_get HOPS 27 _ rfl) rfl rfl rfl) (fun _ _ _ _ h => h) ?_; intro K hK; go_big_quiet_op; go_big_quiet_on) | (refine segH_pass _ _ _ _ _ _ (hid_get HOPS 28 _ rfl) (wanted_gone (hid_get HOPS 27 _ rfl) rfl rfl) (fun _ _ _ _ h => h) ?_; simp only [Act.put, List.setIfInBounds_toArray, List.set_cons_zero, List.set_cons_succ])
      first | (refine segH_pass _ _ _ _ _ _ (hid_get HOPS 30 _ rfl) (wanted_some (hid_get HOPS 27 _ rfl) rfl rfl rfl) (fun _ _ _ _ h => h) ?_; simp only [Act.put, List.setIfInBounds_toArray, List.set_cons_zero, List.set_cons_succ]) | (refine segH_pure _ _ _ _ _ _ (hid_get HOPS 30 _ rfl) rfl (wanted_some (hid_get HOPS 27 _ rfl) rfl rfl rfl) (fun _ _ _ _ h => h) ?_; intro K hK; go_big_quiet_op; go_big_quiet_on) | (refine segH_pass _ _ _ _ _ _ (hid_get HOPS 30 _ rfl) (wanted_gone (hid_get HOPS 27 _ rfl) rfl rfl) (fun _ _ _ _ h => h) ?_; simp only [Act.put, List.setIfInBounds_toArray, List.set_cons_zero, List.set_cons_succ])
      first | (refine segH_pass _ _ _ _ _ _ (hid_get HOPS 31 _ rfl) (wanted_some (hid_get HOPS 27 _ rfl) rfl rfl rfl) (fun _ _ _ _ h => h) ?_; simp only [Act.put, List.setIfInBounds_toArray, List.set_cons_zero, List.set_cons_succ]) | (refine segH_load _ _ _ _ _ _ _ _ _ (hid_get HOPS 31 _ rfl) (wanted_some (hid_get HOPS 27 _ rfl) rfl rfl rfl) rfl (fun _ _ _ _ h => h) (fun y hy => by go_simp; try with_reducible rfl) ?_; simp only [Act.put, List.setIfInBounds_toArray, List.set_cons_zero, List.set_cons_succ]) | (refine segH_pass _ _ _ _ _ _ (hid_get HOPS 31 _ rfl) (wanted_gone (hid_get HOPS 27 _ rfl) rfl rfl) (fun _ _ _ _ h => h) ?_; simp only [Act.put, List.setIfInBounds_toArray, List.set_cons_zero, List.set_cons_succ])
      refine segH_makes _ _ _ _ _ _ (hid_get HOPS 29 _ rfl) (wanted_some (hid_get HOPS 27 _ rfl) rfl rfl rfl) (fun K hK => ?_)
      go_big_op
      have hp := intHave_any (h.ext xk) 1
      rw [hga.out] at hp
      refine hp.mono ?_
      clear hp
      rintro e wl ⟨rfl, rfl⟩
      rw [hh1.out]
      refine hK _ _ (fun x' => Ext wr x') xk (fun _ h => h) ?_
      clear hK
      first | (refine segH_pass _ _ _ _ _ _ (hid_get HOPS 32 _ rfl) (wanted_some (hid_get HOPS 27 _ rfl) rfl rfl rfl) (fun _ _ _ _ h => h) ?_; simp only [Act.put, List.setIfInBounds_toArray, List.set_cons_zero, List.set_cons_succ]) | (refine segH_pure _ _ _ _ _ _ (hid_get HOPS 32 _ rfl) rfl (wanted_some (hid_get HOPS 27 _ rfl) rfl rfl rfl) (fun _ _ _ _ h => h) ?_; intro K hK; go_big_quiet_op; go_big_quiet_on) | (refine segH_pass _ _ _ _ _ _ (hid_get HOPS 32 _ rfl) (wanted_gone (hid_get HOPS 27 _ rfl) rfl rfl) (fun _ _ _ _ h => h) ?_; simp only [Act.put, List.setIfInBounds_toArray, List.set_cons_zero, List.set_cons_succ])
      (refine segH_pure _ _ _ _ _ _ (hid_get HOPS 33 _ rfl) rfl wanted_none (fun _ _ _ _ h => h) ?_; intro K hK; go_big_quiet_op; go_big_quiet_on)
      (refine segH_pure _ _ _ _ _ _ (hid_get HOPS 34 _ rfl) rfl wanted_none (fun _ _ _ _ h => h) ?_; intro K hK; go_big_quiet_op; go_big_quiet_on)
      first | (refine segH_pass _ _ _ _ _ _ (hid_get HOPS 35 _ rfl) (wanted_some (hid_get HOPS 34 _ rfl) rfl rfl rfl) (fun _ _ _ _ h => h) ?_; simp only [Act.put, List.setIfInBounds_toArray, List.set_cons_zero, List.set_cons_succ]) | (refine segH_pure _ _ _ _ _ _ (hid_get HOPS 35 _ rfl) rfl (wanted_some (hid_get HOPS 34 _ rfl) rfl rfl rfl) (fun _ _ _ _ h => h) ?_; intro K hK; go_big_quiet_op; go_big_quiet_on) | (refine segH_pass _ _ _ _ _ _ (hid_get HOPS 35 _ rfl) (wanted_gone (hid_get HOPS 34 _ rfl) rfl rfl) (fun _ _ _ _ h => h) ?_; simp only [Act.put, List.setIfInBounds_toArray, List.set_cons_zero, List.set_cons_succ])
      first | (refine segH_pass _ _ _ _ _ _ (hid_get HOPS 36 _ rfl) (wanted_some (hid_get HOPS 34 _ rfl) rfl rfl rfl) (fun _ _ _ _ h => h) ?_; simp only [Act.put, List.setIfInBounds_toArray, List.set_cons_zero, List.set_cons_succ]) | (refine segH_pure _ _ _ _ _ _ (hid_get HOPS 36 _ rfl) rfl (wanted_some (hid_get HOPS 34 _ rfl) rfl rfl rfl) (fun _ _ _ _ h => h) ?_; intro K hK; go_big_quiet_op; go_big_quiet_on) | (refine segH_pass _ _ _ _ _ _ (hid_get HOPS 36 _ rfl) (wanted_gone (hid_get HOPS 34 _ rfl) rfl rfl) (fun _ _ _ _ h => h) ?_; simp only [Act.put, List.setIfInBounds_toArray, List.set_cons_zero, List.set_cons_succ])
      refine segH_makes _ _ _ _ _ _ (hid_get HOPS 37 _ rfl) (wanted_some (hid_get HOPS 34 _ rfl) rfl rfl rfl) (fun K hK => ?_)
      go_big_op
      have hp := intOf_all (h.ext xk) (T : Int) HL.out
      rw [hga.out] at hp
      refine hp.mono ?_
      clear hp
      rintro e wl ⟨v, zs, rfl, hown, hits, _, xr⟩
      obtain ⟨Av, cv, rfl⟩ := hown.form
      rw [HM.out] at hits
      have hlen : zs.length = 0 := by rw [← its_length, hits]; exact HOF.out
      rw [hlen]
      have xl := ext_trans xk xr
      refine hK _ _ (fun x' => Ext wr x') xl (fun _ h => h) ?_
      clear hK hown hits hlen
      first | (refine segH_pass _ _ _ _ _ _ (hid_get HOPS 38 _ rfl) (wanted_some (hid_get HOPS 34 _ rfl) rfl rfl rfl) (fun _ _ _ _ h => h) ?_; simp only [Act.put, List.setIfInBounds_toArray, List.set_cons_zero, List.set_cons_succ]) | (refine segH_pure _ _ _ _ _ _ (hid_get HOPS 38 _ rfl) rfl (wanted_some (hid_get HOPS 34 _ rfl) rfl rfl rfl) (fun _ _ _ _ h => h) ?_; intro K hK; go_big_quiet_op; go_big_quiet_on) | (refine segH_pass _ _ _ _ _ _ (hid_get HOPS 38 _ rfl) (wanted_gone (hid_get HOPS 34 _ rfl) rfl rfl) (fun _ _ _ _ h => h) ?_; simp only [Act.put, List.setIfInBounds_toArray, List.set_cons_zero, List.set_cons_succ])
      first | (refine segH_pass _ _ _ _ _ _ (hid_get HOPS 39 _ rfl) (wanted_some (hid_get HOPS 34 _ rfl) rfl rfl rfl) (fun _ _ _ _ h => h) ?_; simp only [Act.put, List.setIfInBounds_toArray, List.set_cons_zero, List.set_cons_succ]) | (refine segH_pure _ _ _ _ _ _ (hid_get HOPS 39 _ rfl) rfl (wanted_some (hid_get HOPS 34 _ rfl) rfl rfl rfl) (fun _ _ _ _ h => h) ?_; intro K hK; go_big_quiet_op; go_big_quiet_on) | (refine segH_pass _ _ _ _ _ _ (hid_get HOPS 39 _ rfl) (wanted_gone (hid_get HOPS 34 _ rfl) rfl rfl) (fun _ _ _ _ h => h) ?_; simp only [Act.put, List.setIfInBounds_toArray, List.set_cons_zero, List.set_cons_succ])
      (refine segH_pure _ _ _ _ _ _ (hid_get HOPS 40 _ rfl) rfl wanted_none (fun _ _ _ _ h => h) ?_; intro K hK; go_big_quiet_op; go_big_quiet_on)
      (refine segH_pure _ _ _ _ _ _ (hid_get HOPS 41 _ rfl) rfl wanted_none (fun _ _ _ _ h => h) ?_; intro K hK; go_big_quiet_op; go_big_quiet_on)
      refine seg_done ?_
      clear HOPS
      go_wp2
      go_ret
      exact ⟨rfl, ext_trans x xl⟩
end Go.Proofs.Ytdknkbpgkkakhaa
