/- Layer 2: the program's Parse. -/
import Derived.Test.YtdknkbpgkkakhaaDoorP10
import Derived.Test.YtdknkbpgkkakhaaDoorLatD
import Derived.Test.YtdknkbpgkkakhaaDoorShelf
namespace Go.Proofs.YtdknkbpgkkakhaaDoor
open Go.RowKit

def ParsePost (w : World) (r : Mat × Nat) (e : Ending) (w' : World) : Prop :=
  ∃ A c rs, e = .returned (.tuple #[.agg #[.slice A rs.length c], .int .i64 (r.2 : Int)]) ∧ mat rs = r.1 ∧ MatAt w' w.heap.size A rs ∧ Ext w w'
theorem ParsePost.bad {w w' : World} {k : Nat} (x : Ext w w') : ParsePost w ([], k) (.returned (.tuple #[.agg #[.slice none 0 0], .int .i64 (k : Int)])) w' :=
  ⟨none, 0, [], rfl, rfl, ⟨RowsAt.nil, fun _ h => by cases h⟩, x⟩
section
variable {w : World} {B g n c : Nat} {M : Mat} {A : Option Addr} {rs : List Rw}
theorem Making2.grid (h : Making2 w B g M A c rs) (hM : ∀ r ∈ M, r.length = n) (hn : M.length = n) (h0 : 0 < n) :
    ∃ pp q, A = some ⟨pp, 0, none⟩ ∧ Grid w pp n q (at2 M) ∧ (∀ a, a < n → g < q a) := by
  have hrl : rs.length = n := by rw [h.len, hn]
  have hR := h.own.rows (B := B)
  have hwid : ∀ a, (ha : a < rs.length) → rs[a].bs.length = n := fun a ha => by
    apply hM
    rw [← h.is]
    exact List.mem_map_of_mem (List.getElem_mem ha)
  have hat : ∀ a b, (ha : a < rs.length) → (hb : b < rs[a].bs.length) → at2 M a b = rs[a].bs[b] := fun a b ha hb => by rw [← h.is]; exact at2_of ha hb
  rcases h.own.2 with ⟨h2, h3⟩ | ⟨pp, cap, cur, hv, hg, hh, r⟩
  · omega
  injection hv with hA _ _
  subst hA
  have hq : ∀ a, (ha : a < rs.length) → ∃ q, g < q ∧ RowBlk w rs[a] q := fun a ha => h.each _ (List.getElem_mem ha)
  have hq2 : ∀ a, ∃ q, (ha : a < rs.length) → g < q ∧ RowBlk w rs[a] q := fun a => by
    by_cases ha : a < rs.length
    · obtain ⟨q, e⟩ := hq a ha; exact ⟨q, fun _ => e⟩
    · exact ⟨0, fun h => absurd h ha⟩
  refine ⟨pp, fun a => (hq2 a).choose, rfl, ⟨fun a ha => ?_, fun a ha => ?_, ⟨_, _, hh⟩, fun a b ha hb e => ?_⟩, fun a ha => ((hq2 a).choose_spec (by omega)).1⟩
  · have ha' : a < rs.length := by omega
    obtain ⟨ad, e, _, hc⟩ := hR a ha'
    injection e with e
    subst e
    refine ⟨rs[a].c, ?_⟩
    have h5 := hc 0 (.slice rs[a].A rs[a].bs.length rs[a].c) rfl
    rw [((hq2 a).choose_spec ha').2.1, hwid a ha', add_zero, show a * elRw.size = a from Nat.mul_one a, addr_at rfl rfl] at h5
    exact h5
  · have ha' : a < rs.length := by omega
    obtain ⟨_, _, cs, h1, h2⟩ := (hq2 a).choose_spec ha'
    refine ⟨cs, h1, fun b hb => ?_⟩
    have hb' : b < rs[a].bs.length := by rw [hwid a ha']; exact hb
    rw [h2 b hb', hat a b ha' hb']
  · have ha' : a < rs.length := by omega
    have hb' : b < rs.length := by omega
    have h1 := ((hq2 a).choose_spec ha').2.1
    have h2 := ((hq2 b).choose_spec hb').2.1
    have e' : (hq2 a).choose = (hq2 b).choose := e
    have h5 : (rs.map Rw.A)[a]'(by simpa using ha') = (rs.map Rw.A)[b]'(by simpa using hb') := by
      simp only [List.getElem_map]
      rw [h1, h2, e']
    exact (List.getElem_inj h.apart).1 h5
end
theorem isEmpty_iff (s : ByteArray) : s.toList.isEmpty = decide (s.size = 0) := by
  rw [ByteArray.toList_eq]
  obtain ⟨⟨l⟩⟩ := s
  cases l <;> rfl
set_option maxRecDepth 100000 in
set_option maxHeartbeats 4000000 in
theorem planParse_any (s : ByteArray) (w : World) (hs : s.size ≤ 10000) (m : Int) (hm : w.cell? ⟨0, 0, none⟩ = some (.int .i64 m)) :
    Calls Tryd.prog 9 #[.string s] w (ParsePost w (parseM s)) := by
  obtain ⟨W, hW⟩ : ∃ W, W = w.alloc (.cells #[.slice none 0 0] 24) := ⟨_, rfl⟩
  have x0 : Ext w W := by rw [hW]; exact ext_alloc _ _
  have b0 : Blk W w.heap.size 24 #[.slice none 0 0] := by rw [hW]; exact Blk.new _ _ _
  have HW : Hid (w.alloc (.cells #[.slice none 0 0] 24) = W) := hW.symm
  have hm1 := ext_cell x0 hm
  obtain ⟨g, hg⟩ : ∃ g, g = w.heap.size := ⟨_, rfl⟩
  have HGZ : Hid (w.heap.size = g) := hg.symm
  rw [← hg] at b0
  clear hW hg hm
  go_enter Tryd.func9, Tryd.ntmps9
  go_upto_region 1 with fail
  rw [HW.out, HGZ.out]
  have hsp := Tryd.strings_Split s ⟨#[10]⟩ m W (by omega) hm1 (Nat.le_refl 1)
  rw [split_pcs, split_count] at hsp
  obtain ⟨V, hV⟩ : ∃ V, V = W.alloc (.cells ((pcs s ++ [tl s]).map Value.string).toArray 9) := ⟨_, rfl⟩
  have x1 : Ext W V := by rw [hV]; exact ext_alloc _ _
  have bs : Blk V W.heap.size 9 ((pcs s ++ [tl s]).map Value.string).toArray := by rw [hV]; exact Blk.new _ _ _
  have HV : Hid (W.alloc (.cells ((pcs s ++ [tl s]).map Value.string).toArray 9) = V) := hV.symm
  obtain ⟨q, hq⟩ : ∃ q, q = W.heap.size := ⟨_, rfl⟩
  rw [← hq] at bs hsp
  clear hV hq
  have b1 := b0.ext x1
  have y1 := ext_trans x0 x1
  have hNs := pcs_length s
  obtain ⟨N, hN⟩ : ∃ N, N = (pcs s).length := ⟨_, rfl⟩
  have HN : Hid ((pcs s).length = N) := hN.symm
  rw [← hN] at hsp hNs
  clear hN
  have bl : V.cell? ⟨q, N, none⟩ = some (.string (tl s)) := by
    rw [bs.cell, ← HN.out]; simp
  have bk : ∀ i, (h : i < N) → V.cell? ⟨q, i, none⟩ = some (.string ((pcs s).getD i ⟨#[]⟩)) := fun i h => by
    have h' : i < (pcs s).length := by rw [HN.out]; exact h
    rw [bs.cell]
    simp [List.getElem?_append_left, h', List.getD_eq_getElem?_getD]
  have HK := Lib.hid bk
  clear bk bs
  go_wp2_with fail
  refine hsp.mono ?_
  rintro e w2 ⟨rfl, rfl⟩
  rw [HV.out]
  clear hsp x0 x1 b0 hm1
  go_upto_region 3 with fail
  have f1 := b1.frozen 0
  have c1 := b1.cell 0
  simp only [List.getElem?_toArray, List.getElem?_cons_zero] at c1
  have b2 := b1.set_ 0 (.slice none 0 0)
  simp only [List.setIfInBounds_toArray, List.set_cons_zero] at b2
  have r2 := b2.cell 0
  simp only [List.getElem?_toArray, List.getElem?_cons_zero] at r2
  have x2 : Ext w (V.setCell ⟨g, 0, none⟩ (.slice none 0 0)) := y1.setCell (by rw [HGZ.out]; exact Nat.le_refl _) _
  have HBAD : Hid (∀ k : Nat, parseM s = ([], k) → ∀ w', Ext w w' → ParsePost w (parseM s) (.returned (.tuple #[.agg #[.slice none 0 0], .int .i64 (k : Int)])) w') := fun k e w' x => by rw [e]; exact ParsePost.bad x
  by_cases h1 : N < 1
  · have HP : Hid (parseM s = ([], 10)) := by
      show _ = _
      rw [parseM, if_neg (by rw [HN.out]; omega)]
    go_wp2
    refine bodyPost_ret (v := .tuple #[.agg #[.slice none 0 0], .int .i64 10]) (by simp [results, Tryd.results9, go_sem, r2]) rfl (HBAD.out 10 HP.out _ x2)
  have d1 : decide ((N : Int) < 1) = false := by rw [decide_eq_false_iff_not]; omega
  by_cases h6 : 6 < N
  · have HP : Hid (parseM s = ([], 10)) := by
      show _ = _
      rw [parseM, if_neg (by rw [HN.out]; omega)]
    go_wp2
    refine bodyPost_ret (v := .tuple #[.agg #[.slice none 0 0], .int .i64 10]) (by simp [results, Tryd.results9, go_sem, r2]) rfl (HBAD.out 10 HP.out _ x2)
  by_cases ht : endAt s = s.size
  case neg =>
    have HP : Hid (parseM s = ([], 10)) := by
      show _ = _
      rw [parseM, if_neg (fun h => ht h.1)]
    have hne : (tl s).toList.isEmpty = false := by
      rw [isEmpty_iff, tl_size, decide_eq_false_iff_not]
      have := endAt_le s
      omega
    have d6 : decide (6 < (N : Int)) = false := by rw [decide_eq_false_iff_not]; omega
    clear ht
    go_wp2
    refine bodyPost_ret (v := .tuple #[.agg #[.slice none 0 0], .int .i64 10]) (by simp [results, Tryd.results9, go_sem, r2]) rfl (HBAD.out 10 HP.out _ x2)
  have hte : (tl s).toList.isEmpty = true := by
    rw [isEmpty_iff, tl_size, ht, Nat.sub_self]; rfl
  have d6 : decide (6 < (N : Int)) = false := by rw [decide_eq_false_iff_not]; omega
  have HP : Hid (parseM s = parseR (rowsGo (pcs s) N N)) := by
    show _ = _
    rw [parseM, HN.out, if_pos (by omega)]
  clear ht
  go_upto_region 5 with fail
  obtain ⟨p, hp⟩ : ∃ p, p = V.heap.size := ⟨_, rfl⟩
  have M0 : Making2 (V.alloc (.cells #[.slice none 0 0] 24)) w.heap.size p [] none 0 [] :=
    ⟨by rw [hp]; exact Blk.new _ _ _, Own.nil _ _, by rw [hp]; exact y1.size, by simp, by simp, rfl⟩
  have z1 := ext_alloc V (.cells #[.slice none 0 0] 24)
  clear b2 r2 x2 bl c1 f1
  go_upto_region 6 with fail
  rw [← hp]
  have HPZ : Hid (V.heap.size = p) := hp.symm
  clear hp
  generalize V.alloc (.cells #[.slice none 0 0] 24) = V2 at M0 z1 ⊢
  go_wp2_with fail
  go_loopw [31] (fun i wr => ∃ (a : Nat) (M : Mat) (A : Option Addr) (c : Nat) (rs : List Rw), i = .int .i64 (a : Int) ∧ a ≤ N ∧ Making2 wr w.heap.size p M A c rs ∧ Ext V wr ∧ Hid (rowsGo (pcs s) N a = some M)) (fun i _ => N - (intOf i).toNat)
  case atStart => exact ⟨0, [], none, 0, [], rfl, Nat.zero_le _, M0, z1, rfl⟩
  case round =>
    clear M0 z1
    obtain ⟨a, M, A, c, rs, rfl, ha, HM, hx, HR⟩ := hrel
    have hrl : rs.length = a := by rw [HM.len, rowsGo_len HR.out]
    by_cases hlt : a < N
    · have p0 := ext_cell hx (HK.out a hlt)
      have hxs : ((pcs s).getD a ⟨#[]⟩).size ≤ s.size := by
        have h' : a < (pcs s).length := by rw [HN.out]; exact hlt
        rw [List.getD_eq_getElem?_getD, List.getElem?_eq_getElem h']
        exact pcs_size (List.getElem_mem h')
      have HS : Hid (rowsGo (pcs s) N (a + 1) = match rowP ((pcs s).getD a ⟨#[]⟩) a N with | none => none | some r => some (M ++ [r])) := by
        show _ = _
        rw [rowsGo, HR.out]
        rfl
      obtain ⟨x, hxx⟩ : ∃ x, x = (pcs s).getD a ⟨#[]⟩ := ⟨_, rfl⟩
      rw [← hxx] at p0 hxs HS
      clear hxx
      have hrow := planRow_any x a N hlt (by omega) wr (by omega)
      go_wp2_with fail
      refine hrow.mono ?_
      clear hrow
      rintro e w3 hpost
      unfold RowPost at hpost
      cases ho : rowP x a N with
      | none =>
        rw [ho] at hpost
        obtain ⟨x3, rfl⟩ := hpost
        have HBN : Hid (parseM s = ([], 10)) := by
          show _ = _
          have h1 : rowsGo (pcs s) N (a + 1) = none := by rw [HS.out, ho]
          have h2 := rowsGo_none h1 (N - (a + 1))
          rw [show a + 1 + (N - (a + 1)) = N by omega] at h2
          rw [HP.out, h2]; rfl
        have b3 := b1.ext (ext_trans hx x3)
        have f3 := b3.frozen 0
        have c3 := b3.cell 0
        simp only [List.getElem?_toArray, List.getElem?_cons_zero] at c3
        have b2 := b3.set_ 0 (.slice none 0 0)
        simp only [List.setIfInBounds_toArray, List.set_cons_zero] at b2
        have r2 := b2.cell 0
        simp only [List.getElem?_toArray, List.getElem?_cons_zero] at r2
        have x2 : Ext w (w3.setCell ⟨g, 0, none⟩ (.slice none 0 0)) := (ext_trans y1 (ext_trans hx x3)).setCell (by rw [HGZ.out]; exact Nat.le_refl _) _
        clear ho
        go_wp2
        refine bodyPost_ret (v := .tuple #[.agg #[.slice none 0 0], .int .i64 10]) (by simp [results, Tryd.results9, go_sem, r2]) rfl (HBAD.out 10 HBN.out _ x2)
      | some r =>
        rw [ho] at hpost
        obtain ⟨x3, hrn, g', rfl, hge, hb⟩ := hpost
        have HS2 : Hid (rowsGo (pcs s) N (a + 1) = some (M ++ [r])) := by
          show _ = _
          rw [HS.out, ho]
        clear ho
        have HM3 := HM.ext x3
        have hpl := HM.blk.lt
        have hR1 : RowBlk w3 ⟨some ⟨g', 0, none⟩, N, r⟩ g' := ⟨rfl, _, hb, fun b hb' => by simp [show b < r.length from hb']⟩
        have hnin : (some ⟨g', 0, none⟩ : Option Addr) ∉ rs.map Rw.A := by
          intro h
          obtain ⟨y, hy, e⟩ := List.mem_map.1 h
          obtain ⟨q', _, h2⟩ := HM.each y hy
          have h3 := h2.lt
          rw [h2.1] at e
          injection e with e
          injection e with e
          omega
        have x4 := ext_alloc w3 (.cells #[.slice (some ⟨g', 0, none⟩) N N] 38)
        have HM4 := Lib.hid (HM3.ext x4)
        have HRB := Lib.hid (hR1.ext x4)
        have HNI := Lib.hid hnin
        have HB : Hid (RowsAt (w3.alloc (.cells #[.slice (some ⟨g', 0, none⟩) N N] 38)) p 38 1 Rw.cells (some ⟨w3.heap.size, 0, none⟩) [⟨some ⟨g', 0, none⟩, N, r⟩]) := by
          have := rows_rw (w := w3) (B := p) ⟨some ⟨g', 0, none⟩, N, r⟩
          simp only [hrn] at this
          exact this
        have c0 := HM3.blk.cell 0
        simp only [List.getElem?_toArray, List.getElem?_cons_zero] at c0
        have hp3 : p + 1 ≤ w3.heap.size := HM3.blk.lt
        have hpg : p < g' := by omega
        have hext2 := ext_trans hx x3
        have HRL := Lib.hid hrl
        have hr5 : rs.length ≤ 5 := by omega
        clear hR1 hnin HM3 HM hx x3 x4 hb hrl p0
        go_wp2_with (at_builtin; refine wpList_append elRw rfl _ _ rfl (p + 1) (.slice A rs.length c) rs rfl HM4.out.own _ 1 [⟨some ⟨g', 0, none⟩, N, r⟩] rfl p HB.out (by show _ * 24 ≤ _; simp; omega) (by simp; omega) (by simp; omega) ?_; intro A2 c2 w4 hown4 hg4 hat4; obtain ⟨s1, s2, s3, s4⟩ := HM4.out.step hpg HRB.out HNI.out hown4 hg4; have HS1 := Lib.hid s1; have HS3 := Lib.hid s2; clear s1 s2 hown4 hg4 hat4)
        go_roundw
        case rel =>
          exact ⟨a + 1, M ++ [r], _, _, _, by go_num, hlt, HS1.out, (hext2.alloc hext2.size _).trans (by rw [HPZ.out]; exact HS3.out), HS2⟩
        case measure => simp [intOf]; omega
    · obtain rfl : a = N := by omega
      clear hlt
      have hrows := rowsGo_rows HR.out
      have hml := rowsGo_len HR.out
      obtain ⟨pp, qf, rfl, G, hgq⟩ := HM.grid hrows hml (by omega)
      have HE : Hid (parseM s = parseC (closeM M)) := by
        show _ = _
        rw [HP.out, HR.out]; rfl
      have HCM : Hid (gridM a (close a (at2 M) a) = closeM M) := by
        show _ = _
        rw [closeM, hml]
      have hsq := lchk_closeM (m := M) (by omega) (by omega)
      have c0 := HM.blk.cell 0
      simp only [List.getElem?_toArray, List.getElem?_cons_zero, hrl] at c0
      have bp := HM.blk
      rw [hrl] at bp
      have b3 := b1.ext hx
      have yx := ext_trans y1 hx
      have hpz := y1.size
      clear HM hml hrows
      have hreach := reached_any (c := c) G (by omega)
      go_wp2_with fail
      refine hreach.mono ?_
      clear hreach
      rintro e w5 ⟨rfl, G5, hm5⟩
      have bp5 := bp.mods hm5 (by
        rintro ⟨k, hk, e⟩
        have := hgq k hk
        omega)
      have hgp : g < p := by have := b1.lt; rw [HPZ.out] at this; exact this
      have b5 := b3.mods hm5 (by
        rintro ⟨k, hk, e⟩
        have := hgq k hk
        omega)
      have hwp : w.heap.size ≤ p := by rw [← HPZ.out]; exact hpz
      have x5 : Ext w w5 := yx.trans (hm5.below yx.size (by
        rintro k ⟨k', hk, e⟩
        have := hgq k' hk
        omega))
      have c5 := bp5.cell 0
      simp only [List.getElem?_toArray, List.getElem?_cons_zero] at c5
      obtain ⟨rs5, hl5, hm6, hM5⟩ := G5.matAt 0
      rw [HCM.out] at hm6
      have hchk := check_any (some ⟨pp, 0, none⟩) c rs5 w5 0 hM5 (by omega)
      rw [hm6, hl5] at hchk
      clear c0 bp b3 hm5 hM5
      go_wp2_with fail
      refine hchk.mono ?_
      clear hchk
      rintro e w6 ⟨rfl, x6⟩
      have G6 := G5.ext x6
      have b6 := b5.ext x6
      have bp6 := bp5.ext x6
      have y6 := ext_trans x5 x6
      have c6 := bp6.cell 0
      simp only [List.getElem?_toArray, List.getElem?_cons_zero] at c6
      have f6 := b6.frozen 0
      have c7 := b6.cell 0
      simp only [List.getElem?_toArray, List.getElem?_cons_zero] at c7
      clear c5 G5 b5 bp5 x6 x5
      by_cases hz : lchk (closeM M) = 0
      · have HZ := Lib.hid hz
        rw [hz]
        clear hz hsq
        have b2 := b6.set_ 0 (.slice (some ⟨pp, 0, none⟩) a c)
        simp only [List.setIfInBounds_toArray, List.set_cons_zero] at b2
        have r2 := b2.cell 0
        simp only [List.getElem?_toArray, List.getElem?_cons_zero] at r2
        have x2 : Ext w (w6.setCell ⟨g, 0, none⟩ (.slice (some ⟨pp, 0, none⟩) a c)) := y6.setCell (by rw [HGZ.out]; exact Nat.le_refl _) _
        have G7 := G6.mods1 b6 (by decide) (by decide) (mods_setCell w6 ⟨g, 0, none⟩ (.slice (some ⟨pp, 0, none⟩) a c))
        obtain ⟨rs7, hl7, hm7, hM7⟩ := G7.matAt w.heap.size
        rw [HCM.out] at hm7
        clear G6 G7 hl5 hm6
        go_wp2
        refine bodyPost_ret (v := .tuple #[.agg #[.slice (some ⟨pp, 0, none⟩) a c], .int .i64 0]) (by simp [results, Tryd.results9, go_sem, r2]) rfl ?_
        refine ⟨some ⟨pp, 0, none⟩, c, rs7, ?_, ?_, hM7, x2⟩
        · rw [HE.out, parseC, if_pos HZ.out, hl7]; rfl
        · rw [HE.out, parseC, if_pos HZ.out, hm7]
      · have hz11 : lchk (closeM M) = 11 := by omega
        have HB11 : Hid (parseM s = ([], 11)) := by
          show _ = _
          rw [HE.out, parseC, if_neg hz, hz11]
        rw [hz11]
        clear hz hsq hz11
        have b2 := b6.set_ 0 (.slice none 0 0)
        simp only [List.setIfInBounds_toArray, List.set_cons_zero] at b2
        have r2 := b2.cell 0
        simp only [List.getElem?_toArray, List.getElem?_cons_zero] at r2
        have x2 : Ext w (w6.setCell ⟨g, 0, none⟩ (.slice none 0 0)) := y6.setCell (by rw [HGZ.out]; exact Nat.le_refl _) _
        clear G6 hl5 hm6
        go_wp2
        refine bodyPost_ret (v := .tuple #[.agg #[.slice none 0 0], .int .i64 11]) (by simp [results, Tryd.results9, go_sem, r2]) rfl (HBAD.out 11 HB11.out _ x2)
end Go.Proofs.YtdknkbpgkkakhaaDoor
