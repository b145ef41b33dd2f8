/- Layer 20: the walk of IntakePlays. -/
import Derived.Test.YtdknkbpgkkakhaaInt25
import Derived.Test.YtdknkbpgkkakhaaItem5
import Derived.Deep.CutBlock
namespace Go.Proofs.Ytdknkbpgkkakhaa
open Go.RowKit Go.Maps

theorem wrsSame_id9 (ws : List Wr) : wrsSame ws ws = true := by
  induction ws with
  | nil => rfl
  | cons x xs ih => simp [wrsSame, wrSame, ih]
theorem itsSame_eq9 : ∀ {xs ys : List Iv}, its xs = its ys → itsSame xs ys = true
  | [], [], _ => rfl
  | [], y :: ys, h => by simp [its] at h
  | x :: xs, [], h => by simp [its] at h
  | x :: xs, y :: ys, h => by
    simp only [its, List.map_cons, List.cons.injEq] at h
    have h1 : itSame x.it y.it = true := by rw [h.1]; simp [itSame, wrsSame_id9]
    have h2 : itsSame xs ys = true := itsSame_eq9 h.2
    simp [itsSame, h1, h2]
theorem IvOk.more9 {w : World} {B B' : Nat} {x : Iv} (h : IvOk w B x) (hB : B ≤ B') : IvOk w B' x := ⟨RowsAt.more h.at_ hB, h.wr, h.len⟩

set_option maxRecDepth 100000 in
set_option maxHeartbeats 16000000 in
theorem intakePlays_walk (A : Option Addr) (c : Nat) (rs : List Rw) (lev : Int) (A1 : Option Addr) (c1 : Nat) (xs : List Iv) (t d : Int) (w : World) (hM : MatAt w w.heap.size A rs) (hl : rs.length ≤ 9223372036854775807) (hX : RowsIv w w.heap.size A1 xs) (hl1 : xs.length ≤ 9223372036854775807)
    (hxs : ∀ y ∈ xs, WrsAt w w.heap.size y.A y.it.ws ∧ ∀ z ∈ y.it.ws, z.ok) (ht : -9223372036854775808 ≤ t ∧ t ≤ 9223372036854775807) (hd : 0 ≤ d ∧ d ≤ 255) :
    Calls Try.prog 16 #[.agg #[.slice A rs.length c], .int .i64 lev, .slice A1 xs.length c1, .int .i64 t, .int .u8 d] w fun e w' => e = .returned (.bool true) ∧ Ext w w' := by
  have x0 := ext_alloc w (.cells #[.slice A rs.length c] 53)
  have b0 := Blk.new w 53 #[.slice A rs.length c]
  have HM := Lib.hid (hM.ext x0)
  have HL := Lib.hid hl
  have HL1 := Lib.hid hl1
  have HS := Lib.hid hX
  have HLS0 := Lib.hid hxs
  have HTB := Lib.hid (And.intro ht hd)
  clear hM hl hX hl1 hxs ht hd
  go_enter Try.func16, Try.ntmps16
  go_upto_region 1 with fail
  obtain ⟨g, hg⟩ : ∃ g, g = w.heap.size := ⟨_, rfl⟩
  have HG := Lib.hid hg
  rw [← hg] at b0 ⊢
  generalize w.alloc (.cells #[.slice A rs.length c] 53) = w1 at HM b0 x0 ⊢
  clear hg
  go_wp2_with fail
  refine (known20_any w1).mono ?_
  rintro e w2 ⟨rfl, y⟩
  replace b0 := b0.ext y
  go_wp2_with fail
  refine (few20_any A1 c1 xs w2 _ (RowsAt.ext HS.out (ext_trans x0 y)) HL1.out).mono ?_
  rintro e w2' ⟨rfl, rfl⟩
  cases hfs : fewIts 60 xs
  · clear hfs
    go_wp2
    go_ret
    exact ⟨rfl, ext_trans x0 y⟩
  have h60 : xs.length ≤ 60 := by
    have := hfs
    simp only [fewIts, Bool.and_eq_true, decide_eq_true_eq] at this
    exact this.2
  have HXS : Hid (∀ y ∈ xs, IvOk w w.heap.size y) := fun y hy => by
    have h10 : y.it.ws.length ≤ 10 := by
      have := hfs
      simp only [fewIts, Bool.and_eq_true, List.all_eq_true, decide_eq_true_eq] at this
      exact this.1 y hy
    exact ⟨(HLS0.out y hy).1, (HLS0.out y hy).2, by omega⟩
  clear hfs HLS0
  have c0 := b0.cell 0
  simp only [List.getElem?_toArray, List.getElem?_cons_zero] at c0
  go_wp2_with fail
  refine (fewLat20_any A c rs w2 _ (HM.out.ext y) HL.out).mono ?_
  rintro e w3 ⟨rfl, y3⟩
  replace y := ext_trans y y3
  replace b0 := b0.ext y3
  clear y3 c0
  have c0 := b0.cell 0
  simp only [List.getElem?_toArray, List.getElem?_cons_zero] at c0
  cases hf : fewMat 8 (mat rs)
  · clear hf
    go_wp2
    go_ret
    exact ⟨rfl, ext_trans x0 y⟩
  go_wp2_with fail
  refine (refCheck_any A c rs w3 _ (HM.out.ext y) HL.out).mono ?_
  rintro e w4 ⟨rfl, y4⟩
  replace y := ext_trans y y4
  replace b0 := b0.ext y4
  clear y4 c0 hf
  by_cases hk : lchk (mat rs) ≠ 0
  · have hk' : ((lchk (mat rs)) != 0) = true := by simpa using hk
    clear hk
    go_wp2
    all_goals
      go_ret
      exact ⟨rfl, ext_trans x0 y⟩
  have hk0 : lchk (mat rs) = 0 := by simpa using hk
  rw [hk0]
  clear hk hk0
  have X4 := ext_trans x0 y
  have HX4 := Lib.hid X4
  have HM4 : Hid (MatAt w4 w.heap.size A rs) := HM.out.ext y
  have p0 := b0.cell 0
  simp only [List.getElem?_toArray, List.getElem?_cons_zero] at p0
  have y0 := fun x' (hx : Ext w4 x') => ext_cell hx p0
  have hB4 : w.heap.size ≤ w4.heap.size := X4.size
  have HB4 := Lib.hid hB4
  clear x0 y p0 X4
  go_upto_region 5 with fail
  go_cut [11, 12] (fun p q wc => (∃ gr, q = .pointer (some ⟨gr, 0, none⟩) ∧ PLI wc w4.heap.size A c rs lev p gr 0) ∧ Ext w4 wc)
  case first =>
    refine wp_region_planH3 (.reads 0 (.reads 1 (.reads 3 (.reads 4 (.reads 5 (.fork 2 (.reads 7 (.makes 6 (.reads 8 (.done)))) 6 (.makes 2 (.reads 7 (.reads 8 (.done)))))))))) (by kernel_rfl) (by kernel_rfl) (fun x' => Ext w4 x') (ext_drewN w4 1) (fun ops HOPS => ?_)
    (refine segH_load _ _ _ _ _ _ _ _ _ (hid_get HOPS 0 _ rfl) wanted_none rfl (fun _ _ _ _ h => h) (fun y hy => by go_simp; try with_reducible rfl) ?_; simp only [Act.put, List.setIfInBounds_toArray, List.set_cons_zero, List.set_cons_succ])
    (refine segH_pure _ _ _ _ _ _ (hid_get HOPS 1 _ rfl) rfl wanted_none (fun _ _ _ _ h => h) ?_; intro K hK; go_big_quiet_op; go_big_quiet_on)
    (refine segH_load _ _ _ _ _ _ _ _ _ (hid_get HOPS 3 _ rfl) wanted_none rfl (fun _ _ _ _ h => h) (fun y hy => by go_simp; try with_reducible rfl) ?_; simp only [Act.put, List.setIfInBounds_toArray, List.set_cons_zero, List.set_cons_succ])
    (refine segH_pure _ _ _ _ _ _ (hid_get HOPS 4 _ rfl) rfl wanted_none (fun _ _ _ _ h => h) ?_; intro K hK; go_big_quiet_op; go_big_quiet_on)
    (refine segH_pure _ _ _ _ _ _ (hid_get HOPS 5 _ rfl) rfl wanted_none (fun _ _ _ _ h => h) ?_; intro K hK; go_big_quiet_op; go_big_quiet_on)
    refine segH_fork _ _ _ _ _ _ _ _ _ _ _ _ (hid_get HOPS 2 _ rfl) (hid_get HOPS 6 _ rfl) wanted_none wanted_none (fun K hK => ?_) (fun K hK => ?_)
    · go_big_op
      refine (intNew_any A c rs lev _ ((HM4.out.ext (ext_drewN w4 1)).up (Nat.le_trans HB4.out (ext_drewN w4 1).size))).mono ?_
      rintro e w5 ⟨m, rfl, h, y5⟩
      have P5 := ext_trans (ext_drewN w4 1) y5
      refine hK _ _ (fun x' => Ext w4 x') P5 (fun _ h => h) ?_
      clear hK
      (refine segH_pure _ _ _ _ _ _ (hid_get HOPS 7 _ rfl) rfl wanted_none (fun _ _ _ _ h => h) ?_; intro K hK; go_big_quiet_op; go_big_quiet_on)
      refine segH_makes _ _ _ _ _ _ (hid_get HOPS 6 _ rfl) wanted_none (fun K hK => ?_)
      go_big_op
      have P6 : Ext w4 (w5.alloc (.cells (zero101 A rs.length c lev) 101)) := ext_trans P5 (ext_alloc _ _)
      have hd := h.down (Nat.le_refl _) ((HM4.out.ext P5).up HB4.out)
      have hap : ∀ b, RfOwn (RfMem.new w5.heap.size A rs.length c lev) b → ¬ IntOwn m b := fun b hb hc => by
        have e1 := RfMem.new_own hb
        subst e1
        exact Nat.lt_irrefl _ (h.own_lt hc).2
      have HPL : Hid (PLI (w5.alloc (.cells (zero101 A rs.length c lev) 101)) w4.heap.size A c rs lev (.pointer (some ⟨m.ga, 0, none⟩)) w5.heap.size 0) :=
        ⟨m, _, RfMem.new w5.heap.size A rs.length c lev, _, rfl, rfl, ⟨hd.ext (ext_alloc _ _), RfAt.new ((HM4.out.ext P5).up HB4.out) P5.size, hap⟩, Sim.new, (fun y hy => by cases hy), IntInv.new, Int.le_refl _, by decide⟩
      refine hK _ _ (fun x' => Ext w4 x') P6 (fun _ h => h) ?_
      clear hK hd hap h
      (refine segH_pure _ _ _ _ _ _ (hid_get HOPS 8 _ rfl) rfl wanted_none (fun _ _ _ _ h => h) ?_; intro K hK; go_big_quiet_op; go_big_quiet_on)
      refine seg_done ?_
      clear HOPS
      clear y0
      go_wp2
      go_meet
      exact ⟨⟨_, rfl, HPL.out⟩, P6⟩
    · go_big_op
      have P5 : Ext w4 (w4.alloc (.cells (zero101 A rs.length c lev) 101)).drew := ext_trans (ext_alloc _ _) (ext_drewN _ 1)
      have hr : RfAt (w4.alloc (.cells (zero101 A rs.length c lev) 101)).drew w4.heap.size A c rs lev (RfMem.new w4.heap.size A rs.length c lev) RfSt.new := (RfAt.new (HM4.out.up HB4.out) (Nat.le_refl _)).ext (ext_drewN _ 1)
      have hsz : (w4.alloc (.cells (zero101 A rs.length c lev) 101)).drew.heap.size = w4.heap.size + 1 := by simp
      refine hK _ _ (fun x' => Ext w4 x') P5 (fun _ h => h) ?_
      clear hK
      refine segH_makes _ _ _ _ _ _ (hid_get HOPS 2 _ rfl) wanted_none (fun K hK => ?_)
      go_big_op
      refine (intNew_any A c rs lev _ ((HM4.out.ext P5).up (Nat.le_trans HB4.out P5.size))).mono ?_
      rintro e w6 ⟨m, rfl, h, y6⟩
      have P6 := ext_trans P5 y6
      have hd := h.down (B' := w4.heap.size) P5.size ((HM4.out.ext P6).up HB4.out)
      have hap : ∀ b, RfOwn (RfMem.new w4.heap.size A rs.length c lev) b → ¬ IntOwn m b := fun b hb hc => by
        have e1 := RfMem.new_own hb
        subst e1
        have := (h.own_lt hc).1
        omega
      have HPL : Hid (PLI w6 w4.heap.size A c rs lev (.pointer (some ⟨m.ga, 0, none⟩)) w4.heap.size 0) :=
        ⟨m, _, RfMem.new w4.heap.size A rs.length c lev, _, rfl, rfl, ⟨hd, hr.ext y6, hap⟩, Sim.new, (fun y hy => by cases hy), IntInv.new, Int.le_refl _, by decide⟩
      refine hK _ _ (fun x' => Ext w4 x') P6 (fun _ h => h) ?_
      clear hK hd hap h hr
      (refine segH_pure _ _ _ _ _ _ (hid_get HOPS 7 _ rfl) rfl wanted_none (fun _ _ _ _ h => h) ?_; intro K hK; go_big_quiet_op; go_big_quiet_on)
      (refine segH_pure _ _ _ _ _ _ (hid_get HOPS 8 _ rfl) rfl wanted_none (fun _ _ _ _ h => h) ?_; intro K hK; go_big_quiet_op; go_big_quiet_on)
      refine seg_done ?_
      clear HOPS
      clear y0
      go_wp2
      go_meet
      exact ⟨⟨_, rfl, HPL.out⟩, P6⟩
  case rest =>
    obtain ⟨⟨gr, rfl, HPL⟩, P5⟩ := hcut
    rename World => w5
    have HP5 := Lib.hid P5
    have HB0 := Lib.hid (b0.ext P5)
    clear P5 b0 y0
    go_wp2
    go_loopw [11, 13] (fun p i wr => ∃ k : Nat, k ≤ xs.length ∧ i = .int .i64 (k : Int) ∧ PLI wr w4.heap.size A c rs lev p gr k ∧ Below w4.heap.size w5 wr) (fun _ i _ => xs.length - (intOf i).toNat)
    case atStart => exact ⟨0, Nat.zero_le _, rfl, HPL, Below.refl _ _⟩
    case round =>
      clear HPL
      obtain ⟨k, hkl, rfl, HPL, hx⟩ := hrel
      rename World => wr
      have HX := Lib.hid hx
      clear hx
      have hEw : Ext w wr := HX4.out.trans ((HP5.out.trans (HX.out.mono (Nat.le_refl _))).mono HB4.out)
      obtain ⟨m, s, r, q, rfl, hgr, D, hsim, hrf, hinv, hf0, hf1⟩ := HPL
      by_cases hlt : k < xs.length
      · have hBw : w4.heap.size ≤ wr.heap.size := D.int.base_le
        go_wp2_with fail
        refine (intCopy_any D.int).mono ?_
        rintro e w6 ⟨m1, rfl, h1, x1, hnew⟩
        have T := D.copy x1 h1 hnew
        have HX1 := Lib.hid (HX.out.trans (x1.mono hBw))
        clear D h1 x1 hnew HX hEw
        go_wp2_with fail
        refine (intDrop_any T.old 0 ⟨by omega, by omega⟩ ⟨hf0, hf1⟩).mono ?_
        rintro e w7 ⟨rfl, m2, h2, g2⟩
        have T2 := T.step g2 h2
        have HX2 := Lib.hid (HX1.out.trans g2.below)
        have HG2 : Hid (m2.ga = m.ga) := g2.ga
        clear T h2 g2 HX1
        go_wp2_with fail
        have hp := intHave_any T2.old 0
        rw [HG2.out] at hp
        refine hp.mono ?_
        clear hp
        rintro e w' ⟨rfl, rfl⟩
        obtain ⟨hv, hhb, hhv⟩ : ∃ hv, (0 ≤ hv ∧ hv ≤ 1000000) ∧ Hid (lv6 (dropSt s 0).have_ 0 = hv) := ⟨_, by
          have hdn := (hinv.drop 0).nums 0
          have hhv0 : lv6 (dropSt s 0).have_ 0 = (dropSt s 0).have_ 0 := rfl
          rw [hhv0]; omega, rfl⟩
        rw [hhv.out]
        have hwv : IntKind.i64.wrap (hv + 1) = hv + 1 := IntWalk.i64_in _ (by omega)
        go_wp2_with fail
        have hp := intOver_any T2.old 0
        rw [HG2.out] at hp
        refine hp.mono ?_
        clear hp
        rintro e w' ⟨rfl, rfl⟩
        obtain ⟨ov, hov⟩ : ∃ ov, Hid (lv6 (dropSt s 0).over 0 = ov) := ⟨_, rfl⟩
        rw [hov.out]
        go_wp2_with fail
        refine (it20_any _ 0 (hv + 1) ov true).mono ?_
        rintro e w8 ⟨Ai, ci, rfl, hok, xi⟩
        have T3 := T2.ext xi
        have HX3 := Lib.hid (HX2.out.trans (xi.mono T2.old.base_le))
        clear T2 xi HX2 hwv
        go_wp2_with fail
        have hp := intPut_any T3.old ⟨itIt 0 (hv + 1) ov true, Ai, ci⟩ (hok _) (hinv.drop 0) (by omega) HL.out
        rw [HG2.out] at hp
        refine hp.mono ?_
        clear hp hok
        rintro e w9 ⟨v0, zs0, m3, rfl, hown0, _, _, h3, g3⟩
        obtain ⟨Av0, cv0, rfl⟩ := hown0.form
        have D4 := (T3.step g3 h3).both
        have HX4' := Lib.hid (HX3.out.trans g3.below)
        clear T3 h3 g3 HX3 hown0
        obtain ⟨gm, hgm⟩ : ∃ gm, gm = m1.ga := ⟨_, rfl⟩
        have HGM : Hid (m1.ga = gm) := hgm.symm
        rw [← hgm]
        clear hgm
        have HSIMP := Lib.hid (fun x => hsim.put (mat rs) lev x)
        have hE9 : Ext w w9 := HX4.out.trans ((HP5.out.trans (HX4'.out.mono (Nat.le_refl _))).mono HB4.out)
        obtain ⟨ad, rfl, p0, p1, p2, p3, p4⟩ := RowsIv.get (RowsAt.ext HS.out hE9) hlt
        have hix : IvOk w9 w4.heap.size xs[k] := ((HXS.out _ (List.getElem_mem hlt)).ext hE9).more9 HB4.out
        obtain ⟨Y, hY⟩ : ∃ Y, Y = xs[k] := ⟨_, rfl⟩
        have HY := Lib.hid hY
        rw [← hY] at p0 p1 p2 p3 p4 hix
        clear hY hE9
        go_wp2_with fail
        have hp := intPut_any D4.int Y hix hinv (by omega) HL.out
        rw [HGM.out] at hp
        refine hp.mono ?_
        clear hp p0 p1 p2 p3 p4
        rintro e w10 ⟨v1, zs1, m5, rfl, hown1, hits1, hzs1, h5, g5⟩
        obtain ⟨Av1, cv1, rfl⟩ := hown1.form
        have D5 := D4.intStep g5 h5
        have HX5 := Lib.hid (HX4'.out.trans g5.below)
        have HGA : Hid (m5.ga = gm) := g5.ga.trans HGM.out
        have hrl : r.g < w9.heap.size := D4.ref.blk.lt
        have hix5 : IvOk w10 w4.heap.size Y := hix.keeps (g5.keeps D4.int) (by decide)
        clear D4 h5 g5 HX4' hix
        rw [(HSIMP.out Y.it).1]
        obtain ⟨nn, hnn⟩ : ∃ nn, nn = putRN (mat rs) lev q Y.it := ⟨_, rfl⟩
        rw [← hnn]
        have HNN : Hid (putRN (mat rs) lev q Y.it = nn) := hnn.symm
        clear hnn
        have hE10 : Ext w w10 := HX4.out.trans ((HP5.out.trans (HX5.out.mono (Nat.le_refl _))).mono HB4.out)
        obtain ⟨ad', hA', p0, p1, p2, p3, p4⟩ := RowsIv.get (RowsAt.ext HS.out hE10) hlt
        injection hA' with hA'
        subst hA'
        rw [← HY.out] at p0 p1 p2 p3 p4
        clear hE10
        go_wp2_with fail
        have hp := rfPut_any D5.ref Y hix5 hrf HL.out
        rw [hgr] at hp
        refine hp.mono ?_
        clear hp p0 p1 p2 p3 p4
        rintro e w11 ⟨v2, zs2, r2, rfl, hown2, hits2, hzs2, h6, g6⟩
        obtain ⟨Av2, cv2, rfl⟩ := hown2.form
        rw [HNN.out]
        have D6 := D5.rfStep g6 h6
        have HX6 := Lib.hid (HX5.out.trans g6.below)
        have hown1' := hown1.mods g6.mods (fun b hb e => by have := (hown1.typed hb).1; omega)
        have hzs1' : ∀ y ∈ zs1, IvOk w11 w4.heap.size y := fun y hy => (hzs1 y hy).keeps (g6.keeps D5.ref) (by decide)
        have HGR : Hid (r2.g = gr) := g6.g.trans hgr
        have HSAME : Hid (itsSame zs1 zs2 = true) := itsSame_eq9 (by rw [hits1, hits2, (HSIMP.out Y.it).2.1])
        have HS6 : Hid (Sim (putSt (mat rs) lev s Y.it).1 (putRSt (mat rs) lev q Y.it).1 ∧ RfInv (putRSt (mat rs) lev q Y.it).1 ∧ IntInv (putSt (mat rs) lev s Y.it).1 (k + 1) ∧ 0 ≤ (putSt (mat rs) lev s Y.it).1.first ∧ (putSt (mat rs) lev s Y.it).1.first ≤ 1000001) :=
          ⟨(HSIMP.out Y.it).2.2, hrf.put _ _ _, hinv.put _ _, by rw [put_first]; exact hf0, by rw [put_first]; exact hf1⟩
        clear D5 h6 g6 HX5 hown1 hzs1 hix5 hsim hrf hinv hf0 hf1 hits1 hits2 HSIMP hgr hrl
        obtain ⟨S6, hS6⟩ : ∃ S6, S6 = (putSt (mat rs) lev s Y.it).1 := ⟨_, rfl⟩
        obtain ⟨Q6, hQ6⟩ : ∃ Q6, Q6 = (putRSt (mat rs) lev q Y.it).1 := ⟨_, rfl⟩
        rw [← hS6, ← hQ6] at D6 HS6
        clear hS6 hQ6
        have hlz1 : zs1.length ≤ 9223372036854775807 := by
          rcases hown1'.2 with ⟨_, h0⟩ | ⟨_, cap, _, _, _, _, h1, h2, _⟩
          · omega
          · simp only [maxLen] at h2; omega
        obtain ⟨hy, o1, o2, _⟩ := D6.ref.helds
        obtain ⟨Ah, ch, hv'⟩ := o1.form
        have g8 := D6.ref.blk.cell 8
        rw [D6.ref.heldc, hv', HGR.out] at g8
        have HLH : Hid (S6.cnt = hy.length) := by
          show _ = _
          rw [HS6.out.1.cnt, ← o2, its_length]
        have y0 := fun x' (hx : Ext w11 x') => ext_cell hx g8
        clear o1 o2 hv' g8
        go_upto_region 15 with fail
        refine wp_region_planH3 (.reads 0 (.reads 1 (.makes 2 (.reads 3 (.reads 4 (.reads 5 (.reads 6 (.reads 7 (.reads 8 (.reads 9 (.reads 10 (.reads 12 (.reads 13 (.reads 14 (.reads 15 (.reads 16 (.makes 11 (.reads 17 (.reads 18 (.reads 19 (.reads 20 (.reads 21 (.reads 23 (.reads 24 (.makes 22 (.makes 25 (.reads 26 (.reads 27 (.reads 28 (.reads 29 (.reads 30 (.reads 32 (.reads 33 (.makes 31 (.makes 34 (.makes 35 (.reads 36 (.reads 37 (.done))))))))))))))))))))))))))))))))))))))) (by kernel_rfl) (by kernel_rfl) (fun x' => Ext w11 x') (ext_drewN w11 1) (fun ops HOPS => ?_)
        (refine segH_pure _ _ _ _ _ _ (hid_get HOPS 0 _ rfl) rfl wanted_none (fun _ _ _ _ h => h) ?_; intro K hK; go_big_quiet_op; go_big_quiet_on)
        (refine segH_pure _ _ _ _ _ _ (hid_get HOPS 1 _ rfl) rfl wanted_none (fun _ _ _ _ h => h) ?_; intro K hK; go_big_quiet_op; go_big_quiet_on)
        refine segH_makes _ _ _ _ _ _ (hid_get HOPS 2 _ rfl) wanted_none (fun K hK => ?_)
        go_big_op
        have P0 : Ext w11 w11.drew := ext_drewN w11 1
        refine (refSameAll_any Av1 Av2 cv1 cv2 zs1 zs2 _ w4.heap.size w4.heap.size ((hown1'.ext P0).rows (B := w4.heap.size)) ((hown2.ext P0).rows (B := w4.heap.size)) (fun y hy => (hzs1' y hy).ext P0) (fun y hy => (hzs2 y hy).ext P0) hlz1).mono ?_
        rintro e w12 ⟨rfl, x12⟩
        rw [HSAME.out]
        have P1 := ext_trans P0 x12
        refine hK _ _ (fun x' => Ext w11 x') P1 (fun _ h => h) ?_
        clear hK x12
        (refine segH_pure _ _ _ _ _ _ (hid_get HOPS 3 _ rfl) rfl wanted_none (fun _ _ _ _ h => h) ?_; intro K hK; go_big_quiet_op; go_big_quiet_on)
        (refine segH_pure _ _ _ _ _ _ (hid_get HOPS 4 _ rfl) rfl wanted_none (fun _ _ _ _ h => h) ?_; intro K hK; go_big_quiet_op; go_big_quiet_on)
        first | (refine segH_pass _ _ _ _ _ _ (hid_get HOPS 5 _ rfl) (wanted_some (hid_get HOPS 4 _ rfl) rfl rfl rfl) (fun _ _ _ _ h => h) ?_; simp only [Act.put, List.setIfInBounds_toArray, List.set_cons_zero, List.set_cons_succ]) | (refine segH_pure _ _ _ _ _ _ (hid_get HOPS 5 _ rfl) rfl (wanted_some (hid_get HOPS 4 _ rfl) rfl rfl rfl) (fun _ _ _ _ h => h) ?_; intro K hK; go_big_quiet_op; go_big_quiet_on) | (refine segH_pass _ _ _ _ _ _ (hid_get HOPS 5 _ rfl) (wanted_gone (hid_get HOPS 4 _ rfl) rfl rfl) (fun _ _ _ _ h => h) ?_; simp only [Act.put, List.setIfInBounds_toArray, List.set_cons_zero, List.set_cons_succ])
        first | (refine segH_pass _ _ _ _ _ _ (hid_get HOPS 6 _ rfl) (wanted_some (hid_get HOPS 4 _ rfl) rfl rfl rfl) (fun _ _ _ _ h => h) ?_; simp only [Act.put, List.setIfInBounds_toArray, List.set_cons_zero, List.set_cons_succ]) | (refine segH_pure _ _ _ _ _ _ (hid_get HOPS 6 _ rfl) rfl (wanted_some (hid_get HOPS 4 _ rfl) rfl rfl rfl) (fun _ _ _ _ h => h) ?_; intro K hK; go_big_quiet_op; go_big_quiet_on) | (refine segH_pass _ _ _ _ _ _ (hid_get HOPS 6 _ rfl) (wanted_gone (hid_get HOPS 4 _ rfl) rfl rfl) (fun _ _ _ _ h => h) ?_; simp only [Act.put, List.setIfInBounds_toArray, List.set_cons_zero, List.set_cons_succ])
        first | (refine segH_pass _ _ _ _ _ _ (hid_get HOPS 7 _ rfl) (wanted_some (hid_get HOPS 4 _ rfl) rfl rfl rfl) (fun _ _ _ _ h => h) ?_; simp only [Act.put, List.setIfInBounds_toArray, List.set_cons_zero, List.set_cons_succ]) | (refine segH_pure _ _ _ _ _ _ (hid_get HOPS 7 _ rfl) rfl (wanted_some (hid_get HOPS 4 _ rfl) rfl rfl rfl) (fun _ _ _ _ h => h) ?_; intro K hK; go_big_quiet_op; go_big_quiet_on) | (refine segH_pass _ _ _ _ _ _ (hid_get HOPS 7 _ rfl) (wanted_gone (hid_get HOPS 4 _ rfl) rfl rfl) (fun _ _ _ _ h => h) ?_; simp only [Act.put, List.setIfInBounds_toArray, List.set_cons_zero, List.set_cons_succ])
        (refine segH_pure _ _ _ _ _ _ (hid_get HOPS 8 _ rfl) rfl wanted_none (fun _ _ _ _ h => h) ?_; intro K hK; go_big_quiet_op; go_big_quiet_on)
        (refine segH_pure _ _ _ _ _ _ (hid_get HOPS 9 _ rfl) rfl wanted_none (fun _ _ _ _ h => h) ?_; intro K hK; go_big_quiet_op; go_big_quiet_on)
        first | (refine segH_pass _ _ _ _ _ _ (hid_get HOPS 10 _ rfl) (wanted_some (hid_get HOPS 9 _ rfl) rfl rfl rfl) (fun _ _ _ _ h => h) ?_; simp only [Act.put, List.setIfInBounds_toArray, List.set_cons_zero, List.set_cons_succ]) | (refine segH_pure _ _ _ _ _ _ (hid_get HOPS 10 _ rfl) rfl (wanted_some (hid_get HOPS 9 _ rfl) rfl rfl rfl) (fun _ _ _ _ h => h) ?_; intro K hK; go_big_quiet_op; go_big_quiet_on) | (refine segH_pass _ _ _ _ _ _ (hid_get HOPS 10 _ rfl) (wanted_gone (hid_get HOPS 9 _ rfl) rfl rfl) (fun _ _ _ _ h => h) ?_; simp only [Act.put, List.setIfInBounds_toArray, List.set_cons_zero, List.set_cons_succ])
        first | (refine segH_pass _ _ _ _ _ _ (hid_get HOPS 12 _ rfl) (wanted_some (hid_get HOPS 9 _ rfl) rfl rfl rfl) (fun _ _ _ _ h => h) ?_; simp only [Act.put, List.setIfInBounds_toArray, List.set_cons_zero, List.set_cons_succ]) | (refine segH_pure _ _ _ _ _ _ (hid_get HOPS 12 _ rfl) rfl (wanted_some (hid_get HOPS 9 _ rfl) rfl rfl rfl) (fun _ _ _ _ h => h) ?_; intro K hK; go_big_quiet_op; go_big_quiet_on) | (refine segH_pass _ _ _ _ _ _ (hid_get HOPS 12 _ rfl) (wanted_gone (hid_get HOPS 9 _ rfl) rfl rfl) (fun _ _ _ _ h => h) ?_; simp only [Act.put, List.setIfInBounds_toArray, List.set_cons_zero, List.set_cons_succ])
        first | (refine segH_pass _ _ _ _ _ _ (hid_get HOPS 13 _ rfl) (wanted_some (hid_get HOPS 9 _ rfl) rfl rfl rfl) (fun _ _ _ _ h => h) ?_; simp only [Act.put, List.setIfInBounds_toArray, List.set_cons_zero, List.set_cons_succ]) | (refine segH_nil _ _ _ _ _ _ _ (hid_get HOPS 13 _ rfl) (wanted_some (hid_get HOPS 9 _ rfl) rfl rfl rfl) rfl (fun _ _ _ _ h => h) ?_; simp only [Act.put, List.setIfInBounds_toArray, List.set_cons_zero, List.set_cons_succ]) | (refine segH_pass _ _ _ _ _ _ (hid_get HOPS 13 _ rfl) (wanted_gone (hid_get HOPS 9 _ rfl) rfl rfl) (fun _ _ _ _ h => h) ?_; simp only [Act.put, List.setIfInBounds_toArray, List.set_cons_zero, List.set_cons_succ])
        first | (refine segH_pass _ _ _ _ _ _ (hid_get HOPS 14 _ rfl) (wanted_some (hid_get HOPS 9 _ rfl) rfl rfl rfl) (fun _ _ _ _ h => h) ?_; simp only [Act.put, List.setIfInBounds_toArray, List.set_cons_zero, List.set_cons_succ]) | (refine segH_pure _ _ _ _ _ _ (hid_get HOPS 14 _ rfl) rfl (wanted_some (hid_get HOPS 9 _ rfl) rfl rfl rfl) (fun _ _ _ _ h => h) ?_; intro K hK; go_big_quiet_op; go_big_quiet_on) | (refine segH_pass _ _ _ _ _ _ (hid_get HOPS 14 _ rfl) (wanted_gone (hid_get HOPS 9 _ rfl) rfl rfl) (fun _ _ _ _ h => h) ?_; simp only [Act.put, List.setIfInBounds_toArray, List.set_cons_zero, List.set_cons_succ])
        first | (refine segH_pass _ _ _ _ _ _ (hid_get HOPS 15 _ rfl) (wanted_some (hid_get HOPS 9 _ rfl) rfl rfl rfl) (fun _ _ _ _ h => h) ?_; simp only [Act.put, List.setIfInBounds_toArray, List.set_cons_zero, List.set_cons_succ]) | (refine segH_load _ _ _ _ _ _ _ _ _ (hid_get HOPS 15 _ rfl) (wanted_some (hid_get HOPS 9 _ rfl) rfl rfl rfl) rfl (fun _ _ _ _ h => h) (fun y hy => by go_simp; try with_reducible rfl) ?_; simp only [Act.put, List.setIfInBounds_toArray, List.set_cons_zero, List.set_cons_succ]) | (refine segH_pass _ _ _ _ _ _ (hid_get HOPS 15 _ rfl) (wanted_gone (hid_get HOPS 9 _ rfl) rfl rfl) (fun _ _ _ _ h => h) ?_; simp only [Act.put, List.setIfInBounds_toArray, List.set_cons_zero, List.set_cons_succ])
        first | (refine segH_pass _ _ _ _ _ _ (hid_get HOPS 16 _ rfl) (wanted_some (hid_get HOPS 9 _ rfl) rfl rfl rfl) (fun _ _ _ _ h => h) ?_; simp only [Act.put, List.setIfInBounds_toArray, List.set_cons_zero, List.set_cons_succ]) | (refine segH_pure _ _ _ _ _ _ (hid_get HOPS 16 _ rfl) rfl (wanted_some (hid_get HOPS 9 _ rfl) rfl rfl rfl) (fun _ _ _ _ h => h) ?_; intro K hK; go_big_quiet_op; go_big_quiet_on) | (refine segH_pass _ _ _ _ _ _ (hid_get HOPS 16 _ rfl) (wanted_gone (hid_get HOPS 9 _ rfl) rfl rfl) (fun _ _ _ _ h => h) ?_; simp only [Act.put, List.setIfInBounds_toArray, List.set_cons_zero, List.set_cons_succ])
        refine segH_makes _ _ _ _ _ _ (hid_get HOPS 11 _ rfl) (wanted_some (hid_get HOPS 9 _ rfl) rfl rfl rfl) (fun K hK => ?_)
        go_big_op
        have hp := intHeld_any (D6.int.ext P1)
        rw [HGA.out, HLH.out] at hp
        refine hp.mono ?_
        clear hp
        rintro e w13 ⟨rfl, rfl⟩
        refine hK _ _ (fun x' => Ext w11 x') P1 (fun _ h => h) ?_
        clear hK
        first | (refine segH_pass _ _ _ _ _ _ (hid_get HOPS 17 _ rfl) (wanted_some (hid_get HOPS 9 _ rfl) rfl rfl rfl) (fun _ _ _ _ h => h) ?_; simp only [Act.put, List.setIfInBounds_toArray, List.set_cons_zero, List.set_cons_succ]) | (refine segH_pure _ _ _ _ _ _ (hid_get HOPS 17 _ rfl) rfl (wanted_some (hid_get HOPS 9 _ rfl) rfl rfl rfl) (fun _ _ _ _ h => h) ?_; intro K hK; go_big_quiet_op; go_big_quiet_on) | (refine segH_pass _ _ _ _ _ _ (hid_get HOPS 17 _ rfl) (wanted_gone (hid_get HOPS 9 _ rfl) rfl rfl) (fun _ _ _ _ h => h) ?_; simp only [Act.put, List.setIfInBounds_toArray, List.set_cons_zero, List.set_cons_succ])
        (refine segH_pure _ _ _ _ _ _ (hid_get HOPS 18 _ rfl) rfl wanted_none (fun _ _ _ _ h => h) ?_; intro K hK; go_big_quiet_op; go_big_quiet_on)
        (refine segH_pure _ _ _ _ _ _ (hid_get HOPS 19 _ rfl) rfl wanted_none (fun _ _ _ _ h => h) ?_; intro K hK; go_big_quiet_op; go_big_quiet_on)
        first | (refine segH_pass _ _ _ _ _ _ (hid_get HOPS 20 _ rfl) (wanted_some (hid_get HOPS 19 _ rfl) rfl rfl rfl) (fun _ _ _ _ h => h) ?_; simp only [Act.put, List.setIfInBounds_toArray, List.set_cons_zero, List.set_cons_succ]) | (refine segH_pure _ _ _ _ _ _ (hid_get HOPS 20 _ rfl) rfl (wanted_some (hid_get HOPS 19 _ rfl) rfl rfl rfl) (fun _ _ _ _ h => h) ?_; intro K hK; go_big_quiet_op; go_big_quiet_on) | (refine segH_pass _ _ _ _ _ _ (hid_get HOPS 20 _ rfl) (wanted_gone (hid_get HOPS 19 _ rfl) rfl rfl) (fun _ _ _ _ h => h) ?_; simp only [Act.put, List.setIfInBounds_toArray, List.set_cons_zero, List.set_cons_succ])
        first | (refine segH_pass _ _ _ _ _ _ (hid_get HOPS 21 _ rfl) (wanted_some (hid_get HOPS 19 _ rfl) rfl rfl rfl) (fun _ _ _ _ h => h) ?_; simp only [Act.put, List.setIfInBounds_toArray, List.set_cons_zero, List.set_cons_succ]) | (refine segH_pure _ _ _ _ _ _ (hid_get HOPS 21 _ rfl) rfl (wanted_some (hid_get HOPS 19 _ rfl) rfl rfl rfl) (fun _ _ _ _ h => h) ?_; intro K hK; go_big_quiet_op; go_big_quiet_on) | (refine segH_pass _ _ _ _ _ _ (hid_get HOPS 21 _ rfl) (wanted_gone (hid_get HOPS 19 _ rfl) rfl rfl) (fun _ _ _ _ h => h) ?_; simp only [Act.put, List.setIfInBounds_toArray, List.set_cons_zero, List.set_cons_succ])
        first | (refine segH_pass _ _ _ _ _ _ (hid_get HOPS 23 _ rfl) (wanted_some (hid_get HOPS 19 _ rfl) rfl rfl rfl) (fun _ _ _ _ h => h) ?_; simp only [Act.put, List.setIfInBounds_toArray, List.set_cons_zero, List.set_cons_succ]) | (refine segH_pure _ _ _ _ _ _ (hid_get HOPS 23 _ rfl) rfl (wanted_some (hid_get HOPS 19 _ rfl) rfl rfl rfl) (fun _ _ _ _ h => h) ?_; intro K hK; go_big_quiet_op; go_big_quiet_on) | (refine segH_pass _ _ _ _ _ _ (hid_get HOPS 23 _ rfl) (wanted_gone (hid_get HOPS 19 _ rfl) rfl rfl) (fun _ _ _ _ h => h) ?_; simp only [Act.put, List.setIfInBounds_toArray, List.set_cons_zero, List.set_cons_succ])
        first | (refine segH_pass _ _ _ _ _ _ (hid_get HOPS 24 _ rfl) (wanted_some (hid_get HOPS 19 _ rfl) rfl rfl rfl) (fun _ _ _ _ h => h) ?_; simp only [Act.put, List.setIfInBounds_toArray, List.set_cons_zero, List.set_cons_succ]) | (refine segH_pure _ _ _ _ _ _ (hid_get HOPS 24 _ rfl) rfl (wanted_some (hid_get HOPS 19 _ rfl) rfl rfl rfl) (fun _ _ _ _ h => h) ?_; intro K hK; go_big_quiet_op; go_big_quiet_on) | (refine segH_pass _ _ _ _ _ _ (hid_get HOPS 24 _ rfl) (wanted_gone (hid_get HOPS 19 _ rfl) rfl rfl) (fun _ _ _ _ h => h) ?_; simp only [Act.put, List.setIfInBounds_toArray, List.set_cons_zero, List.set_cons_succ])
        refine segH_makes _ _ _ _ _ _ (hid_get HOPS 22 _ rfl) (wanted_some (hid_get HOPS 19 _ rfl) rfl rfl rfl) (fun K hK => ?_)
        go_big_op
        have hp := intReady_any (D6.int.ext P1) t HL.out
        rw [HGA.out, HS6.out.1.ready] at hp
        refine hp.mono ?_
        clear hp
        rintro e w13 ⟨rfl, x13⟩
        have P2 := ext_trans P1 x13
        obtain ⟨rd, hrd⟩ : ∃ rd, Hid (rdR (mat rs) Q6 lev t = rd) := ⟨_, rfl⟩
        rw [hrd.out]
        refine hK _ _ (fun x' => Ext w11 x') P2 (fun _ h => h) ?_
        clear hK
        refine segH_makes _ _ _ _ _ _ (hid_get HOPS 25 _ rfl) (wanted_some (hid_get HOPS 19 _ rfl) rfl rfl rfl) (fun K hK => ?_)
        go_big_op
        have hp := rfReady_any (D6.ref.ext P2) t HL.out
        rw [HGR.out, hrd.out] at hp
        refine hp.mono ?_
        clear hp
        rintro e w14 ⟨rfl, x14⟩
        have P3 := ext_trans P2 x14
        refine hK _ _ (fun x' => Ext w11 x') P3 (fun _ h => h) ?_
        clear hK
        first | (refine segH_pass _ _ _ _ _ _ (hid_get HOPS 26 _ rfl) (wanted_some (hid_get HOPS 19 _ rfl) rfl rfl rfl) (fun _ _ _ _ h => h) ?_; simp only [Act.put, List.setIfInBounds_toArray, List.set_cons_zero, List.set_cons_succ]) | (refine segH_pure _ _ _ _ _ _ (hid_get HOPS 26 _ rfl) rfl (wanted_some (hid_get HOPS 19 _ rfl) rfl rfl rfl) (fun _ _ _ _ h => h) ?_; intro K hK; go_big_quiet_op; go_big_quiet_on) | (refine segH_pass _ _ _ _ _ _ (hid_get HOPS 26 _ rfl) (wanted_gone (hid_get HOPS 19 _ rfl) rfl rfl) (fun _ _ _ _ h => h) ?_; simp only [Act.put, List.setIfInBounds_toArray, List.set_cons_zero, List.set_cons_succ])
        (refine segH_pure _ _ _ _ _ _ (hid_get HOPS 27 _ rfl) rfl wanted_none (fun _ _ _ _ h => h) ?_; intro K hK; go_big_quiet_op; go_big_quiet_on)
        (refine segH_pure _ _ _ _ _ _ (hid_get HOPS 28 _ rfl) rfl wanted_none (fun _ _ _ _ h => h) ?_; intro K hK; go_big_quiet_op; go_big_quiet_on)
        first | (refine segH_pass _ _ _ _ _ _ (hid_get HOPS 29 _ rfl) (wanted_some (hid_get HOPS 28 _ rfl) rfl rfl rfl) (fun _ _ _ _ h => h) ?_; simp only [Act.put, List.setIfInBounds_toArray, List.set_cons_zero, List.set_cons_succ]) | (refine segH_pure _ _ _ _ _ _ (hid_get HOPS 29 _ rfl) rfl (wanted_some (hid_get HOPS 28 _ rfl) rfl rfl rfl) (fun _ _ _ _ h => h) ?_; intro K hK; go_big_quiet_op; go_big_quiet_on) | (refine segH_pass _ _ _ _ _ _ (hid_get HOPS 29 _ rfl) (wanted_gone (hid_get HOPS 28 _ rfl) rfl rfl) (fun _ _ _ _ h => h) ?_; simp only [Act.put, List.setIfInBounds_toArray, List.set_cons_zero, List.set_cons_succ])
        first | (refine segH_pass _ _ _ _ _ _ (hid_get HOPS 30 _ rfl) (wanted_some (hid_get HOPS 28 _ rfl) rfl rfl rfl) (fun _ _ _ _ h => h) ?_; simp only [Act.put, List.setIfInBounds_toArray, List.set_cons_zero, List.set_cons_succ]) | (refine segH_pure _ _ _ _ _ _ (hid_get HOPS 30 _ rfl) rfl (wanted_some (hid_get HOPS 28 _ rfl) rfl rfl rfl) (fun _ _ _ _ h => h) ?_; intro K hK; go_big_quiet_op; go_big_quiet_on) | (refine segH_pass _ _ _ _ _ _ (hid_get HOPS 30 _ rfl) (wanted_gone (hid_get HOPS 28 _ rfl) rfl rfl) (fun _ _ _ _ h => h) ?_; simp only [Act.put, List.setIfInBounds_toArray, List.set_cons_zero, List.set_cons_succ])
        first | (refine segH_pass _ _ _ _ _ _ (hid_get HOPS 32 _ rfl) (wanted_some (hid_get HOPS 28 _ rfl) rfl rfl rfl) (fun _ _ _ _ h => h) ?_; simp only [Act.put, List.setIfInBounds_toArray, List.set_cons_zero, List.set_cons_succ]) | (refine segH_pure _ _ _ _ _ _ (hid_get HOPS 32 _ rfl) rfl (wanted_some (hid_get HOPS 28 _ rfl) rfl rfl rfl) (fun _ _ _ _ h => h) ?_; intro K hK; go_big_quiet_op; go_big_quiet_on) | (refine segH_pass _ _ _ _ _ _ (hid_get HOPS 32 _ rfl) (wanted_gone (hid_get HOPS 28 _ rfl) rfl rfl) (fun _ _ _ _ h => h) ?_; simp only [Act.put, List.setIfInBounds_toArray, List.set_cons_zero, List.set_cons_succ])
        first | (refine segH_pass _ _ _ _ _ _ (hid_get HOPS 33 _ rfl) (wanted_some (hid_get HOPS 28 _ rfl) rfl rfl rfl) (fun _ _ _ _ h => h) ?_; simp only [Act.put, List.setIfInBounds_toArray, List.set_cons_zero, List.set_cons_succ]) | (refine segH_pure _ _ _ _ _ _ (hid_get HOPS 33 _ rfl) rfl (wanted_some (hid_get HOPS 28 _ rfl) rfl rfl rfl) (fun _ _ _ _ h => h) ?_; intro K hK; go_big_quiet_op; go_big_quiet_on) | (refine segH_pass _ _ _ _ _ _ (hid_get HOPS 33 _ rfl) (wanted_gone (hid_get HOPS 28 _ rfl) rfl rfl) (fun _ _ _ _ h => h) ?_; simp only [Act.put, List.setIfInBounds_toArray, List.set_cons_zero, List.set_cons_succ])
        refine segH_makes _ _ _ _ _ _ (hid_get HOPS 31 _ rfl) (wanted_some (hid_get HOPS 28 _ rfl) rfl rfl rfl) (fun K hK => ?_)
        go_big_op
        have hp := intOf_all (D6.int.ext P3) t HL.out
        rw [HGA.out] at hp
        refine hp.mono ?_
        clear hp
        rintro e w15 ⟨v5, zs5, rfl, hown5, hits5, hzs5, x15⟩
        have P4 := ext_trans P3 x15
        obtain ⟨Av5, cv5, rfl⟩ := hown5.form
        refine hK _ _ (fun x' => Ext w11 x') P4 (fun _ h => h) ?_
        clear hK
        refine segH_makes _ _ _ _ _ _ (hid_get HOPS 34 _ rfl) (wanted_some (hid_get HOPS 28 _ rfl) rfl rfl rfl) (fun K hK => ?_)
        go_big_op
        have hp := rfOf_any (D6.ref.ext P4) t HL.out
        rw [HGR.out] at hp
        refine hp.mono ?_
        clear hp
        rintro e w16 ⟨v6, zs6, rfl, hown6, hits6, hzs6, x16⟩
        have P5 := ext_trans P4 x16
        obtain ⟨Av6, cv6, rfl⟩ := hown6.form
        refine hK _ _ (fun x' => Ext w11 x') P5 (fun _ h => h) ?_
        clear hK
        refine segH_makes _ _ _ _ _ _ (hid_get HOPS 35 _ rfl) (wanted_some (hid_get HOPS 28 _ rfl) rfl rfl rfl) (fun K hK => ?_)
        go_big_op
        have HSM2 : Hid (itsSame zs5 zs6 = true) := itsSame_eq9 (by rw [hits5, hits6, HS6.out.1.of])
        have hlz5 : zs5.length ≤ 9223372036854775807 := by
          rcases hown5.2 with ⟨_, h0⟩ | ⟨_, cap, _, _, _, _, h1, h2, _⟩
          · omega
          · simp only [maxLen] at h2; omega
        refine (refSameAll_any Av5 Av6 cv5 cv6 zs5 zs6 w16 w4.heap.size w4.heap.size ((hown5.ext x16).rows (B := w4.heap.size)) (hown6.rows (B := w4.heap.size)) (fun y hy => (hzs5 y hy).ext x16) hzs6 hlz5).mono ?_
        rintro e w17 ⟨rfl, x17⟩
        rw [HSM2.out]
        have P6 := ext_trans P5 x17
        refine hK _ _ (fun x' => Ext w11 x') P6 (fun _ h => h) ?_
        clear hK
        first | (refine segH_pass _ _ _ _ _ _ (hid_get HOPS 36 _ rfl) (wanted_some (hid_get HOPS 28 _ rfl) rfl rfl rfl) (fun _ _ _ _ h => h) ?_; simp only [Act.put, List.setIfInBounds_toArray, List.set_cons_zero, List.set_cons_succ]) | (refine segH_pure _ _ _ _ _ _ (hid_get HOPS 36 _ rfl) rfl (wanted_some (hid_get HOPS 28 _ rfl) rfl rfl rfl) (fun _ _ _ _ h => h) ?_; intro K hK; go_big_quiet_op; go_big_quiet_on) | (refine segH_pass _ _ _ _ _ _ (hid_get HOPS 36 _ rfl) (wanted_gone (hid_get HOPS 28 _ rfl) rfl rfl) (fun _ _ _ _ h => h) ?_; simp only [Act.put, List.setIfInBounds_toArray, List.set_cons_zero, List.set_cons_succ])
        (refine segH_pure _ _ _ _ _ _ (hid_get HOPS 37 _ rfl) rfl wanted_none (fun _ _ _ _ h => h) ?_; intro K hK; go_big_quiet_op; go_big_quiet_on)
        refine seg_done ?_
        clear HOPS
        have D7 := D6.ext P6
        have HX7 := Lib.hid (HX6.out.trans (P6.mono D6.int.base_le))
        clear y0 P0 P1 P2 P3 P4 P5 P6 x13 x14 x15 x16 x17 hown5 hown6 hits5 hits6 hzs5 hzs6 hlz5 HSM2 D6 HX6 hown1' hown2 hzs1' hzs2 HSAME hlz1 HLH
        clear w16 w15 w14 w13 w12
        have hd0 := HTB.out.2.1
        have hd1 := HTB.out.2.2
        obtain ⟨dm, hdm⟩ : ∃ dm : Nat, d % 64 = (dm : Int) := ⟨(d % 64).toNat, by omega⟩
        have hdm6 : dm ≤ 63 := by omega
        by_cases hkd : k = dm
        · subst hkd
          go_upto_region 18 with fail
          clear hdm hd0 hd1
          go_wp2_with fail
          have hp := intDrop_any D7.int t HTB.out.1 HS6.out.2.2.2
          rw [HGA.out] at hp
          refine hp.mono ?_
          clear hp
          rintro e w18 ⟨rfl, m7, h7, g7⟩
          have D8 := D7.intStep g7 h7
          have HX8 := Lib.hid (HX7.out.trans g7.below)
          have HGA7 : Hid (m7.ga = gm) := g7.ga.trans HGA.out
          clear D7 HX7 h7 g7 HGA
          go_wp2_with fail
          have hp := rfDrop_any D8.ref t HTB.out.1
          rw [HGR.out] at hp
          refine hp.mono ?_
          clear hp
          rintro e w19 ⟨rfl, r7, h8, g8⟩
          have DD := D8.rfStep g8 h8
          have HXB := Lib.hid (HX8.out.trans g8.below)
          have HGR7 : Hid (r7.g = gr) := g8.g.trans HGR.out
          have HSIM := Lib.hid (HS6.out.1.drop HS6.out.2.2.2.2 t)
          have HPLI : Hid (PLI w19 w4.heap.size A c rs lev (.pointer (some ⟨gm, 0, none⟩)) gr (k + 1)) := ⟨m7, _, r7, _, by rw [HGA7.out], HGR7.out, DD, HSIM.out, HS6.out.2.1.drop t, HS6.out.2.2.1.drop t, (drop_first HS6.out.2.2.2 t).1, (drop_first HS6.out.2.2.2 t).2⟩
          clear D8 HX8 h8 g8 HGR
          have HGA := HGA7
          have HGR := HGR7
          clear HGA7 HGR7
          go_upto_region 20 with fail
          go_wp2_with fail
          go_loopw [19] (fun i wz => ∃ z : Int, i = .int .i64 z ∧ -1 ≤ z ∧ z ≤ 7 ∧ w19 = wz) (fun i _ => (7 - intOf i).toNat)
          case atStart => exact ⟨-1, rfl, by omega, by omega, rfl⟩
          case round =>
            obtain ⟨z, rfl, hz1, hz2, rfl⟩ := hrel
            by_cases hz : z ≤ 6
            · have HHVZ := Lib.hid (HSIM.out.have_ z)
              have HOVZ := Lib.hid (HSIM.out.over_ z)
              obtain ⟨hv, hhv⟩ : ∃ hv, hv = rfHave (rfDrop Q6 t) z := ⟨_, rfl⟩
              obtain ⟨ov, hov⟩ : ∃ ov, ov = rfOver (rfDrop Q6 t) z := ⟨_, rfl⟩
              rw [← hhv] at HHVZ
              rw [← hov] at HOVZ
              have H1 : Hid (rfHave (rfDrop Q6 t) z = hv) := hhv.symm
              have H2 : Hid (rfOver (rfDrop Q6 t) z = ov) := hov.symm
              clear hhv hov
              have hwz : IntKind.i64.wrap (z + 1) = z + 1 := IntWalk.i64_in _ (by omega)
              go_wp2_with fail
              have hp := intHave_any DD.int z
              rw [HGA.out] at hp
              refine hp.mono ?_
              clear hp
              rintro e u1 ⟨rfl, rfl⟩
              rw [HHVZ.out]
              go_wp2_with fail
              have hp := rfHave_any DD.ref z
              rw [HGR.out] at hp
              refine hp.mono ?_
              clear hp
              rintro e u1 ⟨rfl, rfl⟩
              rw [H1.out]
              go_wp2_with fail
              have hp := intOver_any DD.int z
              rw [HGA.out] at hp
              refine hp.mono ?_
              clear hp
              rintro e u1 ⟨rfl, rfl⟩
              rw [HOVZ.out]
              go_wp2_with fail
              have hp := rfOver_any DD.ref z
              rw [HGR.out] at hp
              refine hp.mono ?_
              clear hp
              rintro e u1 ⟨rfl, rfl⟩
              rw [H2.out]
              go_wp2_with fail
              go_roundw
              case rel => exact ⟨z + 1, by go_num, by omega, by omega, by first | rfl | trivial⟩
              case measure => simp [intOf]; omega
            · have hwk : IntKind.i64.wrap ((k : Int) + 1) = (k : Int) + 1 := IntWalk.i64_in _ (by omega)
              go_wp2_with fail
              go_roundw
              case rel => exact ⟨k + 1, hlt, by go_num, HPLI.out, HXB.out⟩
              case measure => simp [intOf]; omega
        · have hkb : ((k : Int) == (dm : Int)) = false := by
            rw [beq_eq_false_iff_ne]; omega
          have DD := D7
          have HXB := HX7
          have HSIM := Lib.hid HS6.out.1
          have HPLI : Hid (PLI w17 w4.heap.size A c rs lev (.pointer (some ⟨gm, 0, none⟩)) gr (k + 1)) := ⟨m5, _, r2, _, by rw [HGA.out], HGR.out, DD, HSIM.out, HS6.out.2.1, HS6.out.2.2.1, HS6.out.2.2.2.1, HS6.out.2.2.2.2⟩
          clear D7 HX7
          go_upto_region 20 with fail
          clear hkb hkd hdm hd0 hd1
          go_wp2_with fail
          go_loopw [19] (fun i wz => ∃ z : Int, i = .int .i64 z ∧ -1 ≤ z ∧ z ≤ 7 ∧ w17 = wz) (fun i _ => (7 - intOf i).toNat)
          case atStart => exact ⟨-1, rfl, by omega, by omega, rfl⟩
          case round =>
            obtain ⟨z, rfl, hz1, hz2, rfl⟩ := hrel
            by_cases hz : z ≤ 6
            · have HHVZ := Lib.hid (HSIM.out.have_ z)
              have HOVZ := Lib.hid (HSIM.out.over_ z)
              obtain ⟨hv, hhv⟩ : ∃ hv, hv = rfHave (Q6) z := ⟨_, rfl⟩
              obtain ⟨ov, hov⟩ : ∃ ov, ov = rfOver (Q6) z := ⟨_, rfl⟩
              rw [← hhv] at HHVZ
              rw [← hov] at HOVZ
              have H1 : Hid (rfHave (Q6) z = hv) := hhv.symm
              have H2 : Hid (rfOver (Q6) z = ov) := hov.symm
              clear hhv hov
              have hwz : IntKind.i64.wrap (z + 1) = z + 1 := IntWalk.i64_in _ (by omega)
              go_wp2_with fail
              have hp := intHave_any DD.int z
              rw [HGA.out] at hp
              refine hp.mono ?_
              clear hp
              rintro e u1 ⟨rfl, rfl⟩
              rw [HHVZ.out]
              go_wp2_with fail
              have hp := rfHave_any DD.ref z
              rw [HGR.out] at hp
              refine hp.mono ?_
              clear hp
              rintro e u1 ⟨rfl, rfl⟩
              rw [H1.out]
              go_wp2_with fail
              have hp := intOver_any DD.int z
              rw [HGA.out] at hp
              refine hp.mono ?_
              clear hp
              rintro e u1 ⟨rfl, rfl⟩
              rw [HOVZ.out]
              go_wp2_with fail
              have hp := rfOver_any DD.ref z
              rw [HGR.out] at hp
              refine hp.mono ?_
              clear hp
              rintro e u1 ⟨rfl, rfl⟩
              rw [H2.out]
              go_wp2_with fail
              go_roundw
              case rel => exact ⟨z + 1, by go_num, by omega, by omega, by first | rfl | trivial⟩
              case measure => simp [intOf]; omega
            · have hwk : IntKind.i64.wrap ((k : Int) + 1) = (k : Int) + 1 := IntWalk.i64_in _ (by omega)
              go_wp2_with fail
              go_roundw
              case rel => exact ⟨k + 1, hlt, by go_num, HPLI.out, HXB.out⟩
              case measure => simp [intOf]; omega
      · obtain rfl : k = xs.length := by omega
        go_wp2_with fail
        refine (intOf_all D.int 0 HL.out).mono ?_
        rintro e w6 ⟨v, zs, rfl, hown, hits, hzs, x6⟩
        obtain ⟨Av, cv, rfl⟩ := hown.form
        have D6 := D.ext x6
        have hp := rfOf_any D6.ref 0 HL.out
        rw [hgr] at hp
        go_wp2_with fail
        refine hp.mono ?_
        clear hp
        rintro e w7 ⟨v2, zs2, rfl, hown2, hits2, hzs2, x7⟩
        obtain ⟨Av2, cv2, rfl⟩ := hown2.form
        have hsm : itsSame zs zs2 = true := itsSame_eq9 (by rw [hits, hits2, hsim.of])
        have hlz : zs.length ≤ 9223372036854775807 := by
          rcases hown.2 with ⟨_, h0⟩ | ⟨_, cap, _, _, _, _, h1, h2, _⟩
          · omega
          · simp only [maxLen] at h2; omega
        go_wp2_with fail
        refine (refSameAll_any Av Av2 cv cv2 zs zs2 w7 w4.heap.size w4.heap.size ((hown.ext x7).rows (B := w4.heap.size)) (hown2.rows (B := w4.heap.size)) (fun y hy => (hzs y hy).ext x7) hzs2 hlz).mono ?_
        rintro e w8 ⟨rfl, x8⟩
        rw [hsm]
        go_wp2
        go_ret
        exact ⟨rfl, ext_trans (ext_trans (ext_trans hEw x6) x7) x8⟩
end Go.Proofs.Ytdknkbpgkkakhaa
