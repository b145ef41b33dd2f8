/- Layer 22: RoadLattice, walked. -/
import Derived.Test.YtdknkbpgkkakhaaRoad12
namespace Go.Proofs.Ytdknkbpgkkakhaa
open Go.RowKit
open Go.ChangeMaps (setBlock)

def RoadAtS (w : World) (B : Nat) (A : Option Addr) (c : Nat) (rs : List Rw) (ra : Nat) (R : RoadSt → Prop) : Prop := ∃ m s, m.ra = ra ∧ RoadAt w B A c rs m s ∧ R s
theorem RoadAtS.ext {w w' : World} {B : Nat} {A : Option Addr} {c : Nat} {rs : List Rw} {ra : Nat} {R : RoadSt → Prop} (h : RoadAtS w B A c rs ra R) (k : Ext w w') : RoadAtS w' B A c rs ra R := by
  obtain ⟨m, s, h1, h2, h3⟩ := h
  exact ⟨m, s, h1, h2.ext k, h3⟩
theorem RoadAtS.le_size {w : World} {B : Nat} {A : Option Addr} {c : Nat} {rs : List Rw} {ra : Nat} {R : RoadSt → Prop} (h : RoadAtS w B A c rs ra R) : B ≤ w.heap.size := by
  obtain ⟨m, s, h1, h2, h3⟩ := h
  exact Nat.le_trans h2.base.1 (Nat.le_of_lt h2.blk.lt)

set_option maxRecDepth 100000 in
set_option maxHeartbeats 8000000 in
theorem roadLattice_walk (A : Option Addr) (c : Nat) (rs : List Rw) (w : World) (hM : MatAt w w.heap.size A rs) (hl : rs.length ≤ 9223372036854775807) :
    Calls Try.prog 15 #[.agg #[.slice A rs.length c]] w fun e w' => e = .returned (.bool true) ∧ Ext w w' := by
  have x0 := ext_alloc w (.cells #[.slice A rs.length c] 53)
  have b0 := Blk.new w 53 #[.slice A rs.length c]
  have HM := Lib.hid (hM.ext x0)
  have HL := Lib.hid hl
  clear hM hl
  go_enter Try.func15, Try.ntmps15
  go_upto_region 1 with fail
  obtain ⟨g, hg⟩ : ∃ g, g = w.heap.size := ⟨_, rfl⟩
  have HG := Lib.hid hg
  rw [← hg] at b0 ⊢
  have hgl : g < (w.alloc (.cells #[.slice A rs.length c] 53)).heap.size := b0.lt
  generalize w.alloc (.cells #[.slice A rs.length c] 53) = w1 at HM b0 x0 hgl ⊢
  clear hg
  go_wp2_with fail
  refine (known22_any w1).mono ?_
  rintro e w2 ⟨rfl, y⟩
  replace b0 := b0.ext y
  have c0 := b0.cell 0
  simp only [List.getElem?_toArray, List.getElem?_cons_zero] at c0
  go_wp2_with fail
  refine (fewLat22_any A c rs w2 _ (HM.out.ext y) HL.out).mono ?_
  rintro e w3 ⟨rfl, y3⟩
  replace y := ext_trans y y3
  replace b0 := b0.ext y3
  clear y3 c0
  have c0 := b0.cell 0
  simp only [List.getElem?_toArray, List.getElem?_cons_zero] at c0
  cases hf : fewMat 8 (mat rs)
  · clear hf
    go_wp2
    go_ret
    exact ⟨rfl, ext_trans x0 y⟩
  · go_wp2_with fail
    refine (refCheck_any A c rs w3 _ (HM.out.ext y) HL.out).mono ?_
    rintro e w4 ⟨rfl, y4⟩
    replace y := ext_trans y y4
    replace b0 := b0.ext y4
    clear y4 c0 hf
    have c0 := b0.cell 0
    simp only [List.getElem?_toArray, List.getElem?_cons_zero] at c0
    by_cases hk : lchk (mat rs) = 0
    · rw [hk]
      have hlev := levels_of _ hk
      rw [mat_length] at hlev
      have h6 : rs.length ≤ 6 := by rw [← hlev]; exact levels_le _
      have HLV := Lib.hid hlev
      have H6 := Lib.hid h6
      clear hk hlev h6
      go_wp2_with fail
      have hgB : g < w4.heap.size := b0.lt
      refine (roadNew_any A c rs w4 ((HM.out.ext y).more (by rw [← HG.out]; exact Nat.le_of_lt hgB))).mono ?_
      rintro e w5 ⟨m, rfl, h, y5⟩
      have HGB := Lib.hid hgB
      have HWB := Lib.hid (ext_trans x0 y).size
      replace y := ext_trans y y5
      replace b0 := b0.ext y5
      generalize w4.heap.size = B at h HGB HWB
      clear y5 c0 hgB
      obtain ⟨ra, hra⟩ : ∃ ra, ra = m.ra := ⟨_, rfl⟩
      rw [← hra]
      have RS : RoadAtS w5 B A c rs ra (fun s => LatInv (mat rs) 0 (-1) s 0) := ⟨m, _, hra.symm, h, LatInv.new _⟩
      have HX := Lib.hid (ext_trans x0 y)
      clear h hra x0 y hgl
      go_wp2
      go_loopw [4, 5] (fun n i wr => ∃ f k : Nat, f ≤ rs.length ∧ i = .int .i64 f ∧ n = .int .i64 k ∧ RoadAtS wr B A c rs ra (fun s => LatInv (mat rs) f (-1) s k) ∧ Below B w5 wr) (fun _ i _ => rs.length - (intOf i).toNat)
      case atStart => exact ⟨0, 0, Nat.zero_le _, rfl, rfl, RS, Below.refl _ _⟩
      case round =>
        obtain ⟨f, k, hfl, rfl, rfl, RS2, hx⟩ := hrel
        clear RS
        have c0 : ∀ wi : World, Below B w5 wi → wi.cell? ⟨g, 0, none⟩ = some (.slice A rs.length c) := fun wi hb => by
          have h1 := b0.cell 0
          simp only [List.getElem?_toArray, List.getElem?_cons_zero] at h1
          exact (hb.cell (p := ⟨g, 0, none⟩) HGB.out).trans h1
        have HC0 := Lib.hid c0
        clear c0
        have c0 := HC0.out _ hx
        have h6 := H6.out
        by_cases hlt : f < rs.length
        · go_wp2
          go_loopw [4, 6] (fun n i wi => ∃ (q : Int) (k : Nat), -1 ≤ q ∧ q ≤ rs.length + 1 ∧ i = .int .i64 q ∧ n = .int .i64 k ∧ RoadAtS wi B A c rs ra (fun s => LatInv (mat rs) f q s k) ∧ Below B w5 wi) (fun _ i _ => (rs.length + 1 - intOf i).toNat)
          case atStart => exact ⟨-1, k, by omega, by omega, rfl, rfl, RS2, hx⟩
          case round =>
            clear RS2 hx c0
            obtain ⟨q, k, hq0, hq1, rfl, rfl, RS3, hx⟩ := hrel
            have c0 := HC0.out _ hx
            by_cases hq : q ≤ rs.length
            · obtain ⟨m, s, hra, h, hs⟩ := RS3
              have hkb : k ≤ 100 := by have := hs.few; omega
              have hlog : s.log.length < 1000000 := by rw [hs.log]; omega
              have hq64 : wf64 q := by
                unfold wf64
                simp [Lit.wf, IntKind.min, IntKind.max, IntKind.signed, IntKind.bits]
                omega
              have HS := Lib.hid hs
              have HLG := Lib.hid hlog
              subst hra
              clear hs hlog
              go_wp2_with fail
              refine (roadOffer_any h (shutIv f 1 0) (shutIv_ok _ _ _ _ _) hq64 HL.out HLG.out).mono ?_
              rintro e w6 ⟨rfl, m6, hra6, h6', go⟩
              have HX6 := Lib.hid (hx.trans go.below)
              have c6 := HC0.out _ HX6.out
              cases hu : labove (mat rs) q f
              · obtain ⟨e1, e2, e3⟩ := HS.out.no (by omega) hu
                rw [e1]
                rw [e2] at h6'
                have R6 : Hid (RoadAtS w6 B A c rs m.ra (fun s => LatInv (mat rs) f (q + 1) s k)) := ⟨m6, s, hra6, h6', e3⟩
                have h6m := h6'.mat
                have HU := Lib.hid hu
                clear e1 e2 e3 h go hra6 c0 hx h6' hu
                rw [show ((20 : Nat) : Int) = 20 from rfl]
                go_wp2_with fail
                refine (refAbove_any A c rs q f w6 B h6m HL.out).mono ?_
                rintro e w7 ⟨rfl, y⟩
                rw [HU.out]
                have HX7 := Lib.hid (HX6.out.trans (y.mono (R6.out.le_size)))
                have R7 : Hid (RoadAtS w7 B A c rs m.ra (fun s => LatInv (mat rs) f (q + 1) s k)) := R6.out.ext y
                clear y c6 h6m
                go_wp2
                go_roundw
                case rel => exact ⟨q + 1, k, by omega, by omega, by go_num, rfl, R7.out, HX7.out⟩
                case measure => simp [intOf]; omega
              · obtain ⟨e1, e3⟩ := HS.out.yes (by omega) hu
                rw [e1]
                have R6 : Hid (RoadAtS w6 B A c rs m.ra (fun s => LatInv (mat rs) f (q + 1) s (k + 1))) := ⟨m6, _, hra6, h6', e3⟩
                have h6m := h6'.mat
                have HU := Lib.hid hu
                clear e1 e3 h go hra6 c0 hx h6' hu
                rw [show ((0 : Nat) : Int) = 0 from rfl]
                go_wp2_with fail
                refine (refAbove_any A c rs q f w6 B h6m HL.out).mono ?_
                rintro e w7 ⟨rfl, y⟩
                rw [HU.out]
                have HX7 := Lib.hid (HX6.out.trans (y.mono (R6.out.le_size)))
                have R7 : Hid (RoadAtS w7 B A c rs m.ra (fun s => LatInv (mat rs) f (q + 1) s (k + 1))) := R6.out.ext y
                clear y c6 h6m
                go_wp2
                go_roundw
                case rel => exact ⟨q + 1, k + 1, by omega, by omega, by go_num, by go_num, R7.out, HX7.out⟩
                case measure => simp [intOf]; omega
            · obtain rfl : q = rs.length + 1 := by omega
              obtain ⟨m, s, h1, h2, h3⟩ := RS3
              have R4 := Lib.hid (⟨m, s, h1, h2, h3.row (by rw [HLV.out]; exact Nat.le_refl _) h6⟩ : RoadAtS _ B A c rs ra (fun s => LatInv (mat rs) (f + 1) (-1) s k))
              have HX6 := Lib.hid hx
              clear h1 h2 h3 hx
              go_wp2
              go_roundw
              case rel => exact ⟨f + 1, k, by omega, by go_num, rfl, R4.out, HX6.out⟩
              case measure => simp [intOf]; omega
        · obtain rfl : f = rs.length := by omega
          obtain ⟨m, s, rfl, h, hs⟩ := RS2
          go_wp2_with fail
          refine (roadLog_any h).mono ?_
          rintro e w7 ⟨v7, ps, rfl, hown, hps, _, y⟩
          obtain ⟨A7, c7, rfl⟩ := hown.form
          have hpl : ps.length = k := by
            have h1 := congrArg List.length hps
            rw [prs_length, hs.log] at h1
            exact h1
          rw [hpl]
          have h7 := Lib.hid (h.ext y)
          have HS : Hid (∀ b : Nat, (s.und b).length = (lbelow (mat rs) b).length) := by
            have h1 := hs
            rw [← HLV.out] at h1
            exact h1.last
          have HX7 := Lib.hid (hx.trans (y.mono (Nat.le_trans h.base.1 (Nat.le_of_lt h.blk.lt))))
          have hBw := Lib.hid (Nat.le_trans h7.out.base.1 (Nat.le_of_lt h7.out.blk.lt))
          clear h hs hown hps hpl hx y c0 hfl hlt
          go_wp2
          go_loopw [10] (fun i wr => ∃ j : Nat, j ≤ rs.length ∧ i = .int .i64 j ∧ Ext w7 wr) (fun i _ => rs.length - (intOf i).toNat)
          case atStart => exact ⟨0, Nat.zero_le _, rfl, Below.refl _ _⟩
          case round =>
            obtain ⟨j, hj, rfl, hx⟩ := hrel
            rename_i wr _
            have hxr : Ext w7 wr := hx
            have c0 := HC0.out _ (HX7.out.trans (hx.mono hBw.out))
            by_cases hlt : j < rs.length
            · go_wp2
              have hj64 : wf64 j := by
                unfold wf64
                simp [Lit.wf, IntKind.min, IntKind.max, IntKind.signed, IntKind.bits]
                omega
              have y0 := fun x' (hx' : Ext wr x') => ext_cell hx' c0
              have h8 := h7.out.ext hx
              clear c0
              refine wp_region_planH (.reads 0 (.reads 1 (.reads 4 (.reads 5 (.makes 2 (.reads 3 (.makes 6 (.reads 7 (.reads 8 (.done)))))))))) (by kernel_rfl) (by kernel_rfl) (fun x' => Ext wr x') (ext_drewN wr 1) (fun ops HOPS => ?_)
              (refine segH_pure _ _ _ _ _ _ (hid_get HOPS 0 _ rfl) rfl wanted_none (fun _ _ _ _ h => h) ?_; intro K hK; go_big_quiet_op; go_big_quiet_on)
              (refine segH_pure _ _ _ _ _ _ (hid_get HOPS 1 _ rfl) rfl wanted_none (fun _ _ _ _ h => h) ?_; intro K hK; go_big_quiet_op; go_big_quiet_on)
              (refine segH_load _ _ _ _ _ _ _ _ _ (hid_get HOPS 4 _ rfl) wanted_none rfl (fun _ _ _ _ h => h) (fun y hy => by go_simp; try with_reducible rfl) ?_; simp only [Act.put, List.setIfInBounds_toArray, List.set_cons_zero, List.set_cons_succ])
              (refine segH_pure _ _ _ _ _ _ (hid_get HOPS 5 _ rfl) rfl wanted_none (fun _ _ _ _ h => h) ?_; intro K hK; go_big_quiet_op; go_big_quiet_on)
              refine segH_makes _ _ _ _ _ _ (hid_get HOPS 2 _ rfl) wanted_none (fun K hK => ?_)
              go_big_op
              refine (roadFor_any (h8.ext (ext_drewN wr 1)) hj64).mono ?_
              rintro e w9 ⟨v9, zs, rfl, hown, hzs, _, y9⟩
              obtain ⟨A9, c9, rfl⟩ := hown.form
              have P9 := ext_trans (ext_drewN wr 1) y9
              have hz : zs.length = (lbelow (mat rs) j).length := by
                have h1 := congrArg List.length hzs
                rw [its_length, HS.out] at h1
                exact h1
              rw [hz]
              refine hK _ _ (fun x' => Ext wr x') P9 (fun _ h => h) ?_
              clear hK hown hzs hz y9
              (refine segH_pure _ _ _ _ _ _ (hid_get HOPS 3 _ rfl) rfl wanted_none (fun _ _ _ _ h => h) ?_; intro K hK; go_big_quiet_op; go_big_quiet_on)
              refine segH_makes _ _ _ _ _ _ (hid_get HOPS 6 _ rfl) wanted_none (fun K hK => ?_)
              go_big_op
              refine (refBelow_any A c rs j w9 B (h8.ext P9).mat HL.out).mono ?_
              rintro e w10 ⟨v10, rfl, hown, y10⟩
              obtain ⟨A10, c10, rfl⟩ := hown.form
              have P10 := ext_trans P9 y10
              refine hK _ _ (fun x' => Ext wr x') P10 (fun _ h => h) ?_
              clear hK hown y10
              (refine segH_pure _ _ _ _ _ _ (hid_get HOPS 7 _ rfl) rfl wanted_none (fun _ _ _ _ h => h) ?_; intro K hK; go_big_quiet_op; go_big_quiet_on)
              (refine segH_pure _ _ _ _ _ _ (hid_get HOPS 8 _ rfl) rfl wanted_none (fun _ _ _ _ h => h) ?_; intro K hK; go_big_quiet_op; go_big_quiet_on)
              refine seg_done ?_
              clear HOPS
              clear y0
              go_wp2
              go_roundw
              case rel => exact ⟨j + 1, hlt, by go_num, ext_trans hx P10⟩
              case measure => simp [intOf]; omega
            · go_wp2
              go_ret
              exact ⟨rfl, HX.out.trans ((HX7.out.trans (hx.mono hBw.out)).mono HWB.out)⟩
    · have HK : Hid (lchk (mat rs) ≠ 0) := hk
      clear hk
      have hk2 : ((lchk (mat rs) : Int) != 0) = true := by have := HK.out; simp; omega
      go_wp2
      go_ret
      exact ⟨rfl, ext_trans x0 y⟩
end Go.Proofs.Ytdknkbpgkkakhaa
