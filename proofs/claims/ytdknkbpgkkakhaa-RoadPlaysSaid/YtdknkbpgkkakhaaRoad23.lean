/- Layer 22: RoadPlays, walked. -/
import Derived.Test.YtdknkbpgkkakhaaRoad22
import Derived.Deep.CutBlock
namespace Go.Proofs.Ytdknkbpgkkakhaa
open Go.RowKit
open Go.ChangeMaps (setBlock)

/-- The state behind some steps. -/
def PL (w : World) (B : Nat) (A : Option Addr) (c : Nat) (rs : List Rw) (ra gr k : Nat) : Prop :=
  ∃ m r s, m.ra = ra ∧ r.g = gr ∧ Duo w B A c rs m r s ∧ OutInv (mat rs) s ∧ s.log.length ≤ k
theorem PL.ext {w w' : World} {B : Nat} {A : Option Addr} {c : Nat} {rs : List Rw} {ra gr k : Nat} (h : PL w B A c rs ra gr k) (e : Ext w w') : PL w' B A c rs ra gr k := by
  obtain ⟨m, r, s, h1, h2, h3, h4, h5⟩ := h
  exact ⟨m, r, s, h1, h2, h3.ext e, h4, h5⟩
def zero80 (A : Option Addr) (n c : Nat) : Array Value := #[.slice A n c, .slice none 0 0, .slice none 0 0, .slice none 0 0, .slice none 0 0, .slice none 0 0, .slice none 0 0, .int .i64 0, .int .i64 0, .int .i64 0, .int .i64 0, .int .i64 0, .int .i64 0, .int .i64 0, .int .i64 0, .int .i64 0, .int .i64 0, .int .i64 0, .int .i64 0, .int .i64 0, .int .i64 0, .int .i64 0, .int .i64 0, .int .i64 0, .int .i64 0, .int .i64 0, .int .i64 0, .int .i64 0, .int .i64 0, .int .i64 0, .int .i64 0, .int .i64 0, .int .i64 0, .int .i64 0, .int .i64 0, .int .i64 0, .int .i64 0, .int .i64 0, .int .i64 0, .int .i64 0, .int .i64 0, .int .i64 0, .int .i64 0, .slice none 0 0]
theorem zero80_get (A : Option Addr) (n c : Nat) {j : Nat} (hj : j < 36) : (zero80 A n c)[7 + j]? = some (.int .i64 0) := by
  have h1 : ((zero80 A n c).toList.drop 7).take 36 = List.replicate 36 (.int .i64 0) := rfl
  have h2 : (((zero80 A n c).toList.drop 7).take 36)[j]? = some (.int .i64 0) := by
    rw [h1, List.getElem?_replicate, if_pos hj]
  rw [List.getElem?_take, if_pos hj, List.getElem?_drop] at h2
  simpa using h2
theorem RefAt.new {w : World} {B : Nat} {A : Option Addr} {c : Nat} {rs : List Rw} (hM : MatAt w B A rs) (hB : B ≤ w.heap.size) :
    RefAt (w.alloc (.cells (zero80 A rs.length c) 80)) B A c rs ⟨w.heap.size, zero80 A rs.length c, fun _ => .slice none 0 0, .slice none 0 0⟩ RoadSt.new := by
  refine ⟨hB, Blk.new _ _ _, rfl, rfl, fun a ha => ?_, fun a b ha hb => ?_, rfl, fun a ha => ⟨[], .inl ⟨rfl, rfl⟩, rfl, by simp⟩, ⟨[], Own.nil _ _, rfl, by simp⟩, hM.ext (ext_alloc _ _)⟩
  · match a, ha with
    | 0, _ => rfl
    | 1, _ => rfl
    | 2, _ => rfl
    | 3, _ => rfl
    | 4, _ => rfl
    | 5, _ => rfl
    | n + 6, h => omega
  · have := zero80_get A rs.length c (j := a * 6 + b) (by omega)
    rw [← Nat.add_assoc] at this
    exact this

set_option maxRecDepth 100000 in
set_option maxHeartbeats 16000000 in
theorem roadPlays_walk (A : Option Addr) (c : Nat) (rs : List Rw) (A1 : Option Addr) (c1 : Nat) (ls : List Sv) (w : World) (hM : MatAt w w.heap.size A rs) (hl : rs.length ≤ 9223372036854775807) (hS : StepsAt w w.heap.size A1 ls) (hl1 : ls.length ≤ 9223372036854775807)
    (hls : ∀ y ∈ ls, WrsAt w w.heap.size y.x.A y.x.it.ws ∧ (∀ z ∈ y.x.it.ws, z.ok) ∧ (wf64 y.from_ ∧ wf64 y.to_ ∧ wf64 y.n ∧ wf64 y.what)) :
    Calls Try.prog 12 #[.agg #[.slice A rs.length c], .slice A1 ls.length c1] w fun e w' => e = .returned (.bool true) ∧ Ext w w' := by
  have x0 := ext_alloc w (.cells #[.slice A rs.length c] 53)
  have b0 := Blk.new w 53 #[.slice A rs.length c]
  have HM := Lib.hid (hM.ext x0)
  have HL := Lib.hid hl
  have HL1 := Lib.hid hl1
  have HS := Lib.hid hS
  have HLS0 := Lib.hid hls
  clear hM hl hS hl1 hls
  go_enter Try.func12, Try.ntmps12
  go_upto_region 1 with fail
  obtain ⟨g, hg⟩ : ∃ g, g = w.heap.size := ⟨_, rfl⟩
  have HG := Lib.hid hg
  rw [← hg] at b0 ⊢
  generalize w.alloc (.cells #[.slice A rs.length c] 53) = w1 at HM b0 x0 ⊢
  clear hg
  go_wp2_with fail
  refine (known22_any w1).mono ?_
  rintro e w2 ⟨rfl, y⟩
  replace b0 := b0.ext y
  go_wp2_with fail
  refine (few22_any A1 c1 ls w2 _ (RowsAt.ext HS.out (ext_trans x0 y)) HL1.out).mono ?_
  rintro e w2' ⟨rfl, rfl⟩
  cases hfs : fewSteps ls
  · clear hfs
    go_wp2
    go_ret
    exact ⟨rfl, ext_trans x0 y⟩
  · have h80 : ls.length ≤ 80 := by
      have := hfs
      simp only [fewSteps, Bool.and_eq_true, decide_eq_true_eq] at this
      exact this.2
    have HLS : Hid (∀ y ∈ ls, IvOk w w.heap.size y.x ∧ (wf64 y.from_ ∧ wf64 y.to_ ∧ wf64 y.n ∧ wf64 y.what)) := fun y hy => by
      have h10 : y.x.it.ws.length ≤ 10 := by
        have := hfs
        simp only [fewSteps, Bool.and_eq_true, List.all_eq_true, decide_eq_true_eq] at this
        exact this.1 y hy
      exact ⟨⟨(HLS0.out y hy).1, (HLS0.out y hy).2.1, by omega⟩, (HLS0.out y hy).2.2⟩
    clear hfs HLS0
    have c0 := b0.cell 0
    simp only [List.getElem?_toArray, List.getElem?_cons_zero] at c0
    go_wp2_with fail
    refine (fewLat22_any A c rs w2 _ (HM.out.ext y) HL.out).mono ?_
    rintro e w3 ⟨rfl, y3⟩
    replace y := ext_trans y y3
    replace b0 := b0.ext y3
    clear y3 c0
    have c0 := b0.cell 0
    simp only [List.getElem?_toArray, List.getElem?_cons_zero] at c0
    cases hf : fewMat 8 (mat rs)
    · clear hf
      go_wp2
      go_ret
      exact ⟨rfl, ext_trans x0 y⟩
    · go_wp2_with fail
      refine (refCheck_any A c rs w3 _ (HM.out.ext y) HL.out).mono ?_
      rintro e w4 ⟨rfl, y4⟩
      replace y := ext_trans y y4
      replace b0 := b0.ext y4
      clear y4 c0 hf
      by_cases hk : lchk (mat rs) = 0
      · rw [hk]
        have HK := Lib.hid hk
        have X4 := ext_trans x0 y
        have HX4 := Lib.hid X4
        have HM4 : Hid (MatAt w4 w.heap.size A rs) := HM.out.ext y
        have p0 := b0.cell 0
        simp only [List.getElem?_toArray, List.getElem?_cons_zero] at p0
        have y0 := fun x' (hx : Ext w4 x') => ext_cell hx p0
        have hB4 : w.heap.size ≤ w4.heap.size := X4.size
        have HB4 := Lib.hid hB4
        clear hk x0 y p0 X4
        go_upto_region 5 with fail
        go_cut [5, 6] (fun p q wc => (∃ ra gr, p = .pointer (some ⟨ra, 0, none⟩) ∧ q = .pointer (some ⟨gr, 0, none⟩) ∧ PL wc w4.heap.size A c rs ra gr 0) ∧ Ext w4 wc)
        case first =>
          as_aux_lemma =>
          refine wp_region_planH3 (.reads 0 (.reads 2 (.reads 3 (.fork 1 (.reads 5 (.makes 4 (.reads 6 (.done)))) 4 (.makes 1 (.reads 5 (.reads 6 (.done)))))))) (by kernel_rfl) (by kernel_rfl) (fun x' => Ext w4 x') (ext_drewN w4 1) (fun ops HOPS => ?_)
          (refine segH_load _ _ _ _ _ _ _ _ _ (hid_get HOPS 0 _ rfl) wanted_none rfl (fun _ _ _ _ h => h) (fun y hy => by go_simp; try with_reducible rfl) ?_; simp only [Act.put, List.setIfInBounds_toArray, List.set_cons_zero, List.set_cons_succ])
          (refine segH_load _ _ _ _ _ _ _ _ _ (hid_get HOPS 2 _ rfl) wanted_none rfl (fun _ _ _ _ h => h) (fun y hy => by go_simp; try with_reducible rfl) ?_; simp only [Act.put, List.setIfInBounds_toArray, List.set_cons_zero, List.set_cons_succ])
          (refine segH_pure _ _ _ _ _ _ (hid_get HOPS 3 _ rfl) rfl wanted_none (fun _ _ _ _ h => h) ?_; intro K hK; go_big_quiet_op; go_big_quiet_on)
          refine segH_fork _ _ _ _ _ _ _ _ _ _ _ _ (hid_get HOPS 1 _ rfl) (hid_get HOPS 4 _ rfl) wanted_none wanted_none (fun K hK => ?_) (fun K hK => ?_)
          · go_big_op
            refine (roadNew_any A c rs _ ((HM4.out.ext (ext_drewN w4 1)).more (Nat.le_trans HB4.out (ext_drewN w4 1).size))).mono ?_
            rintro e w5 ⟨m, rfl, h, y5⟩
            have P5 := ext_trans (ext_drewN w4 1) y5
            refine hK _ _ (fun x' => Ext w4 x') P5 (fun _ h => h) ?_
            clear hK
            (refine segH_pure _ _ _ _ _ _ (hid_get HOPS 5 _ rfl) rfl wanted_none (fun _ _ _ _ h => h) ?_; intro K hK; go_big_quiet_op; go_big_quiet_on)
            refine segH_makes _ _ _ _ _ _ (hid_get HOPS 4 _ rfl) wanted_none (fun K hK => ?_)
            go_big_op
            have P6 : Ext w4 (w5.alloc (.cells (zero80 A rs.length c) 80)) := ext_trans P5 (ext_alloc _ _)
            have hd := h.down (Nat.le_refl _) ((HM4.out.ext P5).more HB4.out)
            have hap : ∀ b, RefOwn ⟨w5.heap.size, zero80 A rs.length c, fun _ => .slice none 0 0, .slice none 0 0⟩ b → ¬ RoadOwn m b := by
              rintro b (rfl | hb | ⟨_, _, hb⟩) hc
              · exact Nat.lt_irrefl _ (h.own_lt hc).2
              · cases hb
              · cases hb
            have HPL : Hid (PL (w5.alloc (.cells (zero80 A rs.length c) 80)) w4.heap.size A c rs m.ra w5.heap.size 0) :=
              ⟨m, _, RoadSt.new, rfl, rfl, ⟨hd.ext (ext_alloc _ _), RefAt.new ((HM4.out.ext P5).more HB4.out) (Nat.le_trans (Nat.le_refl _) P5.size), hap⟩, OutInv.new _, Nat.le_refl _⟩
            refine hK _ _ (fun x' => Ext w4 x') P6 (fun _ h => h) ?_
            clear hK hd hap h
            (refine segH_pure _ _ _ _ _ _ (hid_get HOPS 6 _ rfl) rfl wanted_none (fun _ _ _ _ h => h) ?_; intro K hK; go_big_quiet_op; go_big_quiet_on)
            refine seg_done ?_
            clear HOPS
            clear y0
            go_wp2
            go_meet
            exact ⟨⟨_, _, rfl, rfl, HPL.out⟩, P6⟩
          · go_big_op
            have P5 : Ext w4 (w4.alloc (.cells (zero80 A rs.length c) 80)).drew := ext_trans (ext_alloc _ _) (ext_drewN _ 1)
            have hr : RefAt (w4.alloc (.cells (zero80 A rs.length c) 80)).drew w4.heap.size A c rs ⟨w4.heap.size, zero80 A rs.length c, fun _ => .slice none 0 0, .slice none 0 0⟩ RoadSt.new := (RefAt.new (HM4.out.more HB4.out) (Nat.le_refl _)).ext (ext_drewN _ 1)
            have hsz : (w4.alloc (.cells (zero80 A rs.length c) 80)).drew.heap.size = w4.heap.size + 1 := by simp
            refine hK _ _ (fun x' => Ext w4 x') P5 (fun _ h => h) ?_
            clear hK
            refine segH_makes _ _ _ _ _ _ (hid_get HOPS 1 _ rfl) wanted_none (fun K hK => ?_)
            go_big_op
            refine (roadNew_any A c rs _ ((HM4.out.ext P5).more (Nat.le_trans HB4.out P5.size))).mono ?_
            rintro e w6 ⟨m, rfl, h, y6⟩
            have P6 := ext_trans P5 y6
            have hd := h.down (B' := w4.heap.size) P5.size ((HM4.out.ext P6).more HB4.out)
            have hap : ∀ b, RefOwn ⟨w4.heap.size, zero80 A rs.length c, fun _ => .slice none 0 0, .slice none 0 0⟩ b → ¬ RoadOwn m b := by
              rintro b (rfl | hb | ⟨_, _, hb⟩) hc
              · have := (h.own_lt hc).1
                have e1 : (⟨w4.heap.size, zero80 A rs.length c, fun _ => .slice none 0 0, .slice none 0 0⟩ : RefMem).g = w4.heap.size := rfl
                omega
              · cases hb
              · cases hb
            have HPL : Hid (PL w6 w4.heap.size A c rs m.ra w4.heap.size 0) :=
              ⟨m, _, RoadSt.new, rfl, rfl, ⟨hd, hr.ext y6, hap⟩, OutInv.new _, Nat.le_refl _⟩
            refine hK _ _ (fun x' => Ext w4 x') P6 (fun _ h => h) ?_
            clear hK hd hap h hr
            (refine segH_pure _ _ _ _ _ _ (hid_get HOPS 5 _ rfl) rfl wanted_none (fun _ _ _ _ h => h) ?_; intro K hK; go_big_quiet_op; go_big_quiet_on)
            (refine segH_pure _ _ _ _ _ _ (hid_get HOPS 6 _ rfl) rfl wanted_none (fun _ _ _ _ h => h) ?_; intro K hK; go_big_quiet_op; go_big_quiet_on)
            refine seg_done ?_
            clear HOPS
            clear y0
            go_wp2
            go_meet
            exact ⟨⟨_, _, rfl, rfl, HPL.out⟩, P6⟩
        case rest =>
          obtain ⟨⟨ra, gr, rfl, rfl, HPL⟩, P5⟩ := hcut
          rename World => w5
          have HP5 := Lib.hid P5
          have HB0 := Lib.hid (b0.ext P5)
          have HGB : Hid (g < w4.heap.size) := b0.lt
          clear P5 b0 y0
          go_wp2
          go_loopw [7] (fun i wr => ∃ k : Nat, k ≤ ls.length ∧ i = .int .i64 (k : Int) ∧ PL wr w4.heap.size A c rs ra gr k ∧ Below w4.heap.size w5 wr) (fun i _ => ls.length - (intOf i).toNat)
          case atStart => exact ⟨0, Nat.zero_le _, rfl, HPL, Below.refl _ _⟩
          case round =>
            clear HPL
            obtain ⟨k, hkl, rfl, HPL, hx⟩ := hrel
            rename World => wr
            have HX := Lib.hid hx
            clear hx
            by_cases hlt : k < ls.length
            · have hEw : Ext w wr := HX4.out.trans ((HP5.out.trans (HX.out.mono (Nat.le_refl _))).mono HB4.out)
              have hstep := HLS.out _ (List.getElem_mem hlt)
              obtain ⟨ad, rfl, p0, p1, p2, p3, p4, p5, p6, p7, p8⟩ := StepsAt.get (RowsAt.ext HS.out hEw) hlt
              obtain ⟨hix, hf1, hf2, hf3, hf4⟩ := hstep
              generalize ls[k] = st at hix hf1 hf2 hf3 hf4 p0 p1 p2 p3 p4 p5 p6 p7 p8
              have HIX := Lib.hid (hix.ext hEw)
              clear hix hEw
              go_upto_block 2 with fail
              obtain ⟨m, r, s, hra, hgr, D, hout, hlog⟩ := HPL
              have bs := Blk.new wr 82 #[.int .i64 st.what, .int .i64 st.from_, .int .i64 st.to_, .int .i64 st.n, .int .i64 st.x.it.level, .int .i64 st.x.it.n, .int .i64 st.x.it.turn, .bool st.x.it.shut, .slice st.x.A st.x.it.ws.length st.x.c]
              have es := ext_alloc wr (.cells #[.int .i64 st.what, .int .i64 st.from_, .int .i64 st.to_, .int .i64 st.n, .int .i64 st.x.it.level, .int .i64 st.x.it.n, .int .i64 st.x.it.turn, .bool st.x.it.shut, .slice st.x.A st.x.it.ws.length st.x.c] 82)
              have hBw : w4.heap.size ≤ wr.heap.size := D.road.base_le
              have n1 : ¬ RoadOwn m wr.heap.size := fun hc => Nat.lt_irrefl _ (D.road.own_lt hc).2
              have n2 : ¬ wr.heap.size = gr := fun e => by have := D.ref.blk.lt; omega
              have D2 := D.ext es
              have HX2 := Lib.hid (HX.out.trans (es.mono hBw))
              have HIX2 := Lib.hid (HIX.out.ext es)
              clear D es p0 p1 p2 p3 p4 p5 p6 p7 p8 HIX HX hBw
              generalize wr.alloc (.cells #[.int .i64 st.what, .int .i64 st.from_, .int .i64 st.to_, .int .i64 st.n, .int .i64 st.x.it.level, .int .i64 st.x.it.n, .int .i64 st.x.it.turn, .bool st.x.it.shut, .slice st.x.A st.x.it.ws.length st.x.c] 82) = w6 at bs D2 HX2 HIX2 ⊢
              generalize wr.heap.size = gs at bs n1 n2 ⊢
              have HRA := Lib.hid hra
              have HGR := Lib.hid hgr
              have HOUT := Lib.hid hout
              have HLOG := Lib.hid hlog
              clear hra hgr hout hlog
              go_cut [9] (fun _ wc => PL wc w4.heap.size A c rs ra gr (k + 1) ∧ Below w4.heap.size w5 wc)
              case first =>
                have hb4 := HB4.out
                have IX := HIX2.out.more hb4
                have hfew := D2.road.few
                have hlg : s.log.length < 1000000 := by have := HLOG.out; omega
                have HIX3 := Lib.hid IX
                have HFW := Lib.hid hfew
                have HLG := Lib.hid hlg
                have d0 := bs.cell 0
                simp only [List.getElem?_toArray, List.getElem?_cons_zero, List.getElem?_cons_succ] at d0
                clear IX hfew hlg
                by_cases hw3 : st.what ≤ 3
                ·
                  as_aux_lemma =>
                  have hbs : ∀ x', Mods (fun k => RoadOwn m k ∨ k = gr) w6 x' → Blk x' gs 82 #[.int .i64 st.what, .int .i64 st.from_, .int .i64 st.to_, .int .i64 st.n, .int .i64 st.x.it.level, .int .i64 st.x.it.n, .int .i64 st.x.it.turn, .bool st.x.it.shut, .slice st.x.A st.x.it.ws.length st.x.c] := fun x' hx => bs.mods hx (by rintro (h | h); exact n1 h; exact n2 h)
                  have y2 := fun x' (hx : Mods (fun k => RoadOwn m k ∨ k = gr) w6 x') => (hbs x' hx).cell 2
                  have y4 := fun x' (hx : Mods (fun k => RoadOwn m k ∨ k = gr) w6 x') => (hbs x' hx).cell 4
                  have y5 := fun x' (hx : Mods (fun k => RoadOwn m k ∨ k = gr) w6 x') => (hbs x' hx).cell 5
                  have y6 := fun x' (hx : Mods (fun k => RoadOwn m k ∨ k = gr) w6 x') => (hbs x' hx).cell 6
                  have y7 := fun x' (hx : Mods (fun k => RoadOwn m k ∨ k = gr) w6 x') => (hbs x' hx).cell 7
                  have y8 := fun x' (hx : Mods (fun k => RoadOwn m k ∨ k = gr) w6 x') => (hbs x' hx).cell 8
                  simp only [List.getElem?_toArray, List.getElem?_cons_zero, List.getElem?_cons_succ] at y2 y4 y5 y6 y7 y8
                  have e0 := ext_drewN w6 1
                  have D3 := Lib.hid (D2.ext e0)
                  have IX3 := Lib.hid (HIX3.out.ext e0)
                  clear hbs e0 bs D2 n1 n2
                  go_upto_region 15 with fail
                  clear d0
                  refine wp_region_planH (.reads 0 (.reads 1 (.reads 2 (.reads 3 (.reads 4 (.reads 6 (.reads 7 (.reads 8 (.reads 9 (.reads 10 (.makes 5 (.makes 11 (.reads 12 (.reads 13 (.done))))))))))))))) (by kernel_rfl) (by kernel_rfl) (fun x' => Mods (fun k => RoadOwn m k ∨ k = gr) w6 x') (Mods.of_below (ext_drewN w6 1) _) (fun ops HOPS => ?_)
                  (refine segH_pure _ _ _ _ _ _ (hid_get HOPS 0 _ rfl) rfl wanted_none (fun _ _ _ _ h => h) ?_; intro K hK; go_big_quiet_op; go_big_quiet_on)
                  (refine segH_pure _ _ _ _ _ _ (hid_get HOPS 1 _ rfl) rfl wanted_none (fun _ _ _ _ h => h) ?_; intro K hK; go_big_quiet_op; go_big_quiet_on)
                  (refine segH_load _ _ _ _ _ _ _ _ _ (hid_get HOPS 2 _ rfl) wanted_none rfl (fun _ _ _ _ h => h) (fun y hy => by go_simp; try with_reducible rfl) ?_; simp only [Act.put, List.setIfInBounds_toArray, List.set_cons_zero, List.set_cons_succ])
                  (refine segH_pure _ _ _ _ _ _ (hid_get HOPS 3 _ rfl) rfl wanted_none (fun _ _ _ _ h => h) ?_; intro K hK; go_big_quiet_op; go_big_quiet_on)
                  (refine segH_load _ _ _ _ _ _ _ _ _ (hid_get HOPS 4 _ rfl) wanted_none rfl (fun _ _ _ _ h => h) (fun y hy => by go_simp; try with_reducible rfl) ?_; simp only [Act.put, List.setIfInBounds_toArray, List.set_cons_zero, List.set_cons_succ])
                  (refine segH_pure _ _ _ _ _ _ (hid_get HOPS 6 _ rfl) rfl wanted_none (fun _ _ _ _ h => h) ?_; intro K hK; go_big_quiet_op; go_big_quiet_on)
                  (refine segH_pure _ _ _ _ _ _ (hid_get HOPS 7 _ rfl) rfl wanted_none (fun _ _ _ _ h => h) ?_; intro K hK; go_big_quiet_op; go_big_quiet_on)
                  (refine segH_load _ _ _ _ _ _ _ _ _ (hid_get HOPS 8 _ rfl) wanted_none rfl (fun _ _ _ _ h => h) (fun y hy => by go_simp; try with_reducible rfl) ?_; simp only [Act.put, List.setIfInBounds_toArray, List.set_cons_zero, List.set_cons_succ])
                  (refine segH_pure _ _ _ _ _ _ (hid_get HOPS 9 _ rfl) rfl wanted_none (fun _ _ _ _ h => h) ?_; intro K hK; go_big_quiet_op; go_big_quiet_on)
                  (refine segH_load _ _ _ _ _ _ _ _ _ (hid_get HOPS 10 _ rfl) wanted_none rfl (fun _ _ _ _ h => h) (fun y hy => by go_simp; try with_reducible rfl) ?_; simp only [Act.put, List.setIfInBounds_toArray, List.set_cons_zero, List.set_cons_succ])
                  refine segH_makes _ _ _ _ _ _ (hid_get HOPS 5 _ rfl) wanted_none (fun K hK => ?_)
                  go_big_op
                  refine (roadOffer_ra HRA.out D3.out.road st.x IX3.out hf2 HL.out HLG.out).mono ?_
                  rintro e w7 ⟨rfl, m7, hra7, h7, go7⟩
                  have P7 : Mods (fun k => RoadOwn m k ∨ k = gr) w6 w7 := (Mods.of_below (ext_drewN w6 1) _).trans go7.mods (fun _ _ h => .inl h)
                  have HH := Lib.hid (D3.out.half go7)
                  have IX7 := Lib.hid (IX3.out.keeps (D3.out.road.keepsOwn go7.mods) (by decide))
                  have HX7 := Lib.hid ((HX2.out.trans ((ext_drewN w6 1).mono D3.out.road.base_le)).trans go7.below)
                  refine hK _ _ (fun x' => Mods (fun k => RoadOwn m k ∨ k = gr) w6 x') P7 (fun _ h => h) ?_
                  clear hK
                  refine segH_makes _ _ _ _ _ _ (hid_get HOPS 11 _ rfl) wanted_none (fun K hK => ?_)
                  go_big_op
                  refine (refOffer_gr HGR.out HH.out.1 st.x IX7.out HL.out HLG.out HFW.out).mono ?_
                  rintro e w8 ⟨rfl, r8, hgr8, h8, go8⟩
                  have P8 : Mods (fun k => RoadOwn m k ∨ k = gr) w6 w8 := P7.trans go8.mods (fun k _ h => .inr (by rw [← HGR.out]; exact h))
                  have HF : Hid (PL w8 w4.heap.size A c rs ra gr (k + 1) ∧ Below w4.heap.size w5 w8) :=
                    ⟨⟨m7, r8, _, hra7, hgr8, Duo.whole h7 HH.out.2 HH.out.1 go8 h8, HOUT.out.offer _ _, Nat.le_trans offer_log (by have := HLOG.out; omega)⟩, HX7.out.trans go8.below⟩
                  refine hK _ _ (fun x' => Mods (fun k => RoadOwn m k ∨ k = gr) w6 x') P8 (fun _ h => h) ?_
                  clear hK P7 P8 h7 h8 go7 go8 hra7 hgr8
                  (refine segH_pure _ _ _ _ _ _ (hid_get HOPS 12 _ rfl) rfl wanted_none (fun _ _ _ _ h => h) ?_; intro K hK; go_big_quiet_op; go_big_quiet_on)
                  (refine segH_pure _ _ _ _ _ _ (hid_get HOPS 13 _ rfl) rfl wanted_none (fun _ _ _ _ h => h) ?_; intro K hK; go_big_quiet_op; go_big_quiet_on)
                  refine seg_done ?_
                  clear HOPS
                  clear y2 y4 y5 y6 y7 y8
                  go_wp2
                  go_meet
                  exact HF.out
                · by_cases hw4 : st.what = 4
                  ·
                    as_aux_lemma =>
                    have hw4' : (st.what == 4) = true := by simpa using hw4
                    have d1 := bs.cell 1
                    have d2 := bs.cell 2
                    have d3 := bs.cell 3
                    simp only [List.getElem?_toArray, List.getElem?_cons_zero, List.getElem?_cons_succ] at d1 d2 d3
                    have HBS := Lib.hid bs
                    have HN := Lib.hid (And.intro n1 n2)
                    clear bs n1 n2 hw4
                    go_wp2_with fail
                    refine (roadAgain_ra HRA.out D2.road hf1 hf2 HL.out).mono ?_
                    rintro e w7 ⟨rfl, m7, hra7, h7, go7⟩
                    have HH := Lib.hid (D2.half go7)
                    have HX7 := Lib.hid (HX2.out.trans go7.below)
                    have hb7 : Blk w7 gs 82 #[.int .i64 st.what, .int .i64 st.from_, .int .i64 st.to_, .int .i64 st.n, .int .i64 st.x.it.level, .int .i64 st.x.it.n, .int .i64 st.x.it.turn, .bool st.x.it.shut, .slice st.x.A st.x.it.ws.length st.x.c] := (go7.blk HBS.out HN.out.1).1
                    clear d0 d1 d2 d3
                    have d1 := hb7.cell 1
                    have d2 := hb7.cell 2
                    have d3 := hb7.cell 3
                    simp only [List.getElem?_toArray, List.getElem?_cons_zero, List.getElem?_cons_succ] at d1 d2 d3
                    have H7 := Lib.hid h7
                    have HRA7 := Lib.hid hra7
                    clear h7 hra7 go7 hb7 D2
                    go_wp2_with fail
                    refine (refAgain_gr HGR.out HH.out.1 HL.out).mono ?_
                    rintro e w8 ⟨rfl, r8, hgr8, h8, go8⟩
                    have HF : Hid (PL w8 w4.heap.size A c rs ra gr (k + 1) ∧ Below w4.heap.size w5 w8) :=
                      ⟨⟨m7, r8, _, HRA7.out, hgr8, Duo.whole H7.out HH.out.2 HH.out.1 go8 h8, HOUT.out.again _ _ _, by rw [again_log]; have := HLOG.out; omega⟩, HX7.out.trans go8.below⟩
                    clear h8 go8 hgr8 d1 d2 d3
                    go_wp2
                    go_meet
                    exact HF.out
                  · have hw4' : (st.what == 4) = false := by simpa using hw4
                    clear hw4
                    by_cases hT : 0 ≤ st.to_ ∧ st.to_ < 6 ∧ 0 ≤ st.n ∧ st.n < ((s.und st.to_).length : Int)
                    · obtain ⟨hT0, hT1, hT2, hT3⟩ := hT
                      obtain ⟨a, ha⟩ := Int.eq_ofNat_of_zero_le hT0
                      obtain ⟨j, hj⟩ := Int.eq_ofNat_of_zero_le hT2
                      have ha6 : a < 6 := by omega
                      rw [ha, hj] at hT3
                      have hj' : j < (s.und (a : Int)).length := by omega
                      have hwa : wf64 (a : Int) := by rw [← ha]; exact hf2
                      rw [ha, hj] at bs
                      obtain ⟨X, hX⟩ : ∃ X, X = (s.und (a : Int))[j] := ⟨_, rfl⟩
                      have HXX := Lib.hid hX
                      clear hT0 hT1 hT2 hT3 ha hj hX d0
                      by_cases h7 : 7 ≤ st.what
                      ·
                        as_aux_lemma =>
                        have d0 := bs.cell 0
                        have d2 := bs.cell 2
                        have d3 := bs.cell 3
                        simp only [List.getElem?_toArray, List.getElem?_cons_zero, List.getElem?_cons_succ] at d0 d2 d3
                        have HBS := Lib.hid bs
                        clear bs
                        go_wp2_with fail
                        refine (roadTakeS_ra HRA.out D2.road hwa hj').mono ?_
                        rintro e w7 ⟨A7, c7, rfl, ix7, y7⟩
                        rw [← HXX.out] at ix7 ⊢
                        have IX7 := Lib.hid (ix7.ext (ext_alloc w7 (.cells #[.int .i64 X.level, .int .i64 X.n, .int .i64 X.turn, .bool X.shut, .slice A7 X.ws.length c7] 33)))
                        have b11 := Blk.new w7 33 #[.int .i64 X.level, .int .i64 X.n, .int .i64 X.turn, .bool X.shut, .slice A7 X.ws.length c7]
                        have e7 := ext_trans y7 (ext_alloc w7 (.cells #[.int .i64 X.level, .int .i64 X.n, .int .i64 X.turn, .bool X.shut, .slice A7 X.ws.length c7] 33))
                        go_upto_region 11 with fail
                        generalize w7.alloc (.cells #[.int .i64 X.level, .int .i64 X.n, .int .i64 X.turn, .bool X.shut, .slice A7 X.ws.length c7] 33) = W7 at b11 e7 IX7 ⊢
                        generalize w7.heap.size = g11 at b11 ⊢
                        clear y7 ix7 d0 d2 d3
                        have d0 := (HBS.out.ext e7).cell 0
                        have d2 := (HBS.out.ext e7).cell 2
                        have d3 := (HBS.out.ext e7).cell 3
                        simp only [List.getElem?_toArray, List.getElem?_cons_zero, List.getElem?_cons_succ] at d0 d2 d3
                        go_wp2_with fail
                        try rw [show decide (7 ≤ st.what) = true from decide_eq_true (by omega)]
                        refine (refTakeS_gr HGR.out (D2.ref.ext e7) ha6 hj' HFW.out).mono ?_
                        rintro e w8 ⟨A8, c8, rfl, ix8, y8⟩
                        rw [← HXX.out] at ix8 ⊢
                        have IX8 := Lib.hid (ix8.ext (ext_alloc w8 (.cells #[.int .i64 X.level, .int .i64 X.n, .int .i64 X.turn, .bool X.shut, .slice A8 X.ws.length c8] 33)))
                        have b13 := Blk.new w8 33 #[.int .i64 X.level, .int .i64 X.n, .int .i64 X.turn, .bool X.shut, .slice A8 X.ws.length c8]
                        have e8 := ext_trans y8 (ext_alloc w8 (.cells #[.int .i64 X.level, .int .i64 X.n, .int .i64 X.turn, .bool X.shut, .slice A8 X.ws.length c8] 33))
                        go_upto_region 12 with fail
                        generalize w8.alloc (.cells #[.int .i64 X.level, .int .i64 X.n, .int .i64 X.turn, .bool X.shut, .slice A8 X.ws.length c8] 33) = W8 at b13 e8 IX8 ⊢
                        generalize w8.heap.size = g13 at b13 ⊢
                        replace b11 := b11.ext e8
                        have IX78 := Lib.hid (IX7.out.ext e8)
                        clear y8 ix8 d0 d2 d3
                        have q0 := b11.cell 0
                        have q1 := b11.cell 1
                        have q2 := b11.cell 2
                        have q3 := b11.cell 3
                        have q4 := b11.cell 4
                        have r0 := b13.cell 0
                        have r1 := b13.cell 1
                        have r2 := b13.cell 2
                        have r3 := b13.cell 3
                        have r4 := b13.cell 4
                        simp only [List.getElem?_toArray, List.getElem?_cons_zero, List.getElem?_cons_succ] at q0 q1 q2 q3 q4 r0 r1 r2 r3 r4
                        clear b11 b13
                        go_wp2_with fail
                        refine (refItemSame_any X X A7 A8 c7 c8 _ _ _ IX78.out.at_ IX8.out.at_ IX8.out.le).mono ?_
                        rintro e w9 ⟨rfl, y9⟩
                        rw [itSame_self]
                        have eF := ext_trans (ext_trans e7 e8) y9
                        have HF : Hid (PL w9 w4.heap.size A c rs ra gr (k + 1) ∧ Below w4.heap.size w5 w9) := ⟨⟨m, r, s, HRA.out, HGR.out, D2.ext eF, HOUT.out, by have := HLOG.out; omega⟩, HX2.out.trans (eF.mono D2.road.base_le)⟩
                        clear y9 q0 q1 q2 q3 q4 r0 r1 r2 r3 r4
                        go_wp2
                        go_meet
                        exact HF.out
                      ·
                        as_aux_lemma =>
                        have d0 := bs.cell 0
                        have d2 := bs.cell 2
                        have d3 := bs.cell 3
                        simp only [List.getElem?_toArray, List.getElem?_cons_zero, List.getElem?_cons_succ] at d0 d2 d3
                        have HBS := Lib.hid bs
                        have HN := Lib.hid (And.intro n1 n2)
                        clear bs n1 n2
                        go_wp2_with fail
                        refine (roadTakeG_ra HRA.out D2.road hwa hj').mono ?_
                        rintro e w7 ⟨A7, c7, rfl, ix7, m7, hra7, h7, go7⟩
                        rw [← HXX.out] at ix7 ⊢
                        have HH := Lib.hid (D2.half go7)
                        have HX7 := Lib.hid (HX2.out.trans go7.below)
                        have bs7 := (go7.blk HBS.out HN.out.1).1
                        have IX7 := Lib.hid (ix7.ext (ext_alloc w7 (.cells #[.int .i64 X.level, .int .i64 X.n, .int .i64 X.turn, .bool X.shut, .slice A7 X.ws.length c7] 33)))
                        have b11 := Blk.new w7 33 #[.int .i64 X.level, .int .i64 X.n, .int .i64 X.turn, .bool X.shut, .slice A7 X.ws.length c7]
                        have e7 := ext_alloc w7 (.cells #[.int .i64 X.level, .int .i64 X.n, .int .i64 X.turn, .bool X.shut, .slice A7 X.ws.length c7] 33)
                        have hn11 : ¬ RefOwn r w7.heap.size := fun hc => Nat.lt_irrefl _ (HH.out.1.own_lt hc)
                        have H70 := Lib.hid h7
                        have HG70 := Lib.hid go7
                        have HRA7 := Lib.hid hra7
                        have HB70 := Lib.hid bs7
                        have HN11 := Lib.hid hn11
                        clear h7 go7 hra7 bs7 hn11 ix7
                        go_upto_region 11 with fail
                        have h7 := H70.out
                        have H7 := Lib.hid (h7.ext e7)
                        have HR7 := Lib.hid (HH.out.1.ext e7)
                        have HX7' := Lib.hid (HX7.out.trans (e7.mono h7.base_le))
                        have HB7 := Lib.hid (HB70.out.ext e7)
                        have hn11 := HN11.out
                        clear h7 H70 HG70 HB70 HN11
                        generalize w7.alloc (.cells #[.int .i64 X.level, .int .i64 X.n, .int .i64 X.turn, .bool X.shut, .slice A7 X.ws.length c7] 33) = W7 at b11 e7 IX7 H7 HR7 HX7' HB7 ⊢
                        generalize w7.heap.size = g11 at b11 hn11 ⊢
                        clear d0 d2 d3 e7
                        have d0 := HB7.out.cell 0
                        have d2 := HB7.out.cell 2
                        have d3 := HB7.out.cell 3
                        simp only [List.getElem?_toArray, List.getElem?_cons_zero, List.getElem?_cons_succ] at d0 d2 d3
                        go_wp2_with fail
                        rw [show decide (7 ≤ st.what) = false from decide_eq_false (by omega)]
                        refine (refTakeG_gr HGR.out HR7.out ha6 hj' HFW.out).mono ?_
                        rintro e w8 ⟨A8, c8, rfl, ix8, r8, hgr8, h8, go8⟩
                        rw [← HXX.out] at ix8 ⊢
                        have D8 := Duo.whole H7.out HH.out.2 HR7.out go8 h8
                        have hk80 : Keeps w4.heap.size [80] W7 w8 := Keeps.of_mods go8.mods fun q hq => by
                          have e : q = r.g := hq
                          subst e
                          refine ⟨HR7.out.base, fun cs t fr hh => ?_⟩
                          have hb := HR7.out.blk
                          unfold Blk at hb
                          rw [hb] at hh
                          injection hh with hh
                          injection hh with _ hh
                          simp [hh]
                        have IX78 := Lib.hid ((IX7.out.keeps hk80 (by decide)).ext (ext_alloc w8 (.cells #[.int .i64 X.level, .int .i64 X.n, .int .i64 X.turn, .bool X.shut, .slice A8 X.ws.length c8] 33)))
                        have b118 := (b11.mods go8.mods (fun e => hn11 (.inl e))).ext (ext_alloc w8 (.cells #[.int .i64 X.level, .int .i64 X.n, .int .i64 X.turn, .bool X.shut, .slice A8 X.ws.length c8] 33))
                        have IX8 := Lib.hid (ix8.ext (ext_alloc w8 (.cells #[.int .i64 X.level, .int .i64 X.n, .int .i64 X.turn, .bool X.shut, .slice A8 X.ws.length c8] 33)))
                        have b13 := Blk.new w8 33 #[.int .i64 X.level, .int .i64 X.n, .int .i64 X.turn, .bool X.shut, .slice A8 X.ws.length c8]
                        have e8 := ext_alloc w8 (.cells #[.int .i64 X.level, .int .i64 X.n, .int .i64 X.turn, .bool X.shut, .slice A8 X.ws.length c8] 33)
                        have HX8 := Lib.hid (HX7'.out.trans (go8.below.trans (e8.mono D8.road.base_le)))
                        have HD8 := Lib.hid (D8.ext e8)
                        have HGR8 := Lib.hid hgr8
                        clear b11 ix8 d0 d2 d3 D8 h8 go8 hgr8 hk80 hn11
                        go_upto_region 12 with fail
                        generalize w8.alloc (.cells #[.int .i64 X.level, .int .i64 X.n, .int .i64 X.turn, .bool X.shut, .slice A8 X.ws.length c8] 33) = W8 at b118 b13 e8 IX8 IX78 HX8 HD8 ⊢
                        generalize w8.heap.size = g13 at b13 ⊢
                        have b11 := b118
                        clear b118 e8
                        have q0 := b11.cell 0
                        have q1 := b11.cell 1
                        have q2 := b11.cell 2
                        have q3 := b11.cell 3
                        have q4 := b11.cell 4
                        have r0 := b13.cell 0
                        have r1 := b13.cell 1
                        have r2 := b13.cell 2
                        have r3 := b13.cell 3
                        have r4 := b13.cell 4
                        simp only [List.getElem?_toArray, List.getElem?_cons_zero, List.getElem?_cons_succ] at q0 q1 q2 q3 q4 r0 r1 r2 r3 r4
                        clear b11 b13
                        go_wp2_with fail
                        refine (refItemSame_any X X A7 A8 c7 c8 _ _ _ IX78.out.at_ IX8.out.at_ IX8.out.le).mono ?_
                        rintro e w9 ⟨rfl, y9⟩
                        rw [itSame_self]
                        have HF : Hid (PL w9 w4.heap.size A c rs ra gr (k + 1) ∧ Below w4.heap.size w5 w9) := ⟨⟨m7, r8, _, HRA7.out, HGR8.out, HD8.out.ext y9, HOUT.out.take (by omega) j, by have := HLOG.out; show s.log.length ≤ _; omega⟩, HX8.out.trans (y9.mono HD8.out.road.base_le)⟩
                        clear y9 q0 q1 q2 q3 q4 r0 r1 r2 r3 r4
                        go_wp2
                        go_meet
                        exact HF.out
                    ·
                      as_aux_lemma =>
                      have hnoR : st.n < 0 ∨ ((s.und st.to_).length : Int) ≤ st.n := by
                        by_cases h6 : 0 ≤ st.to_ ∧ st.to_ < 6
                        · omega
                        · rw [HOUT.out.und _ h6]
                          simp
                          omega
                      have hnoF : st.to_ < 0 ∨ 6 ≤ st.to_ ∨ st.n < 0 ∨ ((s.und st.to_).length : Int) ≤ st.n := by omega
                      have HNR := Lib.hid hnoR
                      have HNF := Lib.hid hnoF
                      clear hnoR hnoF hT d0
                      have d0 := bs.cell 0
                      have d2 := bs.cell 2
                      have d3 := bs.cell 3
                      simp only [List.getElem?_toArray, List.getElem?_cons_zero, List.getElem?_cons_succ] at d0 d2 d3
                      have HBS := Lib.hid bs
                      clear bs
                      go_wp2_with fail
                      refine (roadTakeN_ra HRA.out D2.road hf2 _ HNR.out).mono ?_
                      rintro e w7 ⟨rfl, y7⟩
                      have b11 := Blk.new w7 33 #[.int .i64 0, .int .i64 0, .int .i64 0, .bool false, .slice none 0 0]
                      have e7 := ext_trans y7 (ext_alloc w7 (.cells #[.int .i64 0, .int .i64 0, .int .i64 0, .bool false, .slice none 0 0] 33))
                      go_upto_region 11 with fail
                      generalize w7.alloc (.cells #[.int .i64 0, .int .i64 0, .int .i64 0, .bool false, .slice none 0 0] 33) = W7 at b11 e7 ⊢
                      generalize w7.heap.size = g11 at b11 ⊢
                      clear y7 d0 d2 d3
                      have d0 := (HBS.out.ext e7).cell 0
                      have d2 := (HBS.out.ext e7).cell 2
                      have d3 := (HBS.out.ext e7).cell 3
                      simp only [List.getElem?_toArray, List.getElem?_cons_zero, List.getElem?_cons_succ] at d0 d2 d3
                      go_wp2_with fail
                      refine (refTakeN_gr HGR.out (D2.ref.ext e7) _ HNF.out HFW.out).mono ?_
                      rintro e w8 ⟨rfl, y8⟩
                      have b13 := Blk.new w8 33 #[.int .i64 0, .int .i64 0, .int .i64 0, .bool false, .slice none 0 0]
                      have e8 := ext_trans y8 (ext_alloc w8 (.cells #[.int .i64 0, .int .i64 0, .int .i64 0, .bool false, .slice none 0 0] 33))
                      go_upto_region 12 with fail
                      generalize w8.alloc (.cells #[.int .i64 0, .int .i64 0, .int .i64 0, .bool false, .slice none 0 0] 33) = W8 at b13 e8 ⊢
                      generalize w8.heap.size = g13 at b13 ⊢
                      replace b11 := b11.ext e8
                      clear y8 d0 d2 d3
                      have q0 := b11.cell 0
                      have q1 := b11.cell 1
                      have q2 := b11.cell 2
                      have q3 := b11.cell 3
                      have q4 := b11.cell 4
                      have r0 := b13.cell 0
                      have r1 := b13.cell 1
                      have r2 := b13.cell 2
                      have r3 := b13.cell 3
                      have r4 := b13.cell 4
                      simp only [List.getElem?_toArray, List.getElem?_cons_zero, List.getElem?_cons_succ] at q0 q1 q2 q3 q4 r0 r1 r2 r3 r4
                      clear b11 b13
                      go_wp2_with fail
                      refine (refItemSame_any ⟨0, 0, 0, false, []⟩ ⟨0, 0, 0, false, []⟩ none none 0 0 _ 0 0 RowsAt.nil RowsAt.nil (by decide)).mono ?_
                      rintro e w9 ⟨rfl, y9⟩
                      rw [itSame_self]
                      have eF := ext_trans (ext_trans e7 e8) y9
                      have HF : Hid (PL w9 w4.heap.size A c rs ra gr (k + 1) ∧ Below w4.heap.size w5 w9) := ⟨⟨m, r, s, HRA.out, HGR.out, D2.ext eF, HOUT.out, by have := HLOG.out; omega⟩, HX2.out.trans (eF.mono D2.road.base_le)⟩
                      clear y9 q0 q1 q2 q3 q4 r0 r1 r2 r3 r4
                      go_wp2
                      go_meet
                      exact HF.out
              case rest =>
                obtain ⟨HPL2, hx2⟩ := hcut
                rename World => w9
                obtain ⟨m9, r9, s9, hra9, hgr9, D9, hout9, hlog9⟩ := HPL2
                have HRA9 := Lib.hid hra9
                have HGR9 := Lib.hid hgr9
                have HD9 := Lib.hid D9
                have HO9 := Lib.hid hout9
                have HL9 := Lib.hid hlog9
                have HX9 := Lib.hid hx2
                clear hra9 hgr9 D9 hout9 hlog9 hx2 bs D2 n1 n2 HX2 HIX2 HRA HGR HOUT HLOG hf1 hf2 hf3 hf4
                go_wp2
                go_loopw [15] (fun i wr => ∃ a : Int, -1 ≤ a ∧ a ≤ 7 ∧ i = .int .i64 a ∧ Ext w9 wr) (fun i _ => (7 - intOf i).toNat)
                case atStart => exact ⟨-1, by omega, by omega, rfl, Below.refl _ _⟩
                case round =>
                  obtain ⟨a, ha0, ha1, rfl, hxl⟩ := hrel
                  rename World => wl
                  have HXL := Lib.hid hxl
                  clear hxl
                  by_cases ha : a ≤ 6
                  ·
                    as_aux_lemma =>
                    go_upto_region 25 with fail
                    go_cut [132] (fun v wc => v = .bool (decide (0 ≤ a ∧ a < 6)) ∧ wl = wc)
                    case first =>
                      by_cases h0 : 0 ≤ a
                      all_goals
                        go_wp2
                        all_goals
                          go_meet
                          refine ⟨congrArg Value.bool ?_, rfl⟩
                          rw [Bool.eq_iff_iff]
                          simp
                          try omega
                    case rest =>
                     obtain ⟨rfl, rfl⟩ := hcut
                     go_upto_if 132 with fail
                     go_cut [16] (fun v wc => (∃ A' c' ys, v = .slice A' ys.length c' ∧ RowsIv wl w4.heap.size A' ys ∧ its ys = s9.und a ∧ ys.length ≤ 40 ∧ ∀ y ∈ ys, IvOk wl w4.heap.size y) ∧ wl = wc)
                     case first =>
                      by_cases h0 : 0 ≤ a ∧ a < 6
                      · rw [show decide (0 ≤ a ∧ a < 6) = true from decide_eq_true h0]
                        obtain ⟨h0, h6⟩ := h0
                        obtain ⟨q, rfl⟩ := Int.eq_ofNat_of_zero_le h0
                        have hq : q < 6 := by omega
                        have hr := HD9.out.ref.ext HXL.out
                        obtain ⟨ys, hO, hys, hok⟩ := hr.unds q hq
                        obtain ⟨A', c', hv⟩ := hO.form
                        have p := hr.blk.cell (1 + q)
                        rw [hr.toc q hq, hv, HGR9.out] at p
                        rw [hv] at hO
                        have hR : RowsIv wl w4.heap.size A' ys := hO.rows
                        have h40 : ys.length ≤ 40 := by
                          have := HD9.out.road.few q
                          rw [← hys, List.length_map] at this
                          exact this
                        have HF := Lib.hid (And.intro hR (And.intro (show its ys = s9.und q from hys) (And.intro h40 hok)))
                        clear hr hO hys hok hv hR h40
                        go_wp2
                        go_meet
                        exact ⟨⟨A', c', ys, rfl, HF.out⟩, rfl⟩
                      · rw [show decide (0 ≤ a ∧ a < 6) = false from decide_eq_false h0]
                        have HF := Lib.hid (HO9.out.und a (by omega))
                        clear h0
                        go_wp2
                        go_meet
                        exact ⟨⟨none, 0, [], rfl, RowsAt.nil, HF.out.symm, by decide, by simp⟩, rfl⟩
                     case rest =>
                      obtain ⟨⟨A', c', ys, rfl, hR, hys, h40, hok⟩, rfl⟩ := hcut
                      have hwa : wf64 a := by
                        unfold wf64
                        simp [Lit.wf, IntKind.min, IntKind.max, IntKind.signed, IntKind.bits]
                        omega
                      have HYS := Lib.hid hys
                      have HOK := Lib.hid hok
                      have HR := Lib.hid hR
                      clear hys hok hR
                      go_wp2_with fail
                      refine (roadFor_ra HRA9.out (HD9.out.road.ext HXL.out) hwa).mono ?_
                      rintro e w10 ⟨v10, zs, rfl, hown10, hzs10, hok10, y10⟩
                      obtain ⟨A10, c10, rfl⟩ := hown10.form
                      have hzl : zs.length ≤ 9223372036854775807 := by
                        have h1 := congrArg List.length hzs10
                        have h2 := HD9.out.road.few a
                        rw [its_length] at h1
                        omega
                      have HR10 := Lib.hid (hown10.rows (B := w4.heap.size))
                      have HZ10 := Lib.hid hzs10
                      have HK10 := Lib.hid hok10
                      have HZL := Lib.hid hzl
                      clear hown10 hzs10 hok10 hzl
                      go_wp2_with fail
                      refine (refSameAll_any A10 A' c10 c' zs ys w10 w4.heap.size w4.heap.size HR10.out (RowsAt.ext HR.out y10) HK10.out (fun y hy => (HOK.out y hy).ext y10) HZL.out).mono ?_
                      rintro e w11 ⟨rfl, y11⟩
                      rw [itsSame_of (by rw [HZ10.out, HYS.out])]
                      have HX11 := Lib.hid (ext_trans HXL.out (ext_trans y10 y11))
                      clear y10 y11 h40
                      go_wp2
                      go_loopw [17] (fun i wr => ∃ b : Int, -1 ≤ b ∧ b ≤ 7 ∧ i = .int .i64 b ∧ Ext w11 wr) (fun i _ => (7 - intOf i).toNat)
                      case atStart => exact ⟨-1, by omega, by omega, rfl, Below.refl _ _⟩
                      case round =>
                        obtain ⟨b, hb0, hb1, rfl, hxi⟩ := hrel
                        rename World => wi
                        have HXI := Lib.hid (ext_trans HX11.out hxi)
                        have HXI0 := Lib.hid hxi
                        clear hxi
                        by_cases hb : b ≤ 6
                        · have hwb : wf64 b := by
                            unfold wf64
                            simp [Lit.wf, IntKind.min, IntKind.max, IntKind.signed, IntKind.bits]
                            omega
                          go_upto_region 33 with fail
                          go_cut [162] (fun v wc => v = .bool (decide (0 ≤ a ∧ a < 6 ∧ 0 ≤ b ∧ b < 6)) ∧ wi = wc)
                          case first =>
                            by_cases h1 : 0 ≤ a <;> by_cases h2 : a < 6 <;> by_cases h3 : 0 ≤ b
                            all_goals
                              go_wp2
                              all_goals
                                go_meet
                                refine ⟨congrArg Value.bool ?_, rfl⟩
                                rw [Bool.eq_iff_iff]
                                simp
                                try omega
                          case rest =>
                           obtain ⟨rfl, rfl⟩ := hcut
                           go_upto_if 162 with fail
                           go_cut [18] (fun v wc => v = .int .i64 (s9.off (a, b)) ∧ wi = wc)
                           case first =>
                            by_cases h0 : 0 ≤ a ∧ a < 6 ∧ 0 ≤ b ∧ b < 6
                            · rw [show decide (0 ≤ a ∧ a < 6 ∧ 0 ≤ b ∧ b < 6) = true from decide_eq_true h0]
                              obtain ⟨h1, h2, h3, h4⟩ := h0
                              obtain ⟨q, rfl⟩ := Int.eq_ofNat_of_zero_le h1
                              obtain ⟨p, rfl⟩ := Int.eq_ofNat_of_zero_le h3
                              have hr := HD9.out.ref.ext HXI.out
                              have hc := hr.blk.cell (7 + q * 6 + p)
                              rw [hr.offc q p (by omega) (by omega), HGR9.out] at hc
                              clear hr
                              go_wp2
                              go_meet
                              exact ⟨rfl, rfl⟩
                            · rw [show decide (0 ≤ a ∧ a < 6 ∧ 0 ≤ b ∧ b < 6) = false from decide_eq_false h0]
                              have HF := Lib.hid (HO9.out.off a b h0)
                              clear h0
                              go_wp2
                              go_meet
                              exact ⟨by rw [HF.out], rfl⟩
                           case rest =>
                            obtain ⟨rfl, rfl⟩ := hcut
                            go_wp2_with fail
                            refine (roadOffered_ra HRA9.out (HD9.out.road.ext HXI.out) hwa hwb).mono ?_
                            rintro e w' ⟨rfl, rfl⟩
                            obtain ⟨N, hN⟩ : ∃ N, N = s9.off (a, b) := ⟨_, rfl⟩
                            rw [← hN]
                            clear hN
                            go_wp2
                            go_roundw
                            case rel => exact ⟨b + 1, by omega, by omega, by go_num, HXI0.out⟩
                            case measure => simp [intOf]; omega
                        · obtain rfl : b = 7 := by omega
                          go_wp2
                          go_roundw
                          case rel => exact ⟨a + 1, by omega, by omega, by go_num, HXI.out⟩
                          case measure => simp [intOf]; omega
                  · obtain rfl : a = 7 := by omega
                    as_aux_lemma =>
                    have hr := HD9.out.ref.ext HXL.out
                    obtain ⟨ps, hOL, hps, _⟩ := hr.log
                    obtain ⟨Al, cl, hvl⟩ := hOL.form
                    have p5 := hr.blk.cell 43
                    rw [hr.logc, hvl, HGR9.out] at p5
                    have y5 := fun x' (hx : Ext wl x') => ext_cell hx p5
                    have HPS := Lib.hid hps
                    clear hr hOL hvl p5 hps
                    go_upto_region 37 with fail
                    refine wp_region_planH (.reads 0 (.reads 3 (.reads 4 (.reads 5 (.reads 6 (.reads 7 (.makes 1 (.reads 2 (.reads 8 (.done)))))))))) (by kernel_rfl) (by kernel_rfl) (fun x' => Ext wl x') (ext_drewN wl 1) (fun ops HOPS => ?_)
                    (refine segH_pure _ _ _ _ _ _ (hid_get HOPS 0 _ rfl) rfl wanted_none (fun _ _ _ _ h => h) ?_; intro K hK; go_big_quiet_op; go_big_quiet_on)
                    (refine segH_pure _ _ _ _ _ _ (hid_get HOPS 3 _ rfl) rfl wanted_none (fun _ _ _ _ h => h) ?_; intro K hK; go_big_quiet_op; go_big_quiet_on)
                    (refine segH_nil _ _ _ _ _ _ _ (hid_get HOPS 4 _ rfl) wanted_none rfl (fun _ _ _ _ h => h) ?_; simp only [Act.put, List.setIfInBounds_toArray, List.set_cons_zero, List.set_cons_succ])
                    (refine segH_pure _ _ _ _ _ _ (hid_get HOPS 5 _ rfl) rfl wanted_none (fun _ _ _ _ h => h) ?_; intro K hK; go_big_quiet_op; go_big_quiet_on)
                    (refine segH_load _ _ _ _ _ _ _ _ _ (hid_get HOPS 6 _ rfl) wanted_none rfl (fun _ _ _ _ h => h) (fun y hy => by go_simp; try with_reducible rfl) ?_; simp only [Act.put, List.setIfInBounds_toArray, List.set_cons_zero, List.set_cons_succ])
                    (refine segH_pure _ _ _ _ _ _ (hid_get HOPS 7 _ rfl) rfl wanted_none (fun _ _ _ _ h => h) ?_; intro K hK; go_big_quiet_op; go_big_quiet_on)
                    refine segH_makes _ _ _ _ _ _ (hid_get HOPS 1 _ rfl) wanted_none (fun K hK => ?_)
                    go_big_op
                    refine (roadLog_ra HRA9.out (HD9.out.road.ext (ext_trans HXL.out (ext_drewN wl 1)))).mono ?_
                    rintro e w10 ⟨v10, qs, rfl, hown10, hqs10, _, y10⟩
                    obtain ⟨A10, c10, rfl⟩ := hown10.form
                    have hql : qs.length = ps.length := by
                      have h1 := congrArg List.length (hqs10.trans HPS.out.symm)
                      rw [prs_length, prs_length] at h1
                      exact h1
                    rw [hql]
                    have P10 := ext_trans (ext_drewN wl 1) y10
                    have HF : Hid (PL w10 w4.heap.size A c rs ra gr (k + 1) ∧ Below w4.heap.size w5 w10) :=
                      ⟨⟨m9, r9, s9, HRA9.out, HGR9.out, HD9.out.ext (ext_trans HXL.out P10), HO9.out, HL9.out⟩, HX9.out.trans ((ext_trans HXL.out P10).mono HD9.out.road.base_le)⟩
                    refine hK _ _ (fun x' => Ext wl x') P10 (fun _ h => h) ?_
                    clear hK hown10 hqs10 y10 hql
                    (refine segH_pure _ _ _ _ _ _ (hid_get HOPS 2 _ rfl) rfl wanted_none (fun _ _ _ _ h => h) ?_; intro K hK; go_big_quiet_op; go_big_quiet_on)
                    (refine segH_pure _ _ _ _ _ _ (hid_get HOPS 8 _ rfl) rfl wanted_none (fun _ _ _ _ h => h) ?_; intro K hK; go_big_quiet_op; go_big_quiet_on)
                    refine seg_done ?_
                    clear HOPS
                    clear y5 P10
                    go_wp2
                    go_roundw
                    case rel => exact ⟨k + 1, by omega, by go_num, HF.out.1, HF.out.2⟩
                    case measure => simp [intOf]; omega
            · obtain rfl : k = ls.length := by omega
              as_aux_lemma =>
              obtain ⟨m9, r9, s9, hra9, hgr9, D9, hout9, hlog9⟩ := HPL
              have HRA9 := Lib.hid hra9
              have HGR9 := Lib.hid hgr9
              have HD9 := Lib.hid D9
              have HO9 := Lib.hid hout9
              have hlg9 : s9.log.length ≤ 80 := by omega
              clear hra9 hgr9 D9 hout9 hlog9 hlt hkl
              go_wp2_with fail
              refine (roadLog_ra HRA9.out HD9.out.road).mono ?_
              rintro e w10 ⟨v10, qs, rfl, hown10, hqs10, hok10, y10⟩
              obtain ⟨A10, c10, rfl⟩ := hown10.form
              have hr := HD9.out.ref.ext y10
              obtain ⟨ps, hOL, hps, hokP⟩ := hr.log
              obtain ⟨Al, cl, hvl⟩ := hOL.form
              have p5 := hr.blk.cell 43
              rw [hr.logc, hvl, HGR9.out] at p5
              rw [hvl] at hOL
              have HP5c := Lib.hid p5
              have HRP : Hid (RowsAt w10 w4.heap.size 94 6 Pv.cells Al ps) := hOL.rows
              have HRQ : Hid (RowsAt w10 w4.heap.size 94 6 Pv.cells A10 qs) := hown10.rows
              have hql : qs.length = ps.length := by
                have h1 := congrArg List.length (hqs10.trans hps.symm)
                rw [prs_length, prs_length] at h1
                exact h1
              have HQL := Lib.hid hql
              have HQP := Lib.hid (hqs10.trans hps.symm)
              have HQS := Lib.hid hqs10
              have HOKQ := Lib.hid hok10
              have HOKP := Lib.hid hokP
              have hq80 : qs.length ≤ 80 := by
                have h1 := congrArg List.length hqs10
                rw [prs_length] at h1
                omega
              have HM10 := Lib.hid (HD9.out.road.ext y10).mat
              have HX10 := Lib.hid (HX.out.trans (y10.mono HD9.out.road.base_le))
              have hB10 := Lib.hid (HD9.out.road.ext y10).base_le
              clear hown10 hqs10 hok10 hr hOL hps hokP hvl p5 hql y10
              go_wp2
              go_loopw [20] (fun i wr => ∃ j : Nat, j ≤ qs.length ∧ i = .int .i64 (j : Int) ∧ Ext w10 wr) (fun i _ => qs.length - (intOf i).toNat)
              case atStart => exact ⟨0, Nat.zero_le _, rfl, Below.refl _ _⟩
              case round =>
                obtain ⟨j, hj, rfl, hxl⟩ := hrel
                rename World => wl
                have HXL := Lib.hid hxl
                clear hxl
                by_cases hjl : j < qs.length
                · have hjp : j < ps.length := by rw [← HQL.out]; exact hjl
                  have hpe : (qs[j].lev, qs[j].x.it) = (ps[j].lev, ps[j].x.it) := by
                    have h1 : (prs qs)[j]? = some (qs[j].lev, qs[j].x.it) := by simp [prs, hjl]
                    have h2 : (prs ps)[j]? = some (ps[j].lev, ps[j].x.it) := by simp [prs, hjp]
                    rw [HQP.out, h2] at h1
                    exact (Option.some.inj h1).symm
                  have hup : labove (mat rs) qs[j].lev qs[j].x.it.level = true := HO9.out.log (qs[j].lev, qs[j].x.it) (by
                    have h3 : prs qs = s9.log := HQS.out
                    rw [← h3]
                    exact List.mem_map.2 ⟨qs[j], List.getElem_mem hjl, rfl⟩)
                  have iq := (HOKQ.out _ (List.getElem_mem hjl)).ext HXL.out
                  have ip := (HOKP.out _ (List.getElem_mem hjp)).ext HXL.out
                  obtain ⟨ad, rfl, q0, q1, q2, q3, q4, q5⟩ := RowsPv.get (RowsAt.ext HRQ.out HXL.out) hjl
                  obtain ⟨ad2, e2, r0, r1, r2, r3, r4, r5⟩ := RowsPv.get (RowsAt.ext HRP.out HXL.out) hjp
                  have e2' : Al = some ad2 := e2
                  subst e2'
                  simp only [Prod.mk.injEq] at hpe
                  obtain ⟨he1, he2⟩ := hpe
                  rw [← he1] at r0
                  generalize ps[j] = pp at r1 r2 r3 r4 r5 ip he2
                  generalize qs[j] = qq at q0 q1 q2 q3 q4 q5 iq he2 hup r0
                  obtain ⟨pl, ⟨pit, pA, pc⟩⟩ := pp
                  obtain ⟨ql, ⟨qit, qA, qc⟩⟩ := qq
                  dsimp only at he2 q0 q1 q2 q3 q4 q5 r0 r1 r2 r3 r4 r5 hup ip iq
                  subst he2
                  have IQ := Lib.hid iq
                  have IP := Lib.hid ip
                  have HUP := Lib.hid hup
                  have y0 := fun x' (hx : Ext wl x') => ext_cell hx q0
                  have y1 := fun x' (hx : Ext wl x') => ext_cell hx q1
                  have y2 := fun x' (hx : Ext wl x') => ext_cell hx q2
                  have y3 := fun x' (hx : Ext wl x') => ext_cell hx q3
                  have y4 := fun x' (hx : Ext wl x') => ext_cell hx q4
                  have y5 := fun x' (hx : Ext wl x') => ext_cell hx q5
                  have z0 := fun x' (hx : Ext wl x') => ext_cell hx r0
                  have z1 := fun x' (hx : Ext wl x') => ext_cell hx r1
                  have z2 := fun x' (hx : Ext wl x') => ext_cell hx r2
                  have z3 := fun x' (hx : Ext wl x') => ext_cell hx r3
                  have z4 := fun x' (hx : Ext wl x') => ext_cell hx r4
                  have z5 := fun x' (hx : Ext wl x') => ext_cell hx r5
                  have x5 := fun x' (hx : Ext wl x') => ext_cell hx (ext_cell HXL.out HP5c.out)
                  have hbox : wl.cell? ⟨g, 0, none⟩ = some (.slice A rs.length c) := by
                    have h1 := HB0.out.cell 0
                    simp only [List.getElem?_toArray, List.getElem?_cons_zero] at h1
                    exact ((HX10.out.trans (HXL.out.mono hB10.out)).cell (p := ⟨g, 0, none⟩) HGB).trans h1
                  have x6 := fun x' (hx : Ext wl x') => ext_cell hx hbox
                  clear q0 q1 q2 q3 q4 q5 r0 r1 r2 r3 r4 r5 e2 iq ip hup hbox he1
                  go_upto_region 43 with fail
                  refine wp_region_planH (.reads 0 (.reads 1 (.reads 2 (.reads 3 (.reads 4 (.reads 5 (.reads 6 (.reads 7 (.reads 8 (.reads 9 (.reads 10 (.reads 11 (.reads 12 (.reads 13 (.reads 14 (.reads 15 (.reads 16 (.reads 17 (.reads 18 (.reads 19 (.reads 20 (.reads 21 (.reads 22 (.reads 23 (.reads 24 (.reads 25 (.reads 26 (.reads 27 (.makes 28 (.reads 29 (.reads 30 (.reads 31 (.reads 32 (.reads 33 (.reads 34 (.reads 35 (.reads 36 (.reads 37 (.reads 38 (.reads 39 (.reads 40 (.reads 41 (.reads 42 (.reads 43 (.makes 44 (.reads 45 (.reads 46 (.done)))))))))))))))))))))))))))))))))))))))))))))))) (by kernel_rfl) (by kernel_rfl) (fun x' => Ext wl x') (ext_drewN wl 1) (fun ops HOPS => ?_)
                  (refine segH_pure _ _ _ _ _ _ (hid_get HOPS 0 _ rfl) rfl wanted_none (fun _ _ _ _ h => h) ?_; intro K hK; go_big_quiet_op; go_big_quiet_on)
                  (refine segH_pure _ _ _ _ _ _ (hid_get HOPS 1 _ rfl) rfl wanted_none (fun _ _ _ _ h => h) ?_; intro K hK; go_big_quiet_op; go_big_quiet_on)
                  (refine segH_pure _ _ _ _ _ _ (hid_get HOPS 2 _ rfl) rfl wanted_none (fun _ _ _ _ h => h) ?_; intro K hK; go_big_quiet_op; go_big_quiet_on)
                  (refine segH_pure _ _ _ _ _ _ (hid_get HOPS 3 _ rfl) rfl wanted_none (fun _ _ _ _ h => h) ?_; intro K hK; go_big_quiet_op; go_big_quiet_on)
                  (refine segH_load _ _ _ _ _ _ _ _ _ (hid_get HOPS 4 _ rfl) wanted_none rfl (fun _ _ _ _ h => h) (fun y hy => by go_simp; try with_reducible rfl) ?_; simp only [Act.put, List.setIfInBounds_toArray, List.set_cons_zero, List.set_cons_succ])
                  (refine segH_pure _ _ _ _ _ _ (hid_get HOPS 5 _ rfl) rfl wanted_none (fun _ _ _ _ h => h) ?_; intro K hK; go_big_quiet_op; go_big_quiet_on)
                  (refine segH_nil _ _ _ _ _ _ _ (hid_get HOPS 6 _ rfl) wanted_none rfl (fun _ _ _ _ h => h) ?_; simp only [Act.put, List.setIfInBounds_toArray, List.set_cons_zero, List.set_cons_succ])
                  (refine segH_pure _ _ _ _ _ _ (hid_get HOPS 7 _ rfl) rfl wanted_none (fun _ _ _ _ h => h) ?_; intro K hK; go_big_quiet_op; go_big_quiet_on)
                  (refine segH_load _ _ _ _ _ _ _ _ _ (hid_get HOPS 8 _ rfl) wanted_none rfl (fun _ _ _ _ h => h) (fun y hy => by go_simp; try with_reducible rfl) ?_; simp only [Act.put, List.setIfInBounds_toArray, List.set_cons_zero, List.set_cons_succ])
                  (refine segH_pure _ _ _ _ _ _ (hid_get HOPS 9 _ rfl) rfl wanted_none (fun _ _ _ _ h => h) ?_; intro K hK; go_big_quiet_op; go_big_quiet_on)
                  (refine segH_pure _ _ _ _ _ _ (hid_get HOPS 10 _ rfl) rfl wanted_none (fun _ _ _ _ h => h) ?_; intro K hK; go_big_quiet_op; go_big_quiet_on)
                  (refine segH_pure _ _ _ _ _ _ (hid_get HOPS 11 _ rfl) rfl wanted_none (fun _ _ _ _ h => h) ?_; intro K hK; go_big_quiet_op; go_big_quiet_on)
                  (refine segH_load _ _ _ _ _ _ _ _ _ (hid_get HOPS 12 _ rfl) wanted_none rfl (fun _ _ _ _ h => h) (fun y hy => by go_simp; try with_reducible rfl) ?_; simp only [Act.put, List.setIfInBounds_toArray, List.set_cons_zero, List.set_cons_succ])
                  (refine segH_pure _ _ _ _ _ _ (hid_get HOPS 13 _ rfl) rfl wanted_none (fun _ _ _ _ h => h) ?_; intro K hK; go_big_quiet_op; go_big_quiet_on)
                  (refine segH_pure _ _ _ _ _ _ (hid_get HOPS 14 _ rfl) rfl wanted_none (fun _ _ _ _ h => h) ?_; intro K hK; go_big_quiet_op; go_big_quiet_on)
                  first | (refine segH_pass _ _ _ _ _ _ (hid_get HOPS 15 _ rfl) (wanted_some (hid_get HOPS 14 _ rfl) rfl rfl rfl) (fun _ _ _ _ h => h) ?_; simp only [Act.put, List.setIfInBounds_toArray, List.set_cons_zero, List.set_cons_succ]) | (refine segH_pure _ _ _ _ _ _ (hid_get HOPS 15 _ rfl) rfl (wanted_some (hid_get HOPS 14 _ rfl) rfl rfl rfl) (fun _ _ _ _ h => h) ?_; intro K hK; go_big_quiet_op; go_big_quiet_on) | (refine segH_pass _ _ _ _ _ _ (hid_get HOPS 15 _ rfl) (wanted_gone (hid_get HOPS 14 _ rfl) rfl rfl) (fun _ _ _ _ h => h) ?_; simp only [Act.put, List.setIfInBounds_toArray, List.set_cons_zero, List.set_cons_succ])
                  first | (refine segH_pass _ _ _ _ _ _ (hid_get HOPS 16 _ rfl) (wanted_some (hid_get HOPS 14 _ rfl) rfl rfl rfl) (fun _ _ _ _ h => h) ?_; simp only [Act.put, List.setIfInBounds_toArray, List.set_cons_zero, List.set_cons_succ]) | (refine segH_pure _ _ _ _ _ _ (hid_get HOPS 16 _ rfl) rfl (wanted_some (hid_get HOPS 14 _ rfl) rfl rfl rfl) (fun _ _ _ _ h => h) ?_; intro K hK; go_big_quiet_op; go_big_quiet_on) | (refine segH_pass _ _ _ _ _ _ (hid_get HOPS 16 _ rfl) (wanted_gone (hid_get HOPS 14 _ rfl) rfl rfl) (fun _ _ _ _ h => h) ?_; simp only [Act.put, List.setIfInBounds_toArray, List.set_cons_zero, List.set_cons_succ])
                  first | (refine segH_pass _ _ _ _ _ _ (hid_get HOPS 17 _ rfl) (wanted_some (hid_get HOPS 14 _ rfl) rfl rfl rfl) (fun _ _ _ _ h => h) ?_; simp only [Act.put, List.setIfInBounds_toArray, List.set_cons_zero, List.set_cons_succ]) | (refine segH_pure _ _ _ _ _ _ (hid_get HOPS 17 _ rfl) rfl (wanted_some (hid_get HOPS 14 _ rfl) rfl rfl rfl) (fun _ _ _ _ h => h) ?_; intro K hK; go_big_quiet_op; go_big_quiet_on) | (refine segH_pass _ _ _ _ _ _ (hid_get HOPS 17 _ rfl) (wanted_gone (hid_get HOPS 14 _ rfl) rfl rfl) (fun _ _ _ _ h => h) ?_; simp only [Act.put, List.setIfInBounds_toArray, List.set_cons_zero, List.set_cons_succ])
                  first | (refine segH_pass _ _ _ _ _ _ (hid_get HOPS 18 _ rfl) (wanted_some (hid_get HOPS 14 _ rfl) rfl rfl rfl) (fun _ _ _ _ h => h) ?_; simp only [Act.put, List.setIfInBounds_toArray, List.set_cons_zero, List.set_cons_succ]) | (refine segH_pure _ _ _ _ _ _ (hid_get HOPS 18 _ rfl) rfl (wanted_some (hid_get HOPS 14 _ rfl) rfl rfl rfl) (fun _ _ _ _ h => h) ?_; intro K hK; go_big_quiet_op; go_big_quiet_on) | (refine segH_pass _ _ _ _ _ _ (hid_get HOPS 18 _ rfl) (wanted_gone (hid_get HOPS 14 _ rfl) rfl rfl) (fun _ _ _ _ h => h) ?_; simp only [Act.put, List.setIfInBounds_toArray, List.set_cons_zero, List.set_cons_succ])
                  first | (refine segH_pass _ _ _ _ _ _ (hid_get HOPS 19 _ rfl) (wanted_some (hid_get HOPS 14 _ rfl) rfl rfl rfl) (fun _ _ _ _ h => h) ?_; simp only [Act.put, List.setIfInBounds_toArray, List.set_cons_zero, List.set_cons_succ]) | (refine segH_load _ _ _ _ _ _ _ _ _ (hid_get HOPS 19 _ rfl) (wanted_some (hid_get HOPS 14 _ rfl) rfl rfl rfl) rfl (fun _ _ _ _ h => h) (fun y hy => by go_simp; try with_reducible rfl) ?_; simp only [Act.put, List.setIfInBounds_toArray, List.set_cons_zero, List.set_cons_succ]) | (refine segH_pass _ _ _ _ _ _ (hid_get HOPS 19 _ rfl) (wanted_gone (hid_get HOPS 14 _ rfl) rfl rfl) (fun _ _ _ _ h => h) ?_; simp only [Act.put, List.setIfInBounds_toArray, List.set_cons_zero, List.set_cons_succ])
                  first | (refine segH_pass _ _ _ _ _ _ (hid_get HOPS 20 _ rfl) (wanted_some (hid_get HOPS 14 _ rfl) rfl rfl rfl) (fun _ _ _ _ h => h) ?_; simp only [Act.put, List.setIfInBounds_toArray, List.set_cons_zero, List.set_cons_succ]) | (refine segH_pure _ _ _ _ _ _ (hid_get HOPS 20 _ rfl) rfl (wanted_some (hid_get HOPS 14 _ rfl) rfl rfl rfl) (fun _ _ _ _ h => h) ?_; intro K hK; go_big_quiet_op; go_big_quiet_on) | (refine segH_pass _ _ _ _ _ _ (hid_get HOPS 20 _ rfl) (wanted_gone (hid_get HOPS 14 _ rfl) rfl rfl) (fun _ _ _ _ h => h) ?_; simp only [Act.put, List.setIfInBounds_toArray, List.set_cons_zero, List.set_cons_succ])
                  first | (refine segH_pass _ _ _ _ _ _ (hid_get HOPS 21 _ rfl) (wanted_some (hid_get HOPS 14 _ rfl) rfl rfl rfl) (fun _ _ _ _ h => h) ?_; simp only [Act.put, List.setIfInBounds_toArray, List.set_cons_zero, List.set_cons_succ]) | (refine segH_nil _ _ _ _ _ _ _ (hid_get HOPS 21 _ rfl) (wanted_some (hid_get HOPS 14 _ rfl) rfl rfl rfl) rfl (fun _ _ _ _ h => h) ?_; simp only [Act.put, List.setIfInBounds_toArray, List.set_cons_zero, List.set_cons_succ]) | (refine segH_pass _ _ _ _ _ _ (hid_get HOPS 21 _ rfl) (wanted_gone (hid_get HOPS 14 _ rfl) rfl rfl) (fun _ _ _ _ h => h) ?_; simp only [Act.put, List.setIfInBounds_toArray, List.set_cons_zero, List.set_cons_succ])
                  first | (refine segH_pass _ _ _ _ _ _ (hid_get HOPS 22 _ rfl) (wanted_some (hid_get HOPS 14 _ rfl) rfl rfl rfl) (fun _ _ _ _ h => h) ?_; simp only [Act.put, List.setIfInBounds_toArray, List.set_cons_zero, List.set_cons_succ]) | (refine segH_pure _ _ _ _ _ _ (hid_get HOPS 22 _ rfl) rfl (wanted_some (hid_get HOPS 14 _ rfl) rfl rfl rfl) (fun _ _ _ _ h => h) ?_; intro K hK; go_big_quiet_op; go_big_quiet_on) | (refine segH_pass _ _ _ _ _ _ (hid_get HOPS 22 _ rfl) (wanted_gone (hid_get HOPS 14 _ rfl) rfl rfl) (fun _ _ _ _ h => h) ?_; simp only [Act.put, List.setIfInBounds_toArray, List.set_cons_zero, List.set_cons_succ])
                  first | (refine segH_pass _ _ _ _ _ _ (hid_get HOPS 23 _ rfl) (wanted_some (hid_get HOPS 14 _ rfl) rfl rfl rfl) (fun _ _ _ _ h => h) ?_; simp only [Act.put, List.setIfInBounds_toArray, List.set_cons_zero, List.set_cons_succ]) | (refine segH_load _ _ _ _ _ _ _ _ _ (hid_get HOPS 23 _ rfl) (wanted_some (hid_get HOPS 14 _ rfl) rfl rfl rfl) rfl (fun _ _ _ _ h => h) (fun y hy => by go_simp; try with_reducible rfl) ?_; simp only [Act.put, List.setIfInBounds_toArray, List.set_cons_zero, List.set_cons_succ]) | (refine segH_pass _ _ _ _ _ _ (hid_get HOPS 23 _ rfl) (wanted_gone (hid_get HOPS 14 _ rfl) rfl rfl) (fun _ _ _ _ h => h) ?_; simp only [Act.put, List.setIfInBounds_toArray, List.set_cons_zero, List.set_cons_succ])
                  first | (refine segH_pass _ _ _ _ _ _ (hid_get HOPS 24 _ rfl) (wanted_some (hid_get HOPS 14 _ rfl) rfl rfl rfl) (fun _ _ _ _ h => h) ?_; simp only [Act.put, List.setIfInBounds_toArray, List.set_cons_zero, List.set_cons_succ]) | (refine segH_pure _ _ _ _ _ _ (hid_get HOPS 24 _ rfl) rfl (wanted_some (hid_get HOPS 14 _ rfl) rfl rfl rfl) (fun _ _ _ _ h => h) ?_; intro K hK; go_big_quiet_op; go_big_quiet_on) | (refine segH_pass _ _ _ _ _ _ (hid_get HOPS 24 _ rfl) (wanted_gone (hid_get HOPS 14 _ rfl) rfl rfl) (fun _ _ _ _ h => h) ?_; simp only [Act.put, List.setIfInBounds_toArray, List.set_cons_zero, List.set_cons_succ])
                  first | (refine segH_pass _ _ _ _ _ _ (hid_get HOPS 25 _ rfl) (wanted_some (hid_get HOPS 14 _ rfl) rfl rfl rfl) (fun _ _ _ _ h => h) ?_; simp only [Act.put, List.setIfInBounds_toArray, List.set_cons_zero, List.set_cons_succ]) | (refine segH_pure _ _ _ _ _ _ (hid_get HOPS 25 _ rfl) rfl (wanted_some (hid_get HOPS 14 _ rfl) rfl rfl rfl) (fun _ _ _ _ h => h) ?_; intro K hK; go_big_quiet_op; go_big_quiet_on) | (refine segH_pass _ _ _ _ _ _ (hid_get HOPS 25 _ rfl) (wanted_gone (hid_get HOPS 14 _ rfl) rfl rfl) (fun _ _ _ _ h => h) ?_; simp only [Act.put, List.setIfInBounds_toArray, List.set_cons_zero, List.set_cons_succ])
                  first | (refine segH_pass _ _ _ _ _ _ (hid_get HOPS 26 _ rfl) (wanted_some (hid_get HOPS 14 _ rfl) rfl rfl rfl) (fun _ _ _ _ h => h) ?_; simp only [Act.put, List.setIfInBounds_toArray, List.set_cons_zero, List.set_cons_succ]) | (refine segH_pure _ _ _ _ _ _ (hid_get HOPS 26 _ rfl) rfl (wanted_some (hid_get HOPS 14 _ rfl) rfl rfl rfl) (fun _ _ _ _ h => h) ?_; intro K hK; go_big_quiet_op; go_big_quiet_on) | (refine segH_pass _ _ _ _ _ _ (hid_get HOPS 26 _ rfl) (wanted_gone (hid_get HOPS 14 _ rfl) rfl rfl) (fun _ _ _ _ h => h) ?_; simp only [Act.put, List.setIfInBounds_toArray, List.set_cons_zero, List.set_cons_succ])
                  first | (refine segH_pass _ _ _ _ _ _ (hid_get HOPS 27 _ rfl) (wanted_some (hid_get HOPS 14 _ rfl) rfl rfl rfl) (fun _ _ _ _ h => h) ?_; simp only [Act.put, List.setIfInBounds_toArray, List.set_cons_zero, List.set_cons_succ]) | (refine segH_load _ _ _ _ _ _ _ _ _ (hid_get HOPS 27 _ rfl) (wanted_some (hid_get HOPS 14 _ rfl) rfl rfl rfl) rfl (fun _ _ _ _ h => h) (fun y hy => by go_simp; try with_reducible rfl) ?_; simp only [Act.put, List.setIfInBounds_toArray, List.set_cons_zero, List.set_cons_succ]) | (refine segH_pass _ _ _ _ _ _ (hid_get HOPS 27 _ rfl) (wanted_gone (hid_get HOPS 14 _ rfl) rfl rfl) (fun _ _ _ _ h => h) ?_; simp only [Act.put, List.setIfInBounds_toArray, List.set_cons_zero, List.set_cons_succ])
                  refine segH_makes _ _ _ _ _ _ (hid_get HOPS 28 _ rfl) (wanted_some (hid_get HOPS 14 _ rfl) rfl rfl rfl) (fun K hK => ?_)
                  go_big_op
                  refine (refItemSame_any qit qit qA pA qc pc _ _ _ (IQ.out.ext (ext_drewN wl 1)).at_ (IP.out.ext (ext_drewN wl 1)).at_ IQ.out.le).mono ?_
                  rintro e w11 ⟨rfl, y11⟩
                  rw [itSame_self]
                  have P11 := ext_trans (ext_drewN wl 1) y11
                  refine hK _ _ (fun x' => Ext wl x') P11 (fun _ h => h) ?_
                  clear hK y11
                  first | (refine segH_pass _ _ _ _ _ _ (hid_get HOPS 29 _ rfl) (wanted_some (hid_get HOPS 14 _ rfl) rfl rfl rfl) (fun _ _ _ _ h => h) ?_; simp only [Act.put, List.setIfInBounds_toArray, List.set_cons_zero, List.set_cons_succ]) | (refine segH_pure _ _ _ _ _ _ (hid_get HOPS 29 _ rfl) rfl (wanted_some (hid_get HOPS 14 _ rfl) rfl rfl rfl) (fun _ _ _ _ h => h) ?_; intro K hK; go_big_quiet_op; go_big_quiet_on) | (refine segH_pass _ _ _ _ _ _ (hid_get HOPS 29 _ rfl) (wanted_gone (hid_get HOPS 14 _ rfl) rfl rfl) (fun _ _ _ _ h => h) ?_; simp only [Act.put, List.setIfInBounds_toArray, List.set_cons_zero, List.set_cons_succ])
                  (refine segH_pure _ _ _ _ _ _ (hid_get HOPS 30 _ rfl) rfl wanted_none (fun _ _ _ _ h => h) ?_; intro K hK; go_big_quiet_op; go_big_quiet_on)
                  (refine segH_pure _ _ _ _ _ _ (hid_get HOPS 31 _ rfl) rfl wanted_none (fun _ _ _ _ h => h) ?_; intro K hK; go_big_quiet_op; go_big_quiet_on)
                  first | (refine segH_pass _ _ _ _ _ _ (hid_get HOPS 32 _ rfl) (wanted_some (hid_get HOPS 31 _ rfl) rfl rfl rfl) (fun _ _ _ _ h => h) ?_; simp only [Act.put, List.setIfInBounds_toArray, List.set_cons_zero, List.set_cons_succ]) | (refine segH_load _ _ _ _ _ _ _ _ _ (hid_get HOPS 32 _ rfl) (wanted_some (hid_get HOPS 31 _ rfl) rfl rfl rfl) rfl (fun _ _ _ _ h => h) (fun y hy => by go_simp; try with_reducible rfl) ?_; simp only [Act.put, List.setIfInBounds_toArray, List.set_cons_zero, List.set_cons_succ]) | (refine segH_pass _ _ _ _ _ _ (hid_get HOPS 32 _ rfl) (wanted_gone (hid_get HOPS 31 _ rfl) rfl rfl) (fun _ _ _ _ h => h) ?_; simp only [Act.put, List.setIfInBounds_toArray, List.set_cons_zero, List.set_cons_succ])
                  first | (refine segH_pass _ _ _ _ _ _ (hid_get HOPS 33 _ rfl) (wanted_some (hid_get HOPS 31 _ rfl) rfl rfl rfl) (fun _ _ _ _ h => h) ?_; simp only [Act.put, List.setIfInBounds_toArray, List.set_cons_zero, List.set_cons_succ]) | (refine segH_pure _ _ _ _ _ _ (hid_get HOPS 33 _ rfl) rfl (wanted_some (hid_get HOPS 31 _ rfl) rfl rfl rfl) (fun _ _ _ _ h => h) ?_; intro K hK; go_big_quiet_op; go_big_quiet_on) | (refine segH_pass _ _ _ _ _ _ (hid_get HOPS 33 _ rfl) (wanted_gone (hid_get HOPS 31 _ rfl) rfl rfl) (fun _ _ _ _ h => h) ?_; simp only [Act.put, List.setIfInBounds_toArray, List.set_cons_zero, List.set_cons_succ])
                  first | (refine segH_pass _ _ _ _ _ _ (hid_get HOPS 34 _ rfl) (wanted_some (hid_get HOPS 31 _ rfl) rfl rfl rfl) (fun _ _ _ _ h => h) ?_; simp only [Act.put, List.setIfInBounds_toArray, List.set_cons_zero, List.set_cons_succ]) | (refine segH_pure _ _ _ _ _ _ (hid_get HOPS 34 _ rfl) rfl (wanted_some (hid_get HOPS 31 _ rfl) rfl rfl rfl) (fun _ _ _ _ h => h) ?_; intro K hK; go_big_quiet_op; go_big_quiet_on) | (refine segH_pass _ _ _ _ _ _ (hid_get HOPS 34 _ rfl) (wanted_gone (hid_get HOPS 31 _ rfl) rfl rfl) (fun _ _ _ _ h => h) ?_; simp only [Act.put, List.setIfInBounds_toArray, List.set_cons_zero, List.set_cons_succ])
                  first | (refine segH_pass _ _ _ _ _ _ (hid_get HOPS 35 _ rfl) (wanted_some (hid_get HOPS 31 _ rfl) rfl rfl rfl) (fun _ _ _ _ h => h) ?_; simp only [Act.put, List.setIfInBounds_toArray, List.set_cons_zero, List.set_cons_succ]) | (refine segH_pure _ _ _ _ _ _ (hid_get HOPS 35 _ rfl) rfl (wanted_some (hid_get HOPS 31 _ rfl) rfl rfl rfl) (fun _ _ _ _ h => h) ?_; intro K hK; go_big_quiet_op; go_big_quiet_on) | (refine segH_pass _ _ _ _ _ _ (hid_get HOPS 35 _ rfl) (wanted_gone (hid_get HOPS 31 _ rfl) rfl rfl) (fun _ _ _ _ h => h) ?_; simp only [Act.put, List.setIfInBounds_toArray, List.set_cons_zero, List.set_cons_succ])
                  first | (refine segH_pass _ _ _ _ _ _ (hid_get HOPS 36 _ rfl) (wanted_some (hid_get HOPS 31 _ rfl) rfl rfl rfl) (fun _ _ _ _ h => h) ?_; simp only [Act.put, List.setIfInBounds_toArray, List.set_cons_zero, List.set_cons_succ]) | (refine segH_pure _ _ _ _ _ _ (hid_get HOPS 36 _ rfl) rfl (wanted_some (hid_get HOPS 31 _ rfl) rfl rfl rfl) (fun _ _ _ _ h => h) ?_; intro K hK; go_big_quiet_op; go_big_quiet_on) | (refine segH_pass _ _ _ _ _ _ (hid_get HOPS 36 _ rfl) (wanted_gone (hid_get HOPS 31 _ rfl) rfl rfl) (fun _ _ _ _ h => h) ?_; simp only [Act.put, List.setIfInBounds_toArray, List.set_cons_zero, List.set_cons_succ])
                  first | (refine segH_pass _ _ _ _ _ _ (hid_get HOPS 37 _ rfl) (wanted_some (hid_get HOPS 31 _ rfl) rfl rfl rfl) (fun _ _ _ _ h => h) ?_; simp only [Act.put, List.setIfInBounds_toArray, List.set_cons_zero, List.set_cons_succ]) | (refine segH_load _ _ _ _ _ _ _ _ _ (hid_get HOPS 37 _ rfl) (wanted_some (hid_get HOPS 31 _ rfl) rfl rfl rfl) rfl (fun _ _ _ _ h => h) (fun y hy => by go_simp; try with_reducible rfl) ?_; simp only [Act.put, List.setIfInBounds_toArray, List.set_cons_zero, List.set_cons_succ]) | (refine segH_pass _ _ _ _ _ _ (hid_get HOPS 37 _ rfl) (wanted_gone (hid_get HOPS 31 _ rfl) rfl rfl) (fun _ _ _ _ h => h) ?_; simp only [Act.put, List.setIfInBounds_toArray, List.set_cons_zero, List.set_cons_succ])
                  first | (refine segH_pass _ _ _ _ _ _ (hid_get HOPS 38 _ rfl) (wanted_some (hid_get HOPS 31 _ rfl) rfl rfl rfl) (fun _ _ _ _ h => h) ?_; simp only [Act.put, List.setIfInBounds_toArray, List.set_cons_zero, List.set_cons_succ]) | (refine segH_pure _ _ _ _ _ _ (hid_get HOPS 38 _ rfl) rfl (wanted_some (hid_get HOPS 31 _ rfl) rfl rfl rfl) (fun _ _ _ _ h => h) ?_; intro K hK; go_big_quiet_op; go_big_quiet_on) | (refine segH_pass _ _ _ _ _ _ (hid_get HOPS 38 _ rfl) (wanted_gone (hid_get HOPS 31 _ rfl) rfl rfl) (fun _ _ _ _ h => h) ?_; simp only [Act.put, List.setIfInBounds_toArray, List.set_cons_zero, List.set_cons_succ])
                  first | (refine segH_pass _ _ _ _ _ _ (hid_get HOPS 39 _ rfl) (wanted_some (hid_get HOPS 31 _ rfl) rfl rfl rfl) (fun _ _ _ _ h => h) ?_; simp only [Act.put, List.setIfInBounds_toArray, List.set_cons_zero, List.set_cons_succ]) | (refine segH_pure _ _ _ _ _ _ (hid_get HOPS 39 _ rfl) rfl (wanted_some (hid_get HOPS 31 _ rfl) rfl rfl rfl) (fun _ _ _ _ h => h) ?_; intro K hK; go_big_quiet_op; go_big_quiet_on) | (refine segH_pass _ _ _ _ _ _ (hid_get HOPS 39 _ rfl) (wanted_gone (hid_get HOPS 31 _ rfl) rfl rfl) (fun _ _ _ _ h => h) ?_; simp only [Act.put, List.setIfInBounds_toArray, List.set_cons_zero, List.set_cons_succ])
                  first | (refine segH_pass _ _ _ _ _ _ (hid_get HOPS 40 _ rfl) (wanted_some (hid_get HOPS 31 _ rfl) rfl rfl rfl) (fun _ _ _ _ h => h) ?_; simp only [Act.put, List.setIfInBounds_toArray, List.set_cons_zero, List.set_cons_succ]) | (refine segH_pure _ _ _ _ _ _ (hid_get HOPS 40 _ rfl) rfl (wanted_some (hid_get HOPS 31 _ rfl) rfl rfl rfl) (fun _ _ _ _ h => h) ?_; intro K hK; go_big_quiet_op; go_big_quiet_on) | (refine segH_pass _ _ _ _ _ _ (hid_get HOPS 40 _ rfl) (wanted_gone (hid_get HOPS 31 _ rfl) rfl rfl) (fun _ _ _ _ h => h) ?_; simp only [Act.put, List.setIfInBounds_toArray, List.set_cons_zero, List.set_cons_succ])
                  first | (refine segH_pass _ _ _ _ _ _ (hid_get HOPS 41 _ rfl) (wanted_some (hid_get HOPS 31 _ rfl) rfl rfl rfl) (fun _ _ _ _ h => h) ?_; simp only [Act.put, List.setIfInBounds_toArray, List.set_cons_zero, List.set_cons_succ]) | (refine segH_pure _ _ _ _ _ _ (hid_get HOPS 41 _ rfl) rfl (wanted_some (hid_get HOPS 31 _ rfl) rfl rfl rfl) (fun _ _ _ _ h => h) ?_; intro K hK; go_big_quiet_op; go_big_quiet_on) | (refine segH_pass _ _ _ _ _ _ (hid_get HOPS 41 _ rfl) (wanted_gone (hid_get HOPS 31 _ rfl) rfl rfl) (fun _ _ _ _ h => h) ?_; simp only [Act.put, List.setIfInBounds_toArray, List.set_cons_zero, List.set_cons_succ])
                  first | (refine segH_pass _ _ _ _ _ _ (hid_get HOPS 42 _ rfl) (wanted_some (hid_get HOPS 31 _ rfl) rfl rfl rfl) (fun _ _ _ _ h => h) ?_; simp only [Act.put, List.setIfInBounds_toArray, List.set_cons_zero, List.set_cons_succ]) | (refine segH_pure _ _ _ _ _ _ (hid_get HOPS 42 _ rfl) rfl (wanted_some (hid_get HOPS 31 _ rfl) rfl rfl rfl) (fun _ _ _ _ h => h) ?_; intro K hK; go_big_quiet_op; go_big_quiet_on) | (refine segH_pass _ _ _ _ _ _ (hid_get HOPS 42 _ rfl) (wanted_gone (hid_get HOPS 31 _ rfl) rfl rfl) (fun _ _ _ _ h => h) ?_; simp only [Act.put, List.setIfInBounds_toArray, List.set_cons_zero, List.set_cons_succ])
                  first | (refine segH_pass _ _ _ _ _ _ (hid_get HOPS 43 _ rfl) (wanted_some (hid_get HOPS 31 _ rfl) rfl rfl rfl) (fun _ _ _ _ h => h) ?_; simp only [Act.put, List.setIfInBounds_toArray, List.set_cons_zero, List.set_cons_succ]) | (refine segH_load _ _ _ _ _ _ _ _ _ (hid_get HOPS 43 _ rfl) (wanted_some (hid_get HOPS 31 _ rfl) rfl rfl rfl) rfl (fun _ _ _ _ h => h) (fun y hy => by go_simp; try with_reducible rfl) ?_; simp only [Act.put, List.setIfInBounds_toArray, List.set_cons_zero, List.set_cons_succ]) | (refine segH_pass _ _ _ _ _ _ (hid_get HOPS 43 _ rfl) (wanted_gone (hid_get HOPS 31 _ rfl) rfl rfl) (fun _ _ _ _ h => h) ?_; simp only [Act.put, List.setIfInBounds_toArray, List.set_cons_zero, List.set_cons_succ])
                  refine segH_makes _ _ _ _ _ _ (hid_get HOPS 44 _ rfl) (wanted_some (hid_get HOPS 31 _ rfl) rfl rfl rfl) (fun K hK => ?_)
                  go_big_op
                  refine (refAbove_any A c rs ql qit.level w11 _ (HM10.out.ext (ext_trans HXL.out P11)) HL.out).mono ?_
                  rintro e w12 ⟨rfl, y12⟩
                  rw [HUP.out]
                  have P12 := ext_trans P11 y12
                  refine hK _ _ (fun x' => Ext wl x') P12 (fun _ h => h) ?_
                  clear hK y12
                  first | (refine segH_pass _ _ _ _ _ _ (hid_get HOPS 45 _ rfl) (wanted_some (hid_get HOPS 31 _ rfl) rfl rfl rfl) (fun _ _ _ _ h => h) ?_; simp only [Act.put, List.setIfInBounds_toArray, List.set_cons_zero, List.set_cons_succ]) | (refine segH_pure _ _ _ _ _ _ (hid_get HOPS 45 _ rfl) rfl (wanted_some (hid_get HOPS 31 _ rfl) rfl rfl rfl) (fun _ _ _ _ h => h) ?_; intro K hK; go_big_quiet_op; go_big_quiet_on) | (refine segH_pass _ _ _ _ _ _ (hid_get HOPS 45 _ rfl) (wanted_gone (hid_get HOPS 31 _ rfl) rfl rfl) (fun _ _ _ _ h => h) ?_; simp only [Act.put, List.setIfInBounds_toArray, List.set_cons_zero, List.set_cons_succ])
                  (refine segH_pure _ _ _ _ _ _ (hid_get HOPS 46 _ rfl) rfl wanted_none (fun _ _ _ _ h => h) ?_; intro K hK; go_big_quiet_op; go_big_quiet_on)
                  refine seg_done ?_
                  clear HOPS
                  clear y0 y1 y2 y3 y4 y5 z0 z1 z2 z3 z4 z5 x5 x6
                  have HXF := Lib.hid (ext_trans HXL.out P12)
                  clear P11 P12
                  go_wp2
                  go_roundw
                  case rel => exact ⟨j + 1, hjl, by go_num, HXF.out⟩
                  case measure => simp [intOf]; omega
                · go_wp2
                  go_ret
                  exact ⟨rfl, HX4.out.trans ((HP5.out.trans (HX10.out.trans (HXL.out.mono hB10.out))).mono HB4.out)⟩
      · have HK : Hid (lchk (mat rs) ≠ 0) := hk
        clear hk
        have hk2 : ((lchk (mat rs) : Int) != 0) = true := by have := HK.out; simp; omega
        go_wp2
        go_ret
        exact ⟨rfl, ext_trans x0 y⟩
end Go.Proofs.Ytdknkbpgkkakhaa
