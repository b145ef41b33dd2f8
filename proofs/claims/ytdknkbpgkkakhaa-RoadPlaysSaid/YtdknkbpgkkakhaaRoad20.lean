/- Layer 22: the document's road: Offer. -/
import Derived.Test.YtdknkbpgkkakhaaRoad19
import Derived.Test.YtdknkbpgkkakhaaItem4
namespace Go.Proofs.Ytdknkbpgkkakhaa
open Go.RowKit

section
variable {w w' w0 : World} {B : Nat} {A : Option Addr} {c : Nat} {rs : List Rw} {r : RefMem} {s : RoadSt}
theorem Off.tail {g n c : Nat} {xs : List Iv} {base : Nat} (h : Off elIv w base (.slice (some ⟨g, 0, none⟩) n c) xs) (hn : 1 ≤ n) : Off elIv w base (.slice (some ⟨g, 5, none⟩) (n - 1) (c - 1)) (xs.drop 1) := by
  rcases h with ⟨h, _⟩ | ⟨g', off, cap, cur, hv, hb, hg, hnc, hcm, hcs, hc⟩
  · cases h
  · injection hv with e1 e2 e3
    injection e1 with e1
    injection e1 with e1 e4 _
    subst e1 e3 e4
    have hcs' : 0 + c * 5 ≤ cur.size := hcs
    refine .inr ⟨g, 5, c - 1, cur, by rw [List.length_drop, e2], hb, hg, by rw [List.length_drop]; omega, by omega, by show 5 + (c - 1) * 5 ≤ _; omega, fun j u hj => ?_⟩
    rw [flat_drop (f := elIv.f) (s := 5) Iv.cells_len, List.getElem?_drop] at hj
    have := hc _ u hj
    rw [← this]
    congr 1
    omega
/-- Amid Offer. -/
def RefMid (w wc : World) (B : Nat) (A : Option Addr) (c : Nat) (rs : List Rw) (r : RefMem) (s : RoadSt) (x : Iv) (cs : Array Value) : Prop :=
  ∃ r2, r2.g = r.g ∧ RefAt wc B A c rs r2 s ∧ RefGo B w r wc r2 ∧ Blk wc w.heap.size 33 cs ∧ IvOk wc B x
theorem RefAt.mid (h : RefAt w B A c rs r s) (hB : B ≤ w.heap.size) {w7 : World} (X : Ext w w7) {cs : Array Value} (b : Blk w7 w.heap.size 33 cs) {x : Iv} (hx : IvOk w B x) {d : Nat} (hd : d < 6) {v : Value} {zs : List Iv} (hO : Off elIv w7 B v zs) (hok : ∀ y ∈ zs, IvOk w7 B y) (hnew : ∀ b, v.ownBlock = some b → w.heap.size ≤ b) :
    RefMid w (w7.setCell ⟨r.g, 1 + d, none⟩ v).drew B A c rs r ⟨s.off, fun t => if t = (d : Int) then zs.map Iv.it else s.und t, s.log⟩ x cs := by
  obtain ⟨q1, q2⟩ := h.setTo X hd hO hok hnew
  have h7 := h.ext X
  have e := ext_drewN (w7.setCell ⟨r.g, 1 + d, none⟩ v) 1
  refine ⟨r.setTo d v, rfl, q1.ext e, ⟨q2.below.trans (e.mono (Nat.le_trans hB (Nat.le_trans X.size (by simp [World.setCell])))), q2.mods.trans (Mods.of_below e (fun k => k = r.g)) (fun _ _ e => e), q2.sub⟩, (b.mods (mods_setCell w7 ⟨r.g, 1 + d, none⟩ v) (fun e => blk_ne b h7.blk (by decide) e)).ext e, ((hx.ext X).keeps (h7.keeps80 _ _) (by decide)).ext e⟩

set_option maxRecDepth 100000 in
set_option maxHeartbeats 8000000 in
theorem refOffer_any (h : RefAt w B A c rs r s) (x : Iv) (hx : IvOk w B x) {dd : Int} (hl : rs.length ≤ 9223372036854775807) (hlog : s.log.length < 1000000) (hfew : ∀ t, (s.und t).length ≤ 40) :
    Calls Try.prog 63 #[.pointer (some ⟨r.g, 0, none⟩), .agg #[.int .i64 x.it.level, .int .i64 x.it.n, .int .i64 x.it.turn, .bool x.it.shut, .slice x.A x.it.ws.length x.c], .int .i64 dd] w
      fun e w' => e = .returned (.int .i64 (offerN (mat rs) s x.it dd : Int)) ∧ ∃ r', r'.g = r.g ∧ RefAt w' B A c rs r' (offerSt (mat rs) s x.it dd) ∧ RefGo B w r w' r' := by
  have b0 := Blk.new w 33 #[.int .i64 x.it.level, .int .i64 x.it.n, .int .i64 x.it.turn, .bool x.it.shut, .slice x.A x.it.ws.length x.c]
  have x0 := ext_alloc w (.cells #[.int .i64 x.it.level, .int .i64 x.it.n, .int .i64 x.it.turn, .bool x.it.shut, .slice x.A x.it.ws.length x.c] 33)
  have hx0 := hx.ext x0
  have HH := Lib.hid h
  have HX := Lib.hid hx
  have HFW := Lib.hid hfew
  have HBW := Lib.hid h.base_le
  clear hfew h hx
  go_enter Try.func63, Try.ntmps63
  go_wp2_with fail
  refine (refItemIs_any x.it x.A x.c _ B hx0.at_ hx0.wr hx0.le).mono ?_
  rintro e w1 ⟨rfl, y⟩
  have X1 := ext_trans x0 y
  have b1 := b0.ext y
  clear x0 hx0 b0 y
  cases hi : x.it.is
  · have HR : Hid (offerN (mat rs) s x.it dd = 10 ∧ offerSt (mat rs) s x.it dd = s) := by
      have h1 : offerN (mat rs) s x.it dd = 10 := by simp [offerN, hi]
      exact ⟨h1, by simp [offerSt, h1]⟩
    clear hi b1
    go_wp2
    go_ret
    exact ⟨by rw [HR.out.1]; rfl, r, rfl, by rw [HR.out.2]; exact HH.out.ext X1, .of_ext X1 HBW.out r⟩
  · have HI := Lib.hid hi
    have hbd : 0 ≤ x.it.level ∧ x.it.level ≤ 5 ∧ 1 ≤ x.it.n ∧ x.it.n ≤ 1000000 := by
      have := hi
      simp only [It.is, betw, Bool.and_eq_true, decide_eq_true_eq] at this
      omega
    have HBD := Lib.hid hbd
    clear hi hbd
    go_upto_region 3 with fail
    have r0 := (HH.out.ext X1).blk.cell 0
    rw [HH.out.lat] at r0
    have r1 := b1.cell 0
    simp only [List.getElem?_toArray, List.getElem?_cons_zero] at r1
    have y0 := fun x' (hx : Ext w1 x') => ext_cell hx r0
    have y1 := fun x' (hx : Ext w1 x') => ext_cell hx r1
    clear r0 r1
    refine wp_region_planH (.reads 0 (.reads 1 (.reads 2 (.reads 3 (.reads 4 (.reads 5 (.reads 6 (.makes 7 (.reads 8 (.reads 9 (.done))))))))))) (by kernel_rfl) (by kernel_rfl) (fun x' => Ext w1 x') (ext_drewN w1 1) (fun ops HOPS => ?_)
    (refine segH_pure _ _ _ _ _ _ (hid_get HOPS 0 _ rfl) rfl wanted_none (fun _ _ _ _ h => h) ?_; intro K hK; go_big_quiet_op; go_big_quiet_on)
    (refine segH_nil _ _ _ _ _ _ _ (hid_get HOPS 1 _ rfl) wanted_none rfl (fun _ _ _ _ h => h) ?_; simp only [Act.put, List.setIfInBounds_toArray, List.set_cons_zero, List.set_cons_succ])
    (refine segH_pure _ _ _ _ _ _ (hid_get HOPS 2 _ rfl) rfl wanted_none (fun _ _ _ _ h => h) ?_; intro K hK; go_big_quiet_op; go_big_quiet_on)
    (refine segH_load _ _ _ _ _ _ _ _ _ (hid_get HOPS 3 _ rfl) wanted_none rfl (fun _ _ _ _ h => h) (fun y hy => by go_simp; try with_reducible rfl) ?_; simp only [Act.put, List.setIfInBounds_toArray, List.set_cons_zero, List.set_cons_succ])
    (refine segH_pure _ _ _ _ _ _ (hid_get HOPS 4 _ rfl) rfl wanted_none (fun _ _ _ _ h => h) ?_; intro K hK; go_big_quiet_op; go_big_quiet_on)
    (refine segH_pure _ _ _ _ _ _ (hid_get HOPS 5 _ rfl) rfl wanted_none (fun _ _ _ _ h => h) ?_; intro K hK; go_big_quiet_op; go_big_quiet_on)
    (refine segH_load _ _ _ _ _ _ _ _ _ (hid_get HOPS 6 _ rfl) wanted_none rfl (fun _ _ _ _ h => h) (fun y hy => by go_simp; try with_reducible rfl) ?_; simp only [Act.put, List.setIfInBounds_toArray, List.set_cons_zero, List.set_cons_succ])
    refine segH_makes _ _ _ _ _ _ (hid_get HOPS 7 _ rfl) wanted_none (fun K hK => ?_)
    go_big_op
    refine (refAbove_any A c rs dd x.it.level _ B (HH.out.ext (ext_trans X1 (ext_drewN w1 1))).mat hl).mono ?_
    rintro e w2 ⟨rfl, y⟩
    have P := ext_trans (ext_drewN w1 1) y
    refine hK _ _ (fun x' => Ext w1 x') P (fun _ h => h) ?_
    clear hK y
    (refine segH_pure _ _ _ _ _ _ (hid_get HOPS 8 _ rfl) rfl wanted_none (fun _ _ _ _ h => h) ?_; intro K hK; go_big_quiet_op; go_big_quiet_on)
    (refine segH_pure _ _ _ _ _ _ (hid_get HOPS 9 _ rfl) rfl wanted_none (fun _ _ _ _ h => h) ?_; intro K hK; go_big_quiet_op; go_big_quiet_on)
    refine seg_done ?_
    clear HOPS
    clear y0 y1
    have X2 := ext_trans X1 P
    have b2 := b1.ext P
    clear X1 b1 P
    cases hab : labove (mat rs) dd x.it.level
    · have HR : Hid (offerN (mat rs) s x.it dd = 20 ∧ offerSt (mat rs) s x.it dd = s) := by
        have h1 : offerN (mat rs) s x.it dd = 20 := by simp [offerN, HI.out, hab]
        exact ⟨h1, by simp [offerSt, h1]⟩
      clear hab b2
      go_wp2
      go_ret
      exact ⟨by rw [HR.out.1]; rfl, r, rfl, by rw [HR.out.2]; exact HH.out.ext X2, .of_ext X2 HBW.out r⟩
    · have HAB := Lib.hid hab
      have hd := ldom_lt (above_iff.1 hab).2
      have hlv := levels_le (mat rs)
      obtain ⟨d, rfl⟩ := Int.eq_ofNat_of_zero_le hd.1
      obtain ⟨a, ha⟩ := Int.eq_ofNat_of_zero_le hd.2.2.1
      have hd6 : d < 6 := by omega
      have ha6 : a < 6 := by omega
      have HA := Lib.hid ha
      rw [ha] at b2
      clear hab hd hlv ha
      go_upto_region 5 with fail
      have p0 := b2.cell 0
      have p1 := b2.cell 1
      simp only [List.getElem?_toArray, List.getElem?_cons_zero, List.getElem?_cons_succ] at p0 p1
      have p2 := (HH.out.ext X2).blk.cell (7 + a * 6 + d)
      rw [HH.out.offc a d ha6 hd6] at p2
      have hwn : IntKind.i64.wrap (x.it.n - 1) = x.it.n - 1 := IntWalk.i64_in _ (by have := HBD.out; omega)
      have hbn := HBD.out
      obtain ⟨hb0, hb1, hb2, hb3⟩ := hbn
      go_quiet (fail)
      generalize hW3 : w2.drewN _ = w3
      have X3 : Ext w2 w3 := hW3 ▸ ext_drewN w2 _
      clear hW3 p0 p1 p2 hb0 hb1 hb2 hb3
      replace X2 := ext_trans X2 X3
      replace b2 := b2.ext X3
      clear X3
      have HOFF : Hid (offerN (mat rs) s x.it d = if x.it.n - 1 = s.off ((a : Int), (d : Int)) then 0 else 23) := by
        show _ = _
        rw [offerN, if_pos HI.out, if_pos HAB.out, HA.out]
      cases hg : (x.it.n - 1 != s.off ((a : Int), (d : Int)))
      · have HN : Hid (offerN (mat rs) s x.it d = 0) := by show _ = _; rw [HOFF.out, if_pos (by simpa using hg)]
        clear hg hwn
        have h2 := HH.out.ext X2
        obtain ⟨ys, hO, hys, hok⟩ := h2.unds d hd6
        obtain ⟨A0, c0, hv⟩ := hO.form
        have hR := hO
        rw [hv] at hR
        have HR0 : Hid (RowsIv w3 B A0 ys) := hR.rows (B := B)
        have hl40 : ys.length ≤ 40 := by
          have := HFW.out d
          rw [← hys, List.length_map] at this
          exact this
        have HYS : Hid (ys.map Iv.it = s.und d) := hys
        have HOK := Lib.hid hok
        have p5 := h2.blk.cell (1 + d)
        rw [h2.toc d hd6, hv] at p5
        have p0 := b2.cell 0
        have p1 := b2.cell 1
        have p2 := b2.cell 2
        have p3 := b2.cell 3
        have p4 := b2.cell 4
        simp only [List.getElem?_toArray, List.getElem?_cons_zero, List.getElem?_cons_succ] at p0 p1 p2 p3 p4
        have y0 := fun x' (hx : Ext w3 x') => ext_cell hx p0
        have y1 := fun x' (hx : Ext w3 x') => ext_cell hx p1
        have y2 := fun x' (hx : Ext w3 x') => ext_cell hx p2
        have y3 := fun x' (hx : Ext w3 x') => ext_cell hx p3
        have y4 := fun x' (hx : Ext w3 x') => ext_cell hx p4
        have y5 := fun x' (hx : Ext w3 x') => ext_cell hx p5
        clear p0 p1 p2 p3 p4 p5 hO hys hok hv hR h2
        go_upto_region 7 with fail
        go_cut [7] (fun v wc => (∃ A' c' , v = .slice A' (ys.length + 1) c' ∧ Own elIv wc w3.heap.size v (ys ++ [⟨⟨(a : Int), x.it.n, x.it.turn, x.it.shut, x.it.ws⟩, x.A, x.c⟩])) ∧ Ext w3 wc)
        case first =>
          refine wp_region_planH3 (.reads 0 (.reads 1 (.reads 2 (.reads 3 (.reads 4 (.reads 5 (.reads 7 (.fork 6 (.makes 8 (.makes 9 (.reads 10 (.done)))) 8 (.makes 6 (.makes 9 (.reads 10 (.done)))))))))))) (by kernel_rfl) (by kernel_rfl) (fun x' => Ext w3 x') (ext_drewN w3 1) (fun ops HOPS => ?_)
          (refine segH_pure _ _ _ _ _ _ (hid_get HOPS 0 _ rfl) rfl wanted_none (fun _ _ _ _ h => h) ?_; intro K hK; go_big_quiet_op; go_big_quiet_on)
          (refine segH_pure _ _ _ _ _ _ (hid_get HOPS 1 _ rfl) rfl wanted_none (fun _ _ _ _ h => h) ?_; intro K hK; go_big_quiet_op; go_big_quiet_on)
          (refine segH_nil _ _ _ _ _ _ _ (hid_get HOPS 2 _ rfl) wanted_none rfl (fun _ _ _ _ h => h) ?_; simp only [Act.put, List.setIfInBounds_toArray, List.set_cons_zero, List.set_cons_succ])
          (refine segH_pure _ _ _ _ _ _ (hid_get HOPS 3 _ rfl) rfl wanted_none (fun _ _ _ _ h => h) ?_; intro K hK; go_big_quiet_op; go_big_quiet_on)
          (refine segH_pure _ _ _ _ _ _ (hid_get HOPS 4 _ rfl) rfl wanted_none (fun _ _ _ _ h => h) ?_; intro K hK; go_big_quiet_op; go_big_quiet_on)
          (refine segH_load _ _ _ _ _ _ _ _ _ (hid_get HOPS 5 _ rfl) wanted_none rfl (fun _ _ _ _ h => h) (fun y hy => by go_simp; try with_reducible rfl) ?_; simp only [Act.put, List.setIfInBounds_toArray, List.set_cons_zero, List.set_cons_succ])
          (refine segH_load _ _ _ _ _ _ _ _ _ (hid_get HOPS 7 _ rfl) wanted_none rfl (fun _ _ _ _ h => h) (fun y hy => by go_simp; try with_reducible rfl) ?_; simp only [Act.put, List.setIfInBounds_toArray, List.set_cons_zero, List.set_cons_succ])
          refine segH_fork _ _ _ _ _ _ _ _ _ _ _ _ (hid_get HOPS 6 _ rfl) (hid_get HOPS 8 _ rfl) wanted_none wanted_none (fun K hK => ?_) (fun K hK => ?_)
          · refine wp_append elIv _ _ rfl w3.heap.size (.slice none 0 0) [] rfl (Own.nil _ _) A0 c0 ys rfl B (RowsAt.ext HR0.out (ext_drewN w3 1)) (by show _ * 56 ≤ _; simp; omega) (by simp; omega) (by simp) ?_
            intro A5 c5 w5 hown5 hg5 hat5
            have P5 : Ext w3 w5 := ext_trans (ext_drewN w3 1) ((Below.refl _ _).grown hg5 (Nat.le_refl _) (fun k hk => by cases hk))
            rw [List.nil_append] at hown5 ⊢
            refine hK _ _ (fun x' => Ext w3 x') P5 (fun _ h => h) ?_
            clear hK hg5 hat5
            simp only [Act.put, List.setIfInBounds_toArray, List.set_cons_zero, List.set_cons_succ]
            refine segH_makes _ _ _ _ _ _ (hid_get HOPS 8 _ rfl) wanted_none (fun K hK => ?_)
            go_big_op
            have P6 : Ext w3 (w5.alloc (.cells (Iv.cells (⟨⟨(a : Int), x.it.n, x.it.turn, x.it.shut, x.it.ws⟩, x.A, x.c⟩ : Iv)).toArray 33)) := ext_trans P5 (ext_alloc _ _)
            have HB := Lib.hid (rows_block (E := elIv) (B := B) (⟨⟨(a : Int), x.it.n, x.it.turn, x.it.shut, x.it.ws⟩, x.A, x.c⟩ : Iv) (Blk.new w5 33 (Iv.cells (⟨⟨(a : Int), x.it.n, x.it.turn, x.it.shut, x.it.ws⟩, x.A, x.c⟩ : Iv)).toArray))
            have hO6 : Own elIv (w5.alloc (.cells (Iv.cells (⟨⟨(a : Int), x.it.n, x.it.turn, x.it.shut, x.it.ws⟩, x.A, x.c⟩ : Iv)).toArray 33)) w3.heap.size (.slice A5 ys.length c5) ys := hown5.ext (ext_alloc _ _)
            refine hK _ _ (fun x' => Ext w3 x') P6 (fun _ h => h) ?_
            clear hK hown5
            refine segH_makes _ _ _ _ _ _ (hid_get HOPS 9 _ rfl) wanted_none (fun K hK => ?_)
            refine wp_append elIv _ _ rfl w3.heap.size (.slice A5 ys.length c5) ys rfl hO6 _ 1 [(⟨⟨(a : Int), x.it.n, x.it.turn, x.it.shut, x.it.ws⟩, x.A, x.c⟩ : Iv)] rfl B HB.out (by show _ * 56 ≤ _; simp; omega) (by simp; omega) P6.size ?_
            intro A2 c2 w7 hown7 hg7 hat7
            have P7 : Ext w3 w7 := P6.grown hg7 P6.size (fun k hk => (hO6.typed hk).1)
            rw [List.length_append, List.length_singleton]
            have HO7 : Hid (Own elIv w7 w3.heap.size (.slice A2 (ys.length + 1) c2) (ys ++ [(⟨⟨(a : Int), x.it.n, x.it.turn, x.it.shut, x.it.ws⟩, x.A, x.c⟩ : Iv)])) := by
              have := hown7
              rw [List.length_append, List.length_singleton] at this
              exact this
            refine hK _ _ (fun x' => Ext w3 x') P7 (fun _ h => h) ?_
            clear hK hown7 hg7 hat7
            simp only [Act.put, List.setIfInBounds_toArray, List.set_cons_zero, List.set_cons_succ]
            (refine segH_pure _ _ _ _ _ _ (hid_get HOPS 10 _ rfl) rfl wanted_none (fun _ _ _ _ h => h) ?_; intro K hK; go_big_quiet_op; go_big_quiet_on)
            refine seg_done ?_
            clear HOPS
            go_wp2
            go_meet
            exact ⟨⟨A2, c2, rfl, HO7.out⟩, P7⟩
          · go_big_op
            have P6 : Ext w3 (w3.alloc (.cells (Iv.cells (⟨⟨(a : Int), x.it.n, x.it.turn, x.it.shut, x.it.ws⟩, x.A, x.c⟩ : Iv)).toArray 33)).drew := ext_trans (ext_alloc _ _) (ext_drewN _ 1)
            have HB0 := Lib.hid (rows_block (E := elIv) (B := B) (⟨⟨(a : Int), x.it.n, x.it.turn, x.it.shut, x.it.ws⟩, x.A, x.c⟩ : Iv) (Blk.new w3 33 (Iv.cells (⟨⟨(a : Int), x.it.n, x.it.turn, x.it.shut, x.it.ws⟩, x.A, x.c⟩ : Iv)).toArray))
            refine hK _ _ (fun x' => Ext w3 x') P6 (fun _ h => h) ?_
            clear hK
            refine segH_makes _ _ _ _ _ _ (hid_get HOPS 6 _ rfl) wanted_none (fun K hK => ?_)
            refine wp_append elIv _ _ rfl w3.heap.size (.slice none 0 0) [] rfl (Own.nil _ _) A0 c0 ys rfl B (RowsAt.ext HR0.out P6) (by show _ * 56 ≤ _; simp; omega) (by simp; omega) P6.size ?_
            intro A5 c5 w5 hown5 hg5 hat5
            have h65 : Ext (w3.alloc (.cells (Iv.cells (⟨⟨(a : Int), x.it.n, x.it.turn, x.it.shut, x.it.ws⟩, x.A, x.c⟩ : Iv)).toArray 33)).drew w5 := (Below.refl _ _).grown hg5 (Nat.le_refl _) (fun k hk => by cases hk)
            have P5 : Ext w3 w5 := ext_trans P6 h65
            rw [List.nil_append] at hown5 ⊢
            have HB := Lib.hid (RowsAt.ext (RowsAt.ext HB0.out (ext_drewN _ 1)) h65)
            refine hK _ _ (fun x' => Ext w3 x') P5 (fun _ h => h) ?_
            clear hK hg5 hat5 h65
            simp only [Act.put, List.setIfInBounds_toArray, List.set_cons_zero, List.set_cons_succ]
            refine segH_makes _ _ _ _ _ _ (hid_get HOPS 9 _ rfl) wanted_none (fun K hK => ?_)
            refine wp_append elIv _ _ rfl w3.heap.size (.slice A5 ys.length c5) ys rfl hown5 _ 1 [(⟨⟨(a : Int), x.it.n, x.it.turn, x.it.shut, x.it.ws⟩, x.A, x.c⟩ : Iv)] rfl B HB.out (by show _ * 56 ≤ _; simp; omega) (by simp; omega) P5.size ?_
            intro A2 c2 w7 hown7 hg7 hat7
            have P7 : Ext w3 w7 := P5.grown hg7 P5.size (fun k hk => (hown5.typed hk).1)
            rw [List.length_append, List.length_singleton]
            have HO7 : Hid (Own elIv w7 w3.heap.size (.slice A2 (ys.length + 1) c2) (ys ++ [(⟨⟨(a : Int), x.it.n, x.it.turn, x.it.shut, x.it.ws⟩, x.A, x.c⟩ : Iv)])) := by
              have := hown7
              rw [List.length_append, List.length_singleton] at this
              exact this
            refine hK _ _ (fun x' => Ext w3 x') P7 (fun _ h => h) ?_
            clear hK hown7 hg7 hat7
            simp only [Act.put, List.setIfInBounds_toArray, List.set_cons_zero, List.set_cons_succ]
            (refine segH_pure _ _ _ _ _ _ (hid_get HOPS 10 _ rfl) rfl wanted_none (fun _ _ _ _ h => h) ?_; intro K hK; go_big_quiet_op; go_big_quiet_on)
            refine seg_done ?_
            clear HOPS
            go_wp2
            go_meet
            exact ⟨⟨A2, c2, rfl, HO7.out⟩, P7⟩
        case rest =>
          obtain ⟨⟨A7, c7, rfl, hO7⟩, P7⟩ := hcut
          rename World => w7
          have X7 := ext_trans X2 P7
          have b7 := b2.ext P7
          clear b2 y0 y1 y2 y3 y4 y5
          rcases hO7.2 with ⟨_, h0⟩ | ⟨g7, cap7, cur7, hv7, hg7, hh7, hnc7, hcm7, hcs7, htk7⟩
          · rw [List.length_append, List.length_singleton] at h0; omega
          injection hv7 with ea eb ec
          subst ea ec
          rw [List.length_append, List.length_singleton] at hnc7
          have h7 := HH.out.ext X7
          have r0 := h7.blk.cell (1 + d)
          rw [h7.toc d hd6] at r0
          have fz := h7.blk.frozen
          have HO7 := Lib.hid hO7
          have hwr : IntKind.i64.wrap (((ys.length : Int) + 1) - 40) = ((ys.length : Int) + 1) - 40 := IntWalk.i64_in _ (by omega)
          clear hO7 hg7 hh7 hcm7 hcs7 htk7 eb h7
          have y0 := fun x' (hx : Ext w7 x') => ext_cell hx r0
          have yf : ∀ x', Ext w7 x' → ∀ i, x'.frozen? ⟨r.g, i, none⟩ = false := fun x' hx i => ((HH.out.ext X7).ext hx).blk.frozen i
          have z0 := y0 w7.drew (ext_drewN w7 1)
          have zf := yf w7.drew (ext_drewN w7 1)
          clear fz r0
          have hxe : (⟨⟨(a : Int), x.it.n, x.it.turn, x.it.shut, x.it.ws⟩, x.A, x.c⟩ : Iv) = x := by rw [← HA.out]
          rw [hxe] at HO7
          have HOK7 : Hid (∀ y ∈ ys ++ [x], IvOk w7 B y) := fun y hy => by
            rcases List.mem_append.1 hy with hy | hy
            · exact (HOK.out y hy).ext P7
            · have e1 : y = x := by simpa using hy
              rw [e1]; exact HX.out.ext X7
          have hnew7 : w.heap.size ≤ g7 := Nat.le_trans X2.size (HO7.out.typed rfl).1
          have HOF : Hid (Off elIv w7 B (.slice (some ⟨g7, 0, none⟩) (ys.length + 1) c7) (ys ++ [x])) := (HO7.out.off).le (Nat.le_trans HBW.out X2.size)
          have HS8 : Hid (last40 (s.und d ++ [x.it]) = ((ys ++ [x]).drop (ys.length + 1 - 40)).map Iv.it) := by
            have h5 : ys.map Iv.it = s.und d := HYS.out
            show _ = _
            rw [last40, ← h5, List.map_drop]
            simp
          go_upto_region 8 with fail
          go_cut [46] (fun _ wc => RefMid w wc B A c rs r ⟨s.off, fun t => if t = (d : Int) then last40 (s.und d ++ [x.it]) else s.und t, s.log⟩ x #[.int .i64 (a : Int), .int .i64 x.it.n, .int .i64 x.it.turn, .bool x.it.shut, .slice x.A x.it.ws.length x.c])
          case first =>
           by_cases hz : ys.length < 40
           · have HM8 := HH.out.mid HBW.out X7 b7 HX.out hd6 HOF.out HOK7.out (fun b hb => by
               have e1 : g7 = b := by simpa [Value.ownBlock] using hb
               omega)
             rw [show ((ys ++ [x]).map Iv.it) = last40 (s.und d ++ [x.it]) by rw [HS8.out, show ys.length + 1 - 40 = 0 by omega]; rfl] at HM8
             have HM8' := Lib.hid HM8
             clear HM8
             refine wp_region_planH3 (.reads 0 (.reads 1 (.reads 2 (.reads 3 (.reads 4 (.reads 5 (.reads 6 (.reads 7 (.reads 8 (.reads 9 (.reads 10 (.turns 11 (.done))))))))))))) (by kernel_rfl) (by kernel_rfl) (fun x' => Ext w7 x') (ext_drewN w7 1) (fun ops HOPS => ?_)
             (refine segH_pure _ _ _ _ _ _ (hid_get HOPS 0 _ rfl) rfl wanted_none (fun _ _ _ _ h => h) ?_; intro K hK; go_big_quiet_op; go_big_quiet_on)
             (refine segH_pure _ _ _ _ _ _ (hid_get HOPS 1 _ rfl) rfl wanted_none (fun _ _ _ _ h => h) ?_; intro K hK; go_big_quiet_op; go_big_quiet_on)
             (refine segH_pure _ _ _ _ _ _ (hid_get HOPS 2 _ rfl) rfl wanted_none (fun _ _ _ _ h => h) ?_; intro K hK; go_big_quiet_op; go_big_quiet_on)
             (refine segH_pure _ _ _ _ _ _ (hid_get HOPS 3 _ rfl) rfl wanted_none (fun _ _ _ _ h => h) ?_; intro K hK; go_big_quiet_op; go_big_quiet_on)
             (refine segH_pure _ _ _ _ _ _ (hid_get HOPS 4 _ rfl) rfl wanted_none (fun _ _ _ _ h => h) ?_; intro K hK; go_big_quiet_op; go_big_quiet_on)
             (refine segH_pure _ _ _ _ _ _ (hid_get HOPS 5 _ rfl) rfl wanted_none (fun _ _ _ _ h => h) ?_; intro K hK; go_big_quiet_op; go_big_quiet_on)
             (refine segH_pure _ _ _ _ _ _ (hid_get HOPS 6 _ rfl) rfl wanted_none (fun _ _ _ _ h => h) ?_; intro K hK; go_big_quiet_op; go_big_quiet_on)
             (refine segH_pure _ _ _ _ _ _ (hid_get HOPS 7 _ rfl) rfl wanted_none (fun _ _ _ _ h => h) ?_; intro K hK; go_big_quiet_op; go_big_quiet_on)
             (refine segH_nil _ _ _ _ _ _ _ (hid_get HOPS 8 _ rfl) wanted_none rfl (fun _ _ _ _ h => h) ?_; simp only [Act.put, List.setIfInBounds_toArray, List.set_cons_zero, List.set_cons_succ])
             (refine segH_pure _ _ _ _ _ _ (hid_get HOPS 9 _ rfl) rfl wanted_none (fun _ _ _ _ h => h) ?_; intro K hK; go_big_quiet_op; go_big_quiet_on)
             (refine segH_pure _ _ _ _ _ _ (hid_get HOPS 10 _ rfl) rfl wanted_none (fun _ _ _ _ h => h) ?_; intro K hK; go_big_quiet_op; go_big_quiet_on)
             refine segH_turns _ _ _ _ _ _ (hid_get HOPS 11 _ rfl) wanted_none (fun K hK => ?_)
             go_big_op
             refine hK _ _ (fun _ => True) trivial ?_
             clear hK
             refine seg_done ?_
             clear HOPS
             clear y0 yf z0 zf
             go_wp2
             go_meet
             exact HM8'.out
           · have hz' : ys.length = 40 := by omega
             have HM8 := HH.out.mid HBW.out X7 b7 HX.out hd6 (v := .slice (some ⟨g7, 5, none⟩) 40 (c7 - 1)) (zs := (ys ++ [x]).drop 1) (by have := HOF.out.tail (by omega); rw [show ys.length + 1 - 1 = 40 by omega] at this; exact this) (fun y hy => HOK7.out y (List.mem_of_mem_drop hy)) (fun b hb => by
               have e1 : g7 = b := by simpa [Value.ownBlock] using hb
               omega)
             rw [show (((ys ++ [x]).drop 1).map Iv.it) = last40 (s.und d ++ [x.it]) by rw [HS8.out, show ys.length + 1 - 40 = 1 by omega]] at HM8
             have HM8' := Lib.hid HM8
             clear HM8
             refine wp_region_planH3 (.reads 0 (.reads 1 (.reads 2 (.reads 3 (.reads 4 (.reads 5 (.reads 6 (.reads 7 (.reads 8 (.reads 9 (.reads 10 (.turns 11 (.done))))))))))))) (by kernel_rfl) (by kernel_rfl) (fun x' => Ext w7 x') (ext_drewN w7 1) (fun ops HOPS => ?_)
             (refine segH_pure _ _ _ _ _ _ (hid_get HOPS 0 _ rfl) rfl wanted_none (fun _ _ _ _ h => h) ?_; intro K hK; go_big_quiet_op; go_big_quiet_on)
             (refine segH_pure _ _ _ _ _ _ (hid_get HOPS 1 _ rfl) rfl wanted_none (fun _ _ _ _ h => h) ?_; intro K hK; go_big_quiet_op; go_big_quiet_on)
             (refine segH_pure _ _ _ _ _ _ (hid_get HOPS 2 _ rfl) rfl wanted_none (fun _ _ _ _ h => h) ?_; intro K hK; go_big_quiet_op; go_big_quiet_on)
             (refine segH_pure _ _ _ _ _ _ (hid_get HOPS 3 _ rfl) rfl wanted_none (fun _ _ _ _ h => h) ?_; intro K hK; go_big_quiet_op; go_big_quiet_on)
             (refine segH_pure _ _ _ _ _ _ (hid_get HOPS 4 _ rfl) rfl wanted_none (fun _ _ _ _ h => h) ?_; intro K hK; go_big_quiet_op; go_big_quiet_on)
             (refine segH_pure _ _ _ _ _ _ (hid_get HOPS 5 _ rfl) rfl wanted_none (fun _ _ _ _ h => h) ?_; intro K hK; go_big_quiet_op; go_big_quiet_on)
             (refine segH_pure _ _ _ _ _ _ (hid_get HOPS 6 _ rfl) rfl wanted_none (fun _ _ _ _ h => h) ?_; intro K hK; go_big_quiet_op; go_big_quiet_on)
             (refine segH_pure _ _ _ _ _ _ (hid_get HOPS 7 _ rfl) rfl wanted_none (fun _ _ _ _ h => h) ?_; intro K hK; go_big_quiet_op; go_big_quiet_on)
             (refine segH_nil _ _ _ _ _ _ _ (hid_get HOPS 8 _ rfl) wanted_none rfl (fun _ _ _ _ h => h) ?_; simp only [Act.put, List.setIfInBounds_toArray, List.set_cons_zero, List.set_cons_succ])
             (refine segH_pure _ _ _ _ _ _ (hid_get HOPS 9 _ rfl) rfl wanted_none (fun _ _ _ _ h => h) ?_; intro K hK; go_big_quiet_op; go_big_quiet_on)
             (refine segH_pure _ _ _ _ _ _ (hid_get HOPS 10 _ rfl) rfl wanted_none (fun _ _ _ _ h => h) ?_; intro K hK; go_big_quiet_op; go_big_quiet_on)
             refine segH_turns _ _ _ _ _ _ (hid_get HOPS 11 _ rfl) wanted_none (fun K hK => ?_)
             go_big_op
             refine hK _ _ (fun _ => True) trivial ?_
             clear hK
             refine seg_done ?_
             clear HOPS
             clear y0 yf z0 zf
             go_wp2
             go_meet
             exact HM8'.out
          case rest =>
            obtain ⟨r2, hg2, h8, go8, b8, hx8⟩ := hcut
            rename World => w8
            have HB8 := Lib.hid h8.base_le
            have p0 := b8.cell 0
            have p1 := b8.cell 1
            simp only [List.getElem?_toArray, List.getElem?_cons_zero, List.getElem?_cons_succ] at p0 p1
            have p5 := h8.blk.cell (7 + a * 6 + d)
            rw [h8.offc a d ha6 hd6, hg2] at p5
            have hn8 : ¬ (w.heap.size = r.g) := fun e => blk_ne b8 h8.blk (by decide) (by rw [hg2]; exact e)
            have y0 := fun x' (hx : Mods (fun k => k = r.g) w8 x') => (b8.mods hx hn8).cell 0
            have y1 := fun x' (hx : Mods (fun k => k = r.g) w8 x') => (b8.mods hx hn8).cell 1
            simp only [List.getElem?_toArray, List.getElem?_cons_zero, List.getElem?_cons_succ] at y0 y1
            have z0 := p5
            have zf : ∀ i, w8.frozen? ⟨r.g, i, none⟩ = false := fun i => by rw [← hg2]; exact h8.blk.frozen i
            have hM9 : Mods (fun k => k = r.g) w8 (w8.setCell ⟨r.g, 7 + a * 6 + d, none⟩ (.int .i64 x.it.n)).drew := (mods_setCell w8 ⟨r.g, 7 + a * 6 + d, none⟩ (.int .i64 x.it.n)).trans (Mods.of_below (ext_drewN _ 1) (fun k => k = r.g)) (fun _ _ e => e)
            obtain ⟨q1, q2⟩ := h8.setOff ha6 hd6 x.it.n
            have e9 : Ext (w8.setCell ⟨r2.g, 7 + a * 6 + d, none⟩ (.int .i64 x.it.n)) (w8.setCell ⟨r2.g, 7 + a * 6 + d, none⟩ (.int .i64 x.it.n)).drew := ext_drewN (w8.setCell ⟨r2.g, 7 + a * 6 + d, none⟩ (.int .i64 x.it.n)) 1
            have h9 := q1.ext e9
            have go9 : RefGo B w r (w8.setCell ⟨r2.g, 7 + a * 6 + d, none⟩ (.int .i64 x.it.n)).drew (r2.setOff a d x.it.n) :=
              ⟨(go8.below.trans q2.below).trans (e9.mono q1.base_le), (go8.mods.trans q2.mods (fun k _ e => by rw [hg2] at e; exact e)).trans (Mods.of_below e9 (fun k => k = r.g)) (fun _ _ e => e), fun g hg => by
                rcases q2.sub g hg with h5 | h5
                · exact go8.sub g h5
                · exact .inr (Nat.le_trans go8.below.size h5)⟩
            have b9 := ((b8.mods (mods_setCell w8 ⟨r2.g, 7 + a * 6 + d, none⟩ (.int .i64 x.it.n)) (fun e => blk_ne b8 h8.blk (by decide) e)).ext e9)
            have hx9 := (hx8.keeps (h8.keeps80 (7 + a * 6 + d) (.int .i64 x.it.n)) (by decide)).ext e9
            rw [hg2] at h9 go9 b9 hx9
            have H9 := Lib.hid (And.intro h9 (And.intro go9 (And.intro b9 hx9)))
            have HG9 : Hid ((r2.setOff a d x.it.n).g = r.g) := hg2
            clear q1 q2 e9 h9 go9 b9 hx9 h8 go8 b8 hx8 p0 p1 p5 hg2
            go_upto_region 9 with fail
            refine wp_region_planH3 (.reads 0 (.reads 1 (.reads 2 (.reads 3 (.reads 4 (.reads 5 (.reads 6 (.reads 7 (.reads 8 (.reads 9 (.makes 10 (.done)))))))))))) (by kernel_rfl) (by kernel_rfl) (fun x' => Mods (fun k => k = r.g) w8 x') (Mods.of_below (ext_drewN w8 1) _) (fun ops HOPS => ?_)
            (refine segH_pure _ _ _ _ _ _ (hid_get HOPS 0 _ rfl) rfl wanted_none (fun _ _ _ _ h => h) ?_; intro K hK; go_big_quiet_op; go_big_quiet_on)
            (refine segH_pure _ _ _ _ _ _ (hid_get HOPS 1 _ rfl) rfl wanted_none (fun _ _ _ _ h => h) ?_; intro K hK; go_big_quiet_op; go_big_quiet_on)
            (refine segH_load _ _ _ _ _ _ _ _ _ (hid_get HOPS 2 _ rfl) wanted_none rfl (fun _ _ _ _ h => h) (fun y hy => by go_simp; try with_reducible rfl) ?_; simp only [Act.put, List.setIfInBounds_toArray, List.set_cons_zero, List.set_cons_succ])
            (refine segH_pure _ _ _ _ _ _ (hid_get HOPS 3 _ rfl) rfl wanted_none (fun _ _ _ _ h => h) ?_; intro K hK; go_big_quiet_op; go_big_quiet_on)
            (refine segH_pure _ _ _ _ _ _ (hid_get HOPS 4 _ rfl) rfl wanted_none (fun _ _ _ _ h => h) ?_; intro K hK; go_big_quiet_op; go_big_quiet_on)
            (refine segH_load _ _ _ _ _ _ _ _ _ (hid_get HOPS 5 _ rfl) wanted_none rfl (fun _ _ _ _ h => h) (fun y hy => by go_simp; try with_reducible rfl) ?_; simp only [Act.put, List.setIfInBounds_toArray, List.set_cons_zero, List.set_cons_succ])
            (refine segH_nil _ _ _ _ _ _ _ (hid_get HOPS 6 _ rfl) wanted_none rfl (fun _ _ _ _ h => h) ?_; simp only [Act.put, List.setIfInBounds_toArray, List.set_cons_zero, List.set_cons_succ])
            (refine segH_pure _ _ _ _ _ _ (hid_get HOPS 7 _ rfl) rfl wanted_none (fun _ _ _ _ h => h) ?_; intro K hK; go_big_quiet_op; go_big_quiet_on)
            (refine segH_pure _ _ _ _ _ _ (hid_get HOPS 8 _ rfl) rfl wanted_none (fun _ _ _ _ h => h) ?_; intro K hK; go_big_quiet_op; go_big_quiet_on)
            (refine segH_pure _ _ _ _ _ _ (hid_get HOPS 9 _ rfl) rfl wanted_none (fun _ _ _ _ h => h) ?_; intro K hK; go_big_quiet_op; go_big_quiet_on)
            refine segH_makes _ _ _ _ _ _ (hid_get HOPS 10 _ rfl) wanted_none (fun K hK => ?_)
            go_big_op
            refine hK _ _ (fun x' => Mods (fun k => k = r.g) w8 x') hM9 (fun _ h => h) ?_
            clear hK
            refine seg_done ?_
            clear HOPS
            clear y0 y1 z0 zf hM9 hn8
            obtain ⟨h9, go9, b9, hx9⟩ := H9.out
            generalize (w8.setCell ⟨r.g, 7 + a * 6 + d, none⟩ (.int .i64 x.it.n)).drew = w9 at h9 go9 b9 hx9 ⊢
            generalize r2.setOff a d x.it.n = r9 at h9 go9 HG9
            clear H9
            obtain ⟨ps, hOL, hps, hokL⟩ := h9.log
            obtain ⟨Al, cl, hvl⟩ := hOL.form
            have hpl : ps.length < 1000000 := by
              have h5 := congrArg List.length hps
              rw [prs_length] at h5
              rw [h5]
              exact hlog
            have p5 := h9.blk.cell 43
            rw [h9.logc, hvl, HG9.out] at p5
            rw [hvl] at hOL
            have p0 := b9.cell 0
            have p1 := b9.cell 1
            have p2 := b9.cell 2
            have p3 := b9.cell 3
            have p4 := b9.cell 4
            simp only [List.getElem?_toArray, List.getElem?_cons_zero, List.getElem?_cons_succ] at p0 p1 p2 p3 p4
            have y0 := fun x' (hx : Ext w9 x') => ext_cell hx p0
            have y1 := fun x' (hx : Ext w9 x') => ext_cell hx p1
            have y2 := fun x' (hx : Ext w9 x') => ext_cell hx p2
            have y3 := fun x' (hx : Ext w9 x') => ext_cell hx p3
            have y4 := fun x' (hx : Ext w9 x') => ext_cell hx p4
            have y5 := fun x' (hx : Ext w9 x') => ext_cell hx p5
            have HRL : Hid (RowsAt w9 B 94 6 Pv.cells Al ps) := hOL.rows (B := B)
            have hxe : (⟨⟨(a : Int), x.it.n, x.it.turn, x.it.shut, x.it.ws⟩, x.A, x.c⟩ : Iv) = x := by rw [← HA.out]
            have HOK9 : Hid (∀ {wz : World}, Ext w9 wz → ∀ p ∈ ps ++ [(⟨(d : Int), ⟨⟨(a : Int), x.it.n, x.it.turn, x.it.shut, x.it.ws⟩, x.A, x.c⟩⟩ : Pv)], IvOk wz B p.x) := fun {wz} X p hp => by
              rcases List.mem_append.1 hp with hp | hp
              · exact (hokL p hp).ext X
              · have e1 : p = (⟨(d : Int), ⟨⟨(a : Int), x.it.n, x.it.turn, x.it.shut, x.it.ws⟩, x.A, x.c⟩⟩ : Pv) := by simpa using hp
                rw [e1]
                show IvOk wz B ⟨⟨(a : Int), x.it.n, x.it.turn, x.it.shut, x.it.ws⟩, x.A, x.c⟩
                rw [hxe]
                exact hx9.ext X
            have HFIN : Hid (∀ {wz : World} {v : Value}, Ext w9 wz → RefAt (wz.setCell ⟨r9.g, 43, none⟩ v) B A c rs (r9.setLog v) ⟨fun y => if y = ((a : Int), (d : Int)) then x.it.n else s.off y, fun t => if t = (d : Int) then last40 (s.und d ++ [x.it]) else s.und t, prs (ps ++ [(⟨(d : Int), ⟨⟨(a : Int), x.it.n, x.it.turn, x.it.shut, x.it.ws⟩, x.A, x.c⟩⟩ : Pv)])⟩ →
                RefGo B w9 r9 (wz.setCell ⟨r9.g, 43, none⟩ v) (r9.setLog v) → ∃ r', r'.g = r.g ∧ RefAt (wz.setCell ⟨r.g, 43, none⟩ v) B A c rs r' (offerSt (mat rs) s x.it d) ∧ RefGo B w r (wz.setCell ⟨r.g, 43, none⟩ v) r') := fun {wz v} X q1 q2 => by
              refine ⟨r9.setLog v, HG9.out, ?_, ?_⟩
              · have e1 : prs (ps ++ [(⟨(d : Int), ⟨⟨(a : Int), x.it.n, x.it.turn, x.it.shut, x.it.ws⟩, x.A, x.c⟩⟩ : Pv)]) = s.log ++ [((d : Int), x.it)] := by
                  have h5 : prs ps = s.log := hps
                  rw [← h5]
                  have h6 : (⟨(a : Int), x.it.n, x.it.turn, x.it.shut, x.it.ws⟩ : It) = x.it := congrArg Iv.it hxe
                  simp only [prs, List.map_append, List.map_cons, List.map_nil]
                  rw [h6]
                rw [offerSt, if_pos HN.out, HA.out, ← e1, ← HG9.out]
                exact q1
              · rw [← HG9.out]
                exact ⟨go9.below.trans q2.below, go9.mods.trans q2.mods (fun k _ e => by rw [HG9.out] at e; exact e), fun g hg => by
                  rcases q2.sub g hg with h5 | h5
                  · exact go9.sub g h5
                  · exact .inr (Nat.le_trans go9.below.size h5)⟩
            clear p0 p1 p2 p3 p4 p5 hps hokL hvl go9 b9 hx9 hxe hOL
            go_upto_region 10 with fail
            refine wp_region_planH3 (.reads 0 (.reads 1 (.reads 2 (.reads 3 (.reads 4 (.reads 6 (.reads 7 (.reads 8 (.fork 5 (.makes 9 (.makes 10 (.reads 11 (.reads 12 (.turns 13 (.done)))))) 9 (.makes 5 (.makes 10 (.reads 11 (.reads 12 (.turns 13 (.done))))))))))))))) (by kernel_rfl) (by kernel_rfl) (fun x' => Ext w9 x') (ext_drewN w9 1) (fun ops HOPS => ?_)
            (refine segH_pure _ _ _ _ _ _ (hid_get HOPS 0 _ rfl) rfl wanted_none (fun _ _ _ _ h => h) ?_; intro K hK; go_big_quiet_op; go_big_quiet_on)
            (refine segH_pure _ _ _ _ _ _ (hid_get HOPS 1 _ rfl) rfl wanted_none (fun _ _ _ _ h => h) ?_; intro K hK; go_big_quiet_op; go_big_quiet_on)
            (refine segH_nil _ _ _ _ _ _ _ (hid_get HOPS 2 _ rfl) wanted_none rfl (fun _ _ _ _ h => h) ?_; simp only [Act.put, List.setIfInBounds_toArray, List.set_cons_zero, List.set_cons_succ])
            (refine segH_pure _ _ _ _ _ _ (hid_get HOPS 3 _ rfl) rfl wanted_none (fun _ _ _ _ h => h) ?_; intro K hK; go_big_quiet_op; go_big_quiet_on)
            (refine segH_load _ _ _ _ _ _ _ _ _ (hid_get HOPS 4 _ rfl) wanted_none rfl (fun _ _ _ _ h => h) (fun y hy => by go_simp; try with_reducible rfl) ?_; simp only [Act.put, List.setIfInBounds_toArray, List.set_cons_zero, List.set_cons_succ])
            (refine segH_pure _ _ _ _ _ _ (hid_get HOPS 6 _ rfl) rfl wanted_none (fun _ _ _ _ h => h) ?_; intro K hK; go_big_quiet_op; go_big_quiet_on)
            (refine segH_load _ _ _ _ _ _ _ _ _ (hid_get HOPS 7 _ rfl) wanted_none rfl (fun _ _ _ _ h => h) (fun y hy => by go_simp; try with_reducible rfl) ?_; simp only [Act.put, List.setIfInBounds_toArray, List.set_cons_zero, List.set_cons_succ])
            (refine segH_pure _ _ _ _ _ _ (hid_get HOPS 8 _ rfl) rfl wanted_none (fun _ _ _ _ h => h) ?_; intro K hK; go_big_quiet_op; go_big_quiet_on)
            refine segH_fork _ _ _ _ _ _ _ _ _ _ _ _ (hid_get HOPS 5 _ rfl) (hid_get HOPS 9 _ rfl) wanted_none wanted_none (fun K hK => ?_) (fun K hK => ?_)
            · refine wp_append elPv _ _ rfl w9.heap.size (.slice none 0 0) [] rfl (Own.nil _ _) Al cl ps rfl B (RowsAt.ext HRL.out (ext_drewN w9 1)) (by show _ * 64 ≤ _; simp; omega) (by simp; omega) (by simp) ?_
              intro A5 c5 w10 hown10 hg10 hat10
              have P10 : Ext w9 w10 := ext_trans (ext_drewN w9 1) ((Below.refl _ _).grown hg10 (Nat.le_refl _) (fun k hk => by cases hk))
              rw [List.nil_append] at hown10 ⊢
              refine hK _ _ (fun x' => Ext w9 x') P10 (fun _ h => h) ?_
              clear hK hg10 hat10
              simp only [Act.put, List.setIfInBounds_toArray, List.set_cons_zero, List.set_cons_succ]
              refine segH_makes _ _ _ _ _ _ (hid_get HOPS 9 _ rfl) wanted_none (fun K hK => ?_)
              go_big_op
              have P11 : Ext w9 (w10.alloc (.cells (Pv.cells (⟨(d : Int), ⟨⟨(a : Int), x.it.n, x.it.turn, x.it.shut, x.it.ws⟩, x.A, x.c⟩⟩ : Pv)).toArray 94)) := ext_trans P10 (ext_alloc _ _)
              have HB := Lib.hid (rows_block (E := elPv) (B := B) (⟨(d : Int), ⟨⟨(a : Int), x.it.n, x.it.turn, x.it.shut, x.it.ws⟩, x.A, x.c⟩⟩ : Pv) (Blk.new w10 94 (Pv.cells (⟨(d : Int), ⟨⟨(a : Int), x.it.n, x.it.turn, x.it.shut, x.it.ws⟩, x.A, x.c⟩⟩ : Pv)).toArray))
              have hO11 : Own elPv (w10.alloc (.cells (Pv.cells (⟨(d : Int), ⟨⟨(a : Int), x.it.n, x.it.turn, x.it.shut, x.it.ws⟩, x.A, x.c⟩⟩ : Pv)).toArray 94)) w9.heap.size (.slice A5 ps.length c5) ps := hown10.ext (ext_alloc _ _)
              refine hK _ _ (fun x' => Ext w9 x') P11 (fun _ h => h) ?_
              clear hK hown10
              refine segH_makes _ _ _ _ _ _ (hid_get HOPS 10 _ rfl) wanted_none (fun K hK => ?_)
              refine wp_append elPv _ _ rfl w9.heap.size (.slice A5 ps.length c5) ps rfl hO11 _ 1 [(⟨(d : Int), ⟨⟨(a : Int), x.it.n, x.it.turn, x.it.shut, x.it.ws⟩, x.A, x.c⟩⟩ : Pv)] rfl B HB.out (by show _ * 64 ≤ _; simp; omega) (by simp; omega) P11.size ?_
              intro A2 c2 w12 hown12 hg12 hat12
              have P12 : Ext w9 w12 := P11.grown hg12 P11.size (fun k hk => (hO11.typed hk).1)
              obtain ⟨q1, q2⟩ := h9.setLog P12 (hown12.le h9.base_le) (HOK9.out P12) (fun b hb => (hown12.typed hb).1)
              have HF := Lib.hid (HFIN.out P12 q1 q2)
              have z0 := y5 w12 P12
              have zf : ∀ i, w12.frozen? ⟨r.g, i, none⟩ = false := fun i => by have := (h9.blk.ext P12).frozen i; rw [HG9.out] at this; exact this
              rw [List.length_append, List.length_singleton] at HF ⊢
              refine hK _ _ (fun x' => Ext w9 x') P12 (fun _ h => h) ?_
              clear hK hown12 hg12 hat12 q1 q2
              simp only [Act.put, List.setIfInBounds_toArray, List.set_cons_zero, List.set_cons_succ]
              (refine segH_nil _ _ _ _ _ _ _ (hid_get HOPS 11 _ rfl) wanted_none rfl (fun _ _ _ _ h => h) ?_; simp only [Act.put, List.setIfInBounds_toArray, List.set_cons_zero, List.set_cons_succ])
              (refine segH_pure _ _ _ _ _ _ (hid_get HOPS 12 _ rfl) rfl wanted_none (fun _ _ _ _ h => h) ?_; intro K hK; go_big_quiet_op; go_big_quiet_on)
              refine segH_turns _ _ _ _ _ _ (hid_get HOPS 13 _ rfl) wanted_none (fun K hK => ?_)
              go_big_op
              refine hK _ _ (fun _ => True) trivial ?_
              clear hK
              refine seg_done ?_
              clear HOPS
              clear y0 y1 y2 y3 y4 y5 z0 zf
              go_wp2
              go_ret
              exact ⟨by rw [HN.out]; rfl, HF.out⟩
            · go_big_op
              have P11 : Ext w9 (w9.alloc (.cells (Pv.cells (⟨(d : Int), ⟨⟨(a : Int), x.it.n, x.it.turn, x.it.shut, x.it.ws⟩, x.A, x.c⟩⟩ : Pv)).toArray 94)).drew := ext_trans (ext_alloc _ _) (ext_drewN _ 1)
              have HB0 := Lib.hid (rows_block (E := elPv) (B := B) (⟨(d : Int), ⟨⟨(a : Int), x.it.n, x.it.turn, x.it.shut, x.it.ws⟩, x.A, x.c⟩⟩ : Pv) (Blk.new w9 94 (Pv.cells (⟨(d : Int), ⟨⟨(a : Int), x.it.n, x.it.turn, x.it.shut, x.it.ws⟩, x.A, x.c⟩⟩ : Pv)).toArray))
              refine hK _ _ (fun x' => Ext w9 x') P11 (fun _ h => h) ?_
              clear hK
              refine segH_makes _ _ _ _ _ _ (hid_get HOPS 5 _ rfl) wanted_none (fun K hK => ?_)
              refine wp_append elPv _ _ rfl w9.heap.size (.slice none 0 0) [] rfl (Own.nil _ _) Al cl ps rfl B (RowsAt.ext HRL.out P11) (by show _ * 64 ≤ _; simp; omega) (by simp; omega) P11.size ?_
              intro A5 c5 w10 hown10 hg10 hat10
              have h65 : Ext (w9.alloc (.cells (Pv.cells (⟨(d : Int), ⟨⟨(a : Int), x.it.n, x.it.turn, x.it.shut, x.it.ws⟩, x.A, x.c⟩⟩ : Pv)).toArray 94)).drew w10 := (Below.refl _ _).grown hg10 (Nat.le_refl _) (fun k hk => by cases hk)
              have P10 : Ext w9 w10 := ext_trans P11 h65
              rw [List.nil_append] at hown10 ⊢
              have HB := Lib.hid (RowsAt.ext (RowsAt.ext HB0.out (ext_drewN _ 1)) h65)
              refine hK _ _ (fun x' => Ext w9 x') P10 (fun _ h => h) ?_
              clear hK hg10 hat10 h65
              simp only [Act.put, List.setIfInBounds_toArray, List.set_cons_zero, List.set_cons_succ]
              refine segH_makes _ _ _ _ _ _ (hid_get HOPS 10 _ rfl) wanted_none (fun K hK => ?_)
              refine wp_append elPv _ _ rfl w9.heap.size (.slice A5 ps.length c5) ps rfl hown10 _ 1 [(⟨(d : Int), ⟨⟨(a : Int), x.it.n, x.it.turn, x.it.shut, x.it.ws⟩, x.A, x.c⟩⟩ : Pv)] rfl B HB.out (by show _ * 64 ≤ _; simp; omega) (by simp; omega) P10.size ?_
              intro A2 c2 w12 hown12 hg12 hat12
              have P12 : Ext w9 w12 := P10.grown hg12 P10.size (fun k hk => (hown10.typed hk).1)
              obtain ⟨q1, q2⟩ := h9.setLog P12 (hown12.le h9.base_le) (HOK9.out P12) (fun b hb => (hown12.typed hb).1)
              have HF := Lib.hid (HFIN.out P12 q1 q2)
              have z0 := y5 w12 P12
              have zf : ∀ i, w12.frozen? ⟨r.g, i, none⟩ = false := fun i => by have := (h9.blk.ext P12).frozen i; rw [HG9.out] at this; exact this
              rw [List.length_append, List.length_singleton] at HF ⊢
              refine hK _ _ (fun x' => Ext w9 x') P12 (fun _ h => h) ?_
              clear hK hown12 hg12 hat12 q1 q2
              simp only [Act.put, List.setIfInBounds_toArray, List.set_cons_zero, List.set_cons_succ]
              (refine segH_nil _ _ _ _ _ _ _ (hid_get HOPS 11 _ rfl) wanted_none rfl (fun _ _ _ _ h => h) ?_; simp only [Act.put, List.setIfInBounds_toArray, List.set_cons_zero, List.set_cons_succ])
              (refine segH_pure _ _ _ _ _ _ (hid_get HOPS 12 _ rfl) rfl wanted_none (fun _ _ _ _ h => h) ?_; intro K hK; go_big_quiet_op; go_big_quiet_on)
              refine segH_turns _ _ _ _ _ _ (hid_get HOPS 13 _ rfl) wanted_none (fun K hK => ?_)
              go_big_op
              refine hK _ _ (fun _ => True) trivial ?_
              clear hK
              refine seg_done ?_
              clear HOPS
              clear y0 y1 y2 y3 y4 y5 z0 zf
              go_wp2
              go_ret
              exact ⟨by rw [HN.out]; rfl, HF.out⟩
      · have HR : Hid (offerN (mat rs) s x.it d = 23 ∧ offerSt (mat rs) s x.it d = s) := by
          have h1 : offerN (mat rs) s x.it d = 23 := by
            rw [HOFF.out, if_neg (by simpa using hg)]
          exact ⟨h1, by simp [offerSt, h1]⟩
        clear b2 hwn
        go_wp2
        go_ret
        exact ⟨by rw [HR.out.1]; rfl, r, rfl, by rw [HR.out.2]; exact HH.out.ext X2, .of_ext X2 HBW.out r⟩
end
end Go.Proofs.Ytdknkbpgkkakhaa
