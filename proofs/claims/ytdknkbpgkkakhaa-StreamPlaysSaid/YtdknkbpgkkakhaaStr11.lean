/- The law StreamPlays, walked. -/
import Derived.Test.YtdknkbpgkkakhaaStr10
import Derived.Test.YtdknkbpgkkakhaaPlanG
namespace Go.Proofs.Ytdknkbpgkkakhaa
open Go.RowKit

structure PlaysAt (w wr : World) (lev : Int) (g gr : Nat) (k : Nat) (t : Int) (xs : List Iv) (v : Value) (ys : List Iv) (vr : Value) : Prop where
  s : StrAt wr w.heap.size 121 g lev t xs v
  r : StrAt wr w.heap.size 30 gr lev t ys vr
  same : its xs = its ys
  len : xs.length ≤ k
  ap : ∀ b, RowOf v b → ¬ RowOf vr b
  ext : Ext w wr
theorem PlaysAt.to {w wr w6 : World} {lev : Int} {g gr k : Nat} {t : Int} {xs ys : List Iv} {v vr : Value} (P : PlaysAt w wr lev g gr k t xs v ys vr) (e : Ext wr w6) : PlaysAt w w6 lev g gr k t xs v ys vr :=
  ⟨P.s.ext e, P.r.ext e, P.same, P.len, P.ap, ext_trans P.ext e⟩

theorem Blk.apart {w : World} {g g' : Nat} {t t' : TypeId} {cs cs' : Array Value} (h : Blk w g t cs) (h' : Blk w g' t' cs') (ht : t ≠ t') : g ≠ g' := fun e => by
  subst e
  unfold Blk at h h'
  rw [h] at h'
  injection h' with h'
  injection h' with _ h'
  exact ht h'
theorem mods5 (W : World) (x : Nat) (u0 u1 u2 u3 u4 : Value) : Mods (fun k => k = x) W (((((W.setCell ⟨x, 0, none⟩ u0).setCell ⟨x, 1, none⟩ u1).setCell ⟨x, 2, none⟩ u2).setCell ⟨x, 3, none⟩ u3).setCell ⟨x, 4, none⟩ u4) :=
  ((((mods_setCell W ⟨x, 0, none⟩ u0).trans (mods_setCell _ ⟨x, 1, none⟩ u1) (fun _ _ h => h)).trans (mods_setCell _ ⟨x, 2, none⟩ u2) (fun _ _ h => h)).trans (mods_setCell _ ⟨x, 3, none⟩ u3) (fun _ _ h => h)).trans (mods_setCell _ ⟨x, 4, none⟩ u4) (fun _ _ h => h)
theorem StrAt.off {w w' : World} {B : Nat} {T : TypeId} {g b : Nat} {lev turn : Int} {xs : List Iv} {v : Value} (h : StrAt w B T g lev turn xs v) (m : Mods (fun k => k = b) w w') (kp : Keeps B [33] w w') (hb : ¬ (b = g ∨ RowOf v b)) : StrAt w' B T g lev turn xs v :=
  ⟨h.blk.mods m (fun e => hb (.inl e.symm)), h.base, own_mods h.own m (fun b' hb' e => hb (.inr (by have e' : b' = b := e; rw [← e']; exact hb'))), fun x hx => (h.ok x hx).keeps kp (by decide), h.len⟩
theorem PlaysAt.off {w wr w' : World} {lev : Int} {g gr k : Nat} {t : Int} {xs ys : List Iv} {v vr : Value} {b : Nat} (P : PlaysAt w wr lev g gr k t xs v ys vr) (m : Mods (fun k => k = b) wr w') (kp : Keeps w.heap.size [33] wr w') (hb : ¬ (b = g ∨ RowOf v b) ∧ ¬ (b = gr ∨ RowOf vr b)) (hw : w.heap.size ≤ b) : PlaysAt w w' lev g gr k t xs v ys vr :=
  ⟨P.s.off m kp hb.1, P.r.off m kp hb.2, P.same, P.len, P.ap, P.ext.trans (m.below P.ext.size (fun k hk => by have e : k = b := hk; omega))⟩
/-- Behind the copy and the copy's own Add. -/
theorem PlaysAt.copied {w wa wb : World} {lev : Int} {g g2 gr k : Nat} {t : Int} {xs ys : List Iv} {v v2 vr : Value} {n0 : Nat} (P : PlaysAt w wa lev g gr k t xs v ys vr) (s2 : StrAt wa w.heap.size 121 g2 lev t xs v2) (hg : n0 ≤ g2) (hv : ∀ b, RowOf v2 b → n0 ≤ b)
    (hgn : g < n0) (hrn : ∀ b, RowOf v b → b < n0) (hrr : ∀ b, RowOf vr b → b < n0) (m : Mods (fun k => k = g ∨ RowOf v k) wa wb) : PlaysAt w wb lev g2 gr k t xs v2 ys vr := by
  refine ⟨P.s.apart s2 m (by omega) (fun b hb hc => by have := hv b hb; have := hrn b hc; omega) (by decide) (by decide) (by decide), ?_, P.same, P.len, fun b hb hc => by have := hv b hb; have := hrr b hc; omega, P.ext.trans (P.s.below_of m)⟩
  exact P.s.apart P.r m (fun e => P.s.blk.apart P.r.blk (by decide) e.symm) (fun b hb hc => P.ap b hc hb) (by decide) (by decide) (by decide)
/-- Behind both Adds. -/
theorem PlaysAt.added {w wa wb wc : World} {lev : Int} {g gr k : Nat} {t : Int} {xs ys xs' ys' : List Iv} {v vr v' vr' : Value} {x : It} {t' : Int} (P : PlaysAt w wa lev g gr k t xs v ys vr)
    (s' : StrAt wb w.heap.size 121 g lev t' xs' v') (hx : its xs' = (if addErr lev t xs.length x = 0 then its xs ++ [x] else its xs)) (m : Mods (fun k => k = g ∨ RowOf v k) wa wb) (ho : v'.ownBlock = v.ownBlock ∨ ∀ b, v'.ownBlock = some b → wa.heap.size ≤ b)
    (r' : StrAt wc w.heap.size 30 gr lev t' ys' vr') (hy : its ys' = (if addErr lev t ys.length x = 0 then its ys ++ [x] else its ys)) (m2 : Mods (fun k => k = gr ∨ RowOf vr k) wb wc) (ho2 : vr'.ownBlock = vr.ownBlock ∨ ∀ b, vr'.ownBlock = some b → wb.heap.size ≤ b) :
    PlaysAt w wc lev g gr (k + 1) t' xs' v' ys' vr' := by
  have hsm := congrArg List.length P.same
  rw [its_length, its_length] at hsm
  have rb : StrAt wb w.heap.size 30 gr lev t ys vr := P.s.apart P.r m (fun e => P.s.blk.apart P.r.blk (by decide) e.symm) (fun b hb hc => P.ap b hc hb) (by decide) (by decide) (by decide)
  have hvr : ∀ b, RowOf vr b → b < wa.heap.size := fun b hb => (World.ownsRow.lt P.r.own _ hb).2
  have hap : ∀ b, RowOf v' b → ¬ RowOf vr b := by
    intro b hb hc
    rcases ho with e | e
    · unfold RowOf at hb; rw [e] at hb; exact P.ap b hb hc
    · have := e b hb; have := hvr b hc; omega
  refine ⟨rb.apart s' m2 (s'.blk.apart rb.blk (by decide)) hap (by decide) (by decide) (by decide), r', ?_, ?_, ?_, ?_⟩
  · rw [hx, hy, P.same, hsm]
  · have h1 := congrArg List.length hx
    have h2 := P.len
    split at h1
    · simp [its_length] at h1; omega
    · simp [its_length] at h1; omega
  · intro b hb hc
    rcases ho2 with e | e
    · unfold RowOf at hc; rw [e] at hc; exact hap b hb hc
    · have h1 := e b hc
      have h2 := (World.ownsRow.lt s'.own _ hb).2
      omega
  · exact (P.ext.trans (P.s.below_of m)).trans (rb.below_of m2)

set_option maxRecDepth 100000 in
set_option maxHeartbeats 8000000 in
theorem streamPlays_walk (lev n most : Int) (A A2 : Option Addr) (c c2 : Nat) (ls : List Iv) (ks : List Bool) (w : World) (hA : RowsIv w w.heap.size A ls) (hok : ∀ x ∈ ls, WrsAt w w.heap.size x.A x.it.ws ∧ ∀ y ∈ x.it.ws, y.ok) (hK : BoolsAt w w.heap.size A2 ks)
    (hl : ls.length ≤ 9223372036854775807) (hkl : ks.length ≤ 9223372036854775807) (HN : Hid (n ≤ 9223372036854775807)) :
    Calls Try.prog 3 #[.int .i64 lev, .slice A ls.length c, .slice A2 ks.length c2, .int .i64 n, .int .i64 most] w fun e w' => e = .returned (.bool true) ∧ Ext w w' := by
  by_cases hfw : fewIts 30 ls = true
  · by_cases h40 : ks.length ≤ 40
    · have HL : Hid (ls.length ≤ 30) := by
        show _ ≤ _
        simp only [fewIts, Bool.and_eq_true, decide_eq_true_eq] at hfw
        exact hfw.2
      have HO : ∀ x ∈ ls, IvOk w w.heap.size x := by
        intro x hx
        simp only [fewIts, Bool.and_eq_true, List.all_eq_true, decide_eq_true_eq] at hfw
        have := hfw.1 x hx
        exact ⟨(hok x hx).1, (hok x hx).2, by omega⟩
      have HF := Lib.hid hfw; clear hfw hok
      go_enter Try.func3, Try.ntmps3
      go_wp2_with fail
      refine (known19_any _).mono ?_
      rintro e w1 ⟨rfl, x1⟩
      go_wp2_with fail
      refine (few19_any A c ls _ w.heap.size (RowsAt.ext hA x1) hl).mono ?_
      rintro e w1' ⟨rfl, rfl⟩
      rw [HF.out]
      go_wp2_with fail
      refine (strNew_any lev _ w.heap.size x1.size).mono ?_
      rintro e w2 ⟨rfl, s1, x2⟩
      obtain ⟨g, hg⟩ : ∃ g, g = w1.heap.size := ⟨_, rfl⟩
      rw [← hg] at s1 ⊢
      have P0 : PlaysAt w (w2.alloc (.cells #[.int .i64 lev, .int .i64 0, .slice none 0 0] 30)) lev g w2.heap.size 0 0 [] (.slice none 0 0) [] (.slice none 0 0) :=
        ⟨s1.ext (ext_alloc _ _), ⟨Blk.new _ _ _, Nat.le_trans x1.size x2.size, World.ownsRow_nil _ _ _ _, by simp, by simp⟩, rfl, Nat.le_refl _, by simp [RowOf, Value.ownBlock], ext_trans (ext_trans x1 x2) (ext_alloc _ _)⟩
      clear x1 x2 hg s1
      go_wp2
      generalize w2.heap.size = gr at P0
      go_loopw [13, 11] (fun i sv wr => ∃ (k g : Nat) (t : Int) (xs : List Iv) (v : Value) (ys : List Iv) (vr : Value), k ≤ ls.length ∧ i = .int .i64 k ∧ sv = .pointer (some ⟨g, 0, none⟩) ∧ PlaysAt w wr lev g gr k t xs v ys vr) (fun i _ _ => ls.length - (intOf i).toNat)
      case atStart => exact ⟨0, g, 0, [], _, [], _, Nat.zero_le _, rfl, rfl, P0⟩
      case round =>
        obtain ⟨k, g', t, xs, v, ys, vr, hk, rfl, rfl, P⟩ := hrel
        clear P0
        by_cases hlt : k < ls.length
        · have hR : RowsIv wr w.heap.size A ls := RowsAt.ext hA P.ext
          obtain ⟨ad, hA0, p0, p1, p2, p3, p4⟩ := RowsIv.get hR hlt
          subst hA0
          have HX : Hid (IvOk wr w.heap.size ls[k]) := (HO _ (List.getElem_mem hlt)).ext P.ext
          have P1 := P.to (ext_alloc wr (.cells #[.int .i64 ls[k].it.level, .int .i64 ls[k].it.n, .int .i64 ls[k].it.turn, .bool ls[k].it.shut, .slice ls[k].A ls[k].it.ws.length ls[k].c] 33))
          have hx : Blk (wr.alloc (.cells #[.int .i64 ls[k].it.level, .int .i64 ls[k].it.n, .int .i64 ls[k].it.turn, .bool ls[k].it.shut, .slice ls[k].A ls[k].it.ws.length ls[k].c] 33)) wr.heap.size 33 (Iv.cells ls[k]).toArray := Blk.new _ _ _
          have HY := Lib.hid (HX.out.ext (ext_alloc wr (.cells #[.int .i64 ls[k].it.level, .int .i64 ls[k].it.n, .int .i64 ls[k].it.turn, .bool ls[k].it.shut, .slice ls[k].A ls[k].it.ws.length ls[k].c] 33)))
          have hKr : BoolsAt (wr.alloc (.cells #[.int .i64 ls[k].it.level, .int .i64 ls[k].it.n, .int .i64 ls[k].it.turn, .bool ls[k].it.shut, .slice ls[k].A ls[k].it.ws.length ls[k].c] 33)) w.heap.size A2 ks := RowsAt.ext (RowsAt.ext hK P.ext) (ext_alloc wr (.cells #[.int .i64 ls[k].it.level, .int .i64 ls[k].it.n, .int .i64 ls[k].it.turn, .bool ls[k].it.shut, .slice ls[k].A ls[k].it.ws.length ls[k].c] 33))
          have hbx : ¬ (wr.heap.size = g' ∨ RowOf v wr.heap.size) ∧ ¬ (wr.heap.size = gr ∨ RowOf vr wr.heap.size) := by
            have h1 := P.s.blk.lt
            have h2 := P.r.blk.lt
            refine ⟨?_, ?_⟩
            · rintro (e | e)
              · omega
              · have := (World.ownsRow.lt P.s.own _ e).2; omega
            · rintro (e | e)
              · omega
              · have := (World.ownsRow.lt P.r.own _ e).2; omega
          have hB : w.heap.size ≤ wr.heap.size := P.ext.size
          clear hR HX P
          go_upto_region 10 with fail
          clear p0 p1 p2 p3 p4
          obtain ⟨bx, ebx⟩ : ∃ bx, bx = wr.heap.size := ⟨_, rfl⟩
          rw [← ebx] at hx hbx hB ⊢
          clear ebx
          generalize wr.alloc (.cells #[.int .i64 ls[k].it.level, .int .i64 ls[k].it.n, .int .i64 ls[k].it.turn, .bool ls[k].it.shut, .slice ls[k].A ls[k].it.ws.length ls[k].c] 33) = W1 at P1 hx HY hKr ⊢
          go_cut [57] from 38 to 163 (fun s57 wc => (∃ b : Bool, s57 = .bool b) ∧ wc = W1)
          case first =>
            by_cases h1 : k < ks.length
            · obtain ⟨ad2, hA2, h0⟩ := BoolsAt.get hKr h1
              subst hA2
              go_wp2_with fail
              all_goals (go_meet; exact ⟨⟨_, rfl⟩, rfl⟩)
            · go_wp2_with fail
              all_goals (go_meet; exact ⟨⟨_, rfl⟩, rfl⟩)
          obtain ⟨⟨bb, rfl⟩, hwc⟩ := hcut
          subst hwc
          go_upto_if 57 with fail
          go_cut [15, 16] from 38 to 163 (fun _ _ wc => ∃ y : Iv, IvOk wc w.heap.size y ∧ PlaysAt w wc lev g' gr k t xs v ys vr ∧ Blk wc bx 33 (Iv.cells y).toArray)
          case first =>
            cases bb
            · go_wp2_with fail
              go_meet
              exact ⟨ls[k], HY.out, P1, hx⟩
            · go_wp2_with fail
              have k1 := P1.r.blk.cell 1
              have k4 := hx.cell 4
              simp only [List.getElem?_toArray, List.getElem?_cons_zero, List.getElem?_cons_succ, Iv.cells] at k1 k4
              have d1 := fun x (hx : Ext wc x) => ext_cell hx k1
              have d4 := fun x (hx : Ext wc x) => ext_cell hx k4
              have HSM : Hid (ys.length = xs.length) := by have := congrArg List.length P1.same; rw [its_length, its_length] at this; exact this.symm
              have hBc : w.heap.size ≤ wc.heap.size := P1.ext.size
              clear k1 k4
              refine region_fin (α := Z11) (fun z W => Ext wc W ∧ Blk W z.x 33 (Iv.cells ⟨nextIt lev xs.length t ls[k].it.ws, z.A, z.c⟩).toArray ∧ Blk W z.y 33 (Iv.cells ⟨nextIt lev xs.length t ls[k].it.ws, ls[k].A, ls[k].c⟩).toArray ∧ WrsAt W w.heap.size z.A ls[k].it.ws) Z11.put ?_ ?_
              case refine_1 =>
                clear HO hA hK HL HF HN hKr hl hkl hk h40 hx hbx hB
                refine wp_region_planTH (.reads 0 (.reads 1 (.reads 2 (.reads 3 (.reads 4 (.reads 5 (.reads 6 (.reads 8 (.reads 9 (.reads 10 (.reads 11 (.reads 12 (.reads 13 (.reads 14 (.fork3 7 (.fork3 15 (.fork 16 (.makes 17 (.makes 18 (.turns 19 (.done)))) 17 (.makes 16 (.makes 18 (.turns 19 (.done))))) 16 (.fork 15 (.makes 17 (.makes 18 (.turns 19 (.done)))) 17 (.makes 15 (.makes 18 (.turns 19 (.done))))) 17 (.fork 15 (.makes 16 (.makes 18 (.turns 19 (.done)))) 16 (.makes 15 (.makes 18 (.turns 19 (.done)))))) 16 (.fork 7 (.fork 15 (.makes 17 (.makes 18 (.turns 19 (.done)))) 17 (.makes 15 (.makes 18 (.turns 19 (.done))))) 17 (.makes 7 (.makes 15 (.makes 18 (.turns 19 (.done)))))) 17 (.fork 7 (.fork 15 (.makes 16 (.makes 18 (.turns 19 (.done)))) 16 (.makes 15 (.makes 18 (.turns 19 (.done))))) 16 (.makes 7 (.makes 15 (.makes 18 (.turns 19 (.done))))))))))))))))))))) (by kernel_rfl) (by kernel_rfl) (fun x => Ext wc x) (ext_drewN wc 1) (fun ops HOPS => ?_)
                have hW10 : Ext wc wc.drew := ext_drewN wc 1
                generalize wc.drew = W10 at hW10 ⊢
                (refine segTH_pure _ _ _ _ _ _ (hid_get HOPS 0 _ rfl) rfl wanted_none (fun _ _ _ _ h => h) ?_; intro K hK; go_big_quiet_op; go_big_quiet_on)
                (refine segTH_pure _ _ _ _ _ _ (hid_get HOPS 1 _ rfl) rfl wanted_none (fun _ _ _ _ h => h) ?_; intro K hK; go_big_quiet_op; go_big_quiet_on)
                (refine segTH_nil _ _ _ _ _ _ _ (hid_get HOPS 2 _ rfl) wanted_none rfl (fun _ _ _ _ h => h) ?_; simp only [Act.put, List.setIfInBounds_toArray, List.set_cons_zero, List.set_cons_succ])
                (refine segTH_pure _ _ _ _ _ _ (hid_get HOPS 3 _ rfl) rfl wanted_none (fun _ _ _ _ h => h) ?_; intro K hK; go_big_quiet_op; go_big_quiet_on)
                (refine segTH_load _ _ _ _ _ _ _ _ _ (hid_get HOPS 4 _ rfl) wanted_none rfl (fun _ _ _ _ h => h) (fun y hy => by go_simp; try with_reducible rfl) ?_; simp only [Act.put, List.setIfInBounds_toArray, List.set_cons_zero, List.set_cons_succ])
                (refine segTH_pure _ _ _ _ _ _ (hid_get HOPS 5 _ rfl) rfl wanted_none (fun _ _ _ _ h => h) ?_; intro K hK; go_big_quiet_op; go_big_quiet_on)
                (refine segTH_load _ _ _ _ _ _ _ _ _ (hid_get HOPS 6 _ rfl) wanted_none rfl (fun _ _ _ _ h => h) (fun y hy => by go_simp; try with_reducible rfl) ?_; simp only [Act.put, List.setIfInBounds_toArray, List.set_cons_zero, List.set_cons_succ])
                (refine segTH_pure _ _ _ _ _ _ (hid_get HOPS 8 _ rfl) rfl wanted_none (fun _ _ _ _ h => h) ?_; intro K hK; go_big_quiet_op; go_big_quiet_on)
                (refine segTH_pure _ _ _ _ _ _ (hid_get HOPS 9 _ rfl) rfl wanted_none (fun _ _ _ _ h => h) ?_; intro K hK; go_big_quiet_op; go_big_quiet_on)
                (refine segTH_nil _ _ _ _ _ _ _ (hid_get HOPS 10 _ rfl) wanted_none rfl (fun _ _ _ _ h => h) ?_; simp only [Act.put, List.setIfInBounds_toArray, List.set_cons_zero, List.set_cons_succ])
                (refine segTH_pure _ _ _ _ _ _ (hid_get HOPS 11 _ rfl) rfl wanted_none (fun _ _ _ _ h => h) ?_; intro K hK; go_big_quiet_op; go_big_quiet_on)
                (refine segTH_load _ _ _ _ _ _ _ _ _ (hid_get HOPS 12 _ rfl) wanted_none rfl (fun _ _ _ _ h => h) (fun y hy => by go_simp; try with_reducible rfl) ?_; simp only [Act.put, List.setIfInBounds_toArray, List.set_cons_zero, List.set_cons_succ])
                (refine segTH_pure _ _ _ _ _ _ (hid_get HOPS 13 _ rfl) rfl wanted_none (fun _ _ _ _ h => h) ?_; intro K hK; go_big_quiet_op; go_big_quiet_on)
                (refine segTH_load _ _ _ _ _ _ _ _ _ (hid_get HOPS 14 _ rfl) wanted_none rfl (fun _ _ _ _ h => h) (fun y hy => by go_simp; try with_reducible rfl) ?_; simp only [Act.put, List.setIfInBounds_toArray, List.set_cons_zero, List.set_cons_succ])
                refine segTH_fork3 _ _ _ _ _ _ _ _ _ _ _ _ _ _ _ _ _ _ (hid_get HOPS 7 _ rfl) (hid_get HOPS 16 _ rfl) (hid_get HOPS 17 _ rfl) wanted_none wanted_none wanted_none (fun K hK => ?_) (fun K hK => ?_) (fun K hK => ?_)
                · go_big_op
                  refine (strNext_any (P1.s.ext hW10) t _ _ ls[k].it.ws w.heap.size (RowsAt.ext HY.out.at_ hW10) HY.out.len).mono ?_
                  rintro e W11 ⟨A7, c7, rfl, h7, e7⟩
                  have hW11 : Ext wc W11 := ext_trans hW10 e7
                  refine hK _ _ (fun x => Ext wc x) hW11 (fun x hx => hx) ?_
                  clear hK
                  clear e7
                  refine segTH_fork3 _ _ _ _ _ _ _ _ _ _ _ _ _ _ _ _ _ _ (hid_get HOPS 15 _ rfl) (hid_get HOPS 16 _ rfl) (hid_get HOPS 17 _ rfl) wanted_none wanted_none wanted_none (fun K hK => ?_) (fun K hK => ?_) (fun K hK => ?_)
                  · go_big_op
                    refine (refNext_any (P1.r.ext hW11) t _ _ ls[k].it.ws).mono ?_
                    rintro e W12 ⟨rfl, e15⟩
                    rw [HSM.out]
                    have hW12 : Ext wc W12 := ext_trans hW11 e15
                    refine hK _ _ (fun x => Ext wc x) hW12 (fun x hx => hx) ?_
                    clear hK
                    replace h7 := RowsAt.ext h7 e15
                    clear e15
                    refine segTH_fork _ _ _ _ _ _ _ _ _ _ _ _ (hid_get HOPS 16 _ rfl) (hid_get HOPS 17 _ rfl) wanted_none wanted_none (fun K hK => ?_) (fun K hK => ?_)
                    · go_big_op
                      obtain ⟨W13, x, eW, ex, fbx, ea⟩ := alloc_named W12
                      rw [← eW, ← ex]
                      have nx : wc.heap.size ≤ x := by have := hW12.size; omega
                      clear eW ex
                      have hW13 : Ext wc W13 := ext_trans hW12 ea
                      refine hK _ _ (fun x => Ext wc x) hW13 (fun x hx => hx) ?_
                      clear hK
                      replace h7 := RowsAt.ext h7 ea
                      clear ea
                      refine segTH_makes _ _ _ _ _ _ (hid_get HOPS 17 _ rfl) wanted_none (fun K hK => ?_)
                      go_big_op
                      obtain ⟨W14, y, eW, ey, fby, ea⟩ := alloc_named W13
                      rw [← eW, ← ey]
                      have hne : x ≠ y := by have := fbx.lt; omega
                      have ny : wc.heap.size ≤ y := by have := hW13.size; omega
                      clear eW ey
                      have hW14 : Ext wc W14 := ext_trans hW13 ea
                      refine hK _ _ (fun x => Ext wc x) hW14 (fun x hx => hx) ?_
                      clear hK
                      replace fbx := fbx.ext ea
                      replace h7 := RowsAt.ext h7 ea
                      clear ea
                      refine segTH_makes _ _ _ _ _ _ (hid_get HOPS 18 _ rfl) wanted_none (fun K hK => ?_)
                      have p0 := fbx.cell 0
                      have p1 := fbx.cell 1
                      have p2 := fbx.cell 2
                      have p3 := fbx.cell 3
                      have p4 := fbx.cell 4
                      have fx := fbx.frozen
                      simp only [List.getElem?_toArray, List.getElem?_cons_zero, List.getElem?_cons_succ] at p0 p1 p2 p3 p4
                      go_big_op
                      refine hK _ _ (fun x => Ext wc x) ?_ (fun x hx => hx) ?_
                      · iterate 5 (refine Below.setCell ?_ (by simpa using nx) _)
                        exact hW14
                      clear hK p0 p1 p2 p3 p4 fx
                      refine segTH_turns _ _ _ _ _ _ (hid_get HOPS 19 _ rfl) wanted_none (fun K hK => ?_)
                      have fy := fby.frozen
                      have q0 := fby.cell 0
                      have q1 := fby.cell 1
                      have q2 := fby.cell 2
                      have q3 := fby.cell 3
                      have q4 := fby.cell 4
                      simp only [List.getElem?_toArray, List.getElem?_cons_zero, List.getElem?_cons_succ] at q0 q1 q2 q3 q4
                      go_big_op
                      refine hK _ _ (fun _ => True) trivial ?_
                      clear hK q0 q1 q2 q3 q4 fy
                      refine segT_done ?_
                      exact ⟨⟨x, y, A7, c7, _, _, _, _, _, _, _, _, _, _, _, _, _, _, _, _⟩, next_end fbx fby hne nx ny hBc hW14 h7, by simp only [Z11.put, Act.put, List.setIfInBounds_toArray, List.set_cons_zero, List.set_cons_succ]; rfl⟩
                    · go_big_op
                      obtain ⟨W13, y, eW, ey, fby, ea⟩ := alloc_named W12
                      rw [← eW, ← ey]
                      have ny : wc.heap.size ≤ y := by have := hW12.size; omega
                      clear eW ey
                      have hW13 : Ext wc W13 := ext_trans hW12 ea
                      refine hK _ _ (fun x => Ext wc x) hW13 (fun x hx => hx) ?_
                      clear hK
                      replace h7 := RowsAt.ext h7 ea
                      clear ea
                      refine segTH_makes _ _ _ _ _ _ (hid_get HOPS 16 _ rfl) wanted_none (fun K hK => ?_)
                      go_big_op
                      obtain ⟨W14, x, eW, ex, fbx, ea⟩ := alloc_named W13
                      rw [← eW, ← ex]
                      have hne : x ≠ y := by have := fby.lt; omega
                      have nx : wc.heap.size ≤ x := by have := hW13.size; omega
                      clear eW ex
                      have hW14 : Ext wc W14 := ext_trans hW13 ea
                      refine hK _ _ (fun x => Ext wc x) hW14 (fun x hx => hx) ?_
                      clear hK
                      replace fby := fby.ext ea
                      replace h7 := RowsAt.ext h7 ea
                      clear ea
                      refine segTH_makes _ _ _ _ _ _ (hid_get HOPS 18 _ rfl) wanted_none (fun K hK => ?_)
                      have p0 := fbx.cell 0
                      have p1 := fbx.cell 1
                      have p2 := fbx.cell 2
                      have p3 := fbx.cell 3
                      have p4 := fbx.cell 4
                      have fx := fbx.frozen
                      simp only [List.getElem?_toArray, List.getElem?_cons_zero, List.getElem?_cons_succ] at p0 p1 p2 p3 p4
                      go_big_op
                      refine hK _ _ (fun x => Ext wc x) ?_ (fun x hx => hx) ?_
                      · iterate 5 (refine Below.setCell ?_ (by simpa using nx) _)
                        exact hW14
                      clear hK p0 p1 p2 p3 p4 fx
                      refine segTH_turns _ _ _ _ _ _ (hid_get HOPS 19 _ rfl) wanted_none (fun K hK => ?_)
                      have fy := fby.frozen
                      have q0 := fby.cell 0
                      have q1 := fby.cell 1
                      have q2 := fby.cell 2
                      have q3 := fby.cell 3
                      have q4 := fby.cell 4
                      simp only [List.getElem?_toArray, List.getElem?_cons_zero, List.getElem?_cons_succ] at q0 q1 q2 q3 q4
                      go_big_op
                      refine hK _ _ (fun _ => True) trivial ?_
                      clear hK q0 q1 q2 q3 q4 fy
                      refine segT_done ?_
                      exact ⟨⟨x, y, A7, c7, _, _, _, _, _, _, _, _, _, _, _, _, _, _, _, _⟩, next_end fbx fby hne nx ny hBc hW14 h7, by simp only [Z11.put, Act.put, List.setIfInBounds_toArray, List.set_cons_zero, List.set_cons_succ]; rfl⟩
                  · go_big_op
                    obtain ⟨W12, x, eW, ex, fbx, ea⟩ := alloc_named W11
                    rw [← eW, ← ex]
                    have nx : wc.heap.size ≤ x := by have := hW11.size; omega
                    clear eW ex
                    have hW12 : Ext wc W12 := ext_trans hW11 ea
                    refine hK _ _ (fun x => Ext wc x) hW12 (fun x hx => hx) ?_
                    clear hK
                    replace h7 := RowsAt.ext h7 ea
                    clear ea
                    refine segTH_fork _ _ _ _ _ _ _ _ _ _ _ _ (hid_get HOPS 15 _ rfl) (hid_get HOPS 17 _ rfl) wanted_none wanted_none (fun K hK => ?_) (fun K hK => ?_)
                    · go_big_op
                      refine (refNext_any (P1.r.ext hW12) t _ _ ls[k].it.ws).mono ?_
                      rintro e W13 ⟨rfl, e15⟩
                      rw [HSM.out]
                      have hW13 : Ext wc W13 := ext_trans hW12 e15
                      refine hK _ _ (fun x => Ext wc x) hW13 (fun x hx => hx) ?_
                      clear hK
                      replace fbx := fbx.ext e15
                      replace h7 := RowsAt.ext h7 e15
                      clear e15
                      refine segTH_makes _ _ _ _ _ _ (hid_get HOPS 17 _ rfl) wanted_none (fun K hK => ?_)
                      go_big_op
                      obtain ⟨W14, y, eW, ey, fby, ea⟩ := alloc_named W13
                      rw [← eW, ← ey]
                      have hne : x ≠ y := by have := fbx.lt; omega
                      have ny : wc.heap.size ≤ y := by have := hW13.size; omega
                      clear eW ey
                      have hW14 : Ext wc W14 := ext_trans hW13 ea
                      refine hK _ _ (fun x => Ext wc x) hW14 (fun x hx => hx) ?_
                      clear hK
                      replace fbx := fbx.ext ea
                      replace h7 := RowsAt.ext h7 ea
                      clear ea
                      refine segTH_makes _ _ _ _ _ _ (hid_get HOPS 18 _ rfl) wanted_none (fun K hK => ?_)
                      have p0 := fbx.cell 0
                      have p1 := fbx.cell 1
                      have p2 := fbx.cell 2
                      have p3 := fbx.cell 3
                      have p4 := fbx.cell 4
                      have fx := fbx.frozen
                      simp only [List.getElem?_toArray, List.getElem?_cons_zero, List.getElem?_cons_succ] at p0 p1 p2 p3 p4
                      go_big_op
                      refine hK _ _ (fun x => Ext wc x) ?_ (fun x hx => hx) ?_
                      · iterate 5 (refine Below.setCell ?_ (by simpa using nx) _)
                        exact hW14
                      clear hK p0 p1 p2 p3 p4 fx
                      refine segTH_turns _ _ _ _ _ _ (hid_get HOPS 19 _ rfl) wanted_none (fun K hK => ?_)
                      have fy := fby.frozen
                      have q0 := fby.cell 0
                      have q1 := fby.cell 1
                      have q2 := fby.cell 2
                      have q3 := fby.cell 3
                      have q4 := fby.cell 4
                      simp only [List.getElem?_toArray, List.getElem?_cons_zero, List.getElem?_cons_succ] at q0 q1 q2 q3 q4
                      go_big_op
                      refine hK _ _ (fun _ => True) trivial ?_
                      clear hK q0 q1 q2 q3 q4 fy
                      refine segT_done ?_
                      exact ⟨⟨x, y, A7, c7, _, _, _, _, _, _, _, _, _, _, _, _, _, _, _, _⟩, next_end fbx fby hne nx ny hBc hW14 h7, by simp only [Z11.put, Act.put, List.setIfInBounds_toArray, List.set_cons_zero, List.set_cons_succ]; rfl⟩
                    · go_big_op
                      obtain ⟨W13, y, eW, ey, fby, ea⟩ := alloc_named W12
                      rw [← eW, ← ey]
                      have hne : x ≠ y := by have := fbx.lt; omega
                      have ny : wc.heap.size ≤ y := by have := hW12.size; omega
                      clear eW ey
                      have hW13 : Ext wc W13 := ext_trans hW12 ea
                      refine hK _ _ (fun x => Ext wc x) hW13 (fun x hx => hx) ?_
                      clear hK
                      replace fbx := fbx.ext ea
                      replace h7 := RowsAt.ext h7 ea
                      clear ea
                      refine segTH_makes _ _ _ _ _ _ (hid_get HOPS 15 _ rfl) wanted_none (fun K hK => ?_)
                      go_big_op
                      refine (refNext_any (P1.r.ext hW13) t _ _ ls[k].it.ws).mono ?_
                      rintro e W14 ⟨rfl, e15⟩
                      rw [HSM.out]
                      have hW14 : Ext wc W14 := ext_trans hW13 e15
                      refine hK _ _ (fun x => Ext wc x) hW14 (fun x hx => hx) ?_
                      clear hK
                      replace fbx := fbx.ext e15
                      replace fby := fby.ext e15
                      replace h7 := RowsAt.ext h7 e15
                      clear e15
                      refine segTH_makes _ _ _ _ _ _ (hid_get HOPS 18 _ rfl) wanted_none (fun K hK => ?_)
                      have p0 := fbx.cell 0
                      have p1 := fbx.cell 1
                      have p2 := fbx.cell 2
                      have p3 := fbx.cell 3
                      have p4 := fbx.cell 4
                      have fx := fbx.frozen
                      simp only [List.getElem?_toArray, List.getElem?_cons_zero, List.getElem?_cons_succ] at p0 p1 p2 p3 p4
                      go_big_op
                      refine hK _ _ (fun x => Ext wc x) ?_ (fun x hx => hx) ?_
                      · iterate 5 (refine Below.setCell ?_ (by simpa using nx) _)
                        exact hW14
                      clear hK p0 p1 p2 p3 p4 fx
                      refine segTH_turns _ _ _ _ _ _ (hid_get HOPS 19 _ rfl) wanted_none (fun K hK => ?_)
                      have fy := fby.frozen
                      have q0 := fby.cell 0
                      have q1 := fby.cell 1
                      have q2 := fby.cell 2
                      have q3 := fby.cell 3
                      have q4 := fby.cell 4
                      simp only [List.getElem?_toArray, List.getElem?_cons_zero, List.getElem?_cons_succ] at q0 q1 q2 q3 q4
                      go_big_op
                      refine hK _ _ (fun _ => True) trivial ?_
                      clear hK q0 q1 q2 q3 q4 fy
                      refine segT_done ?_
                      exact ⟨⟨x, y, A7, c7, _, _, _, _, _, _, _, _, _, _, _, _, _, _, _, _⟩, next_end fbx fby hne nx ny hBc hW14 h7, by simp only [Z11.put, Act.put, List.setIfInBounds_toArray, List.set_cons_zero, List.set_cons_succ]; rfl⟩
                  · go_big_op
                    obtain ⟨W12, y, eW, ey, fby, ea⟩ := alloc_named W11
                    rw [← eW, ← ey]
                    have ny : wc.heap.size ≤ y := by have := hW11.size; omega
                    clear eW ey
                    have hW12 : Ext wc W12 := ext_trans hW11 ea
                    refine hK _ _ (fun x => Ext wc x) hW12 (fun x hx => hx) ?_
                    clear hK
                    replace h7 := RowsAt.ext h7 ea
                    clear ea
                    refine segTH_fork _ _ _ _ _ _ _ _ _ _ _ _ (hid_get HOPS 15 _ rfl) (hid_get HOPS 16 _ rfl) wanted_none wanted_none (fun K hK => ?_) (fun K hK => ?_)
                    · go_big_op
                      refine (refNext_any (P1.r.ext hW12) t _ _ ls[k].it.ws).mono ?_
                      rintro e W13 ⟨rfl, e15⟩
                      rw [HSM.out]
                      have hW13 : Ext wc W13 := ext_trans hW12 e15
                      refine hK _ _ (fun x => Ext wc x) hW13 (fun x hx => hx) ?_
                      clear hK
                      replace fby := fby.ext e15
                      replace h7 := RowsAt.ext h7 e15
                      clear e15
                      refine segTH_makes _ _ _ _ _ _ (hid_get HOPS 16 _ rfl) wanted_none (fun K hK => ?_)
                      go_big_op
                      obtain ⟨W14, x, eW, ex, fbx, ea⟩ := alloc_named W13
                      rw [← eW, ← ex]
                      have hne : x ≠ y := by have := fby.lt; omega
                      have nx : wc.heap.size ≤ x := by have := hW13.size; omega
                      clear eW ex
                      have hW14 : Ext wc W14 := ext_trans hW13 ea
                      refine hK _ _ (fun x => Ext wc x) hW14 (fun x hx => hx) ?_
                      clear hK
                      replace fby := fby.ext ea
                      replace h7 := RowsAt.ext h7 ea
                      clear ea
                      refine segTH_makes _ _ _ _ _ _ (hid_get HOPS 18 _ rfl) wanted_none (fun K hK => ?_)
                      have p0 := fbx.cell 0
                      have p1 := fbx.cell 1
                      have p2 := fbx.cell 2
                      have p3 := fbx.cell 3
                      have p4 := fbx.cell 4
                      have fx := fbx.frozen
                      simp only [List.getElem?_toArray, List.getElem?_cons_zero, List.getElem?_cons_succ] at p0 p1 p2 p3 p4
                      go_big_op
                      refine hK _ _ (fun x => Ext wc x) ?_ (fun x hx => hx) ?_
                      · iterate 5 (refine Below.setCell ?_ (by simpa using nx) _)
                        exact hW14
                      clear hK p0 p1 p2 p3 p4 fx
                      refine segTH_turns _ _ _ _ _ _ (hid_get HOPS 19 _ rfl) wanted_none (fun K hK => ?_)
                      have fy := fby.frozen
                      have q0 := fby.cell 0
                      have q1 := fby.cell 1
                      have q2 := fby.cell 2
                      have q3 := fby.cell 3
                      have q4 := fby.cell 4
                      simp only [List.getElem?_toArray, List.getElem?_cons_zero, List.getElem?_cons_succ] at q0 q1 q2 q3 q4
                      go_big_op
                      refine hK _ _ (fun _ => True) trivial ?_
                      clear hK q0 q1 q2 q3 q4 fy
                      refine segT_done ?_
                      exact ⟨⟨x, y, A7, c7, _, _, _, _, _, _, _, _, _, _, _, _, _, _, _, _⟩, next_end fbx fby hne nx ny hBc hW14 h7, by simp only [Z11.put, Act.put, List.setIfInBounds_toArray, List.set_cons_zero, List.set_cons_succ]; rfl⟩
                    · go_big_op
                      obtain ⟨W13, x, eW, ex, fbx, ea⟩ := alloc_named W12
                      rw [← eW, ← ex]
                      have hne : x ≠ y := by have := fby.lt; omega
                      have nx : wc.heap.size ≤ x := by have := hW12.size; omega
                      clear eW ex
                      have hW13 : Ext wc W13 := ext_trans hW12 ea
                      refine hK _ _ (fun x => Ext wc x) hW13 (fun x hx => hx) ?_
                      clear hK
                      replace fby := fby.ext ea
                      replace h7 := RowsAt.ext h7 ea
                      clear ea
                      refine segTH_makes _ _ _ _ _ _ (hid_get HOPS 15 _ rfl) wanted_none (fun K hK => ?_)
                      go_big_op
                      refine (refNext_any (P1.r.ext hW13) t _ _ ls[k].it.ws).mono ?_
                      rintro e W14 ⟨rfl, e15⟩
                      rw [HSM.out]
                      have hW14 : Ext wc W14 := ext_trans hW13 e15
                      refine hK _ _ (fun x => Ext wc x) hW14 (fun x hx => hx) ?_
                      clear hK
                      replace fbx := fbx.ext e15
                      replace fby := fby.ext e15
                      replace h7 := RowsAt.ext h7 e15
                      clear e15
                      refine segTH_makes _ _ _ _ _ _ (hid_get HOPS 18 _ rfl) wanted_none (fun K hK => ?_)
                      have p0 := fbx.cell 0
                      have p1 := fbx.cell 1
                      have p2 := fbx.cell 2
                      have p3 := fbx.cell 3
                      have p4 := fbx.cell 4
                      have fx := fbx.frozen
                      simp only [List.getElem?_toArray, List.getElem?_cons_zero, List.getElem?_cons_succ] at p0 p1 p2 p3 p4
                      go_big_op
                      refine hK _ _ (fun x => Ext wc x) ?_ (fun x hx => hx) ?_
                      · iterate 5 (refine Below.setCell ?_ (by simpa using nx) _)
                        exact hW14
                      clear hK p0 p1 p2 p3 p4 fx
                      refine segTH_turns _ _ _ _ _ _ (hid_get HOPS 19 _ rfl) wanted_none (fun K hK => ?_)
                      have fy := fby.frozen
                      have q0 := fby.cell 0
                      have q1 := fby.cell 1
                      have q2 := fby.cell 2
                      have q3 := fby.cell 3
                      have q4 := fby.cell 4
                      simp only [List.getElem?_toArray, List.getElem?_cons_zero, List.getElem?_cons_succ] at q0 q1 q2 q3 q4
                      go_big_op
                      refine hK _ _ (fun _ => True) trivial ?_
                      clear hK q0 q1 q2 q3 q4 fy
                      refine segT_done ?_
                      exact ⟨⟨x, y, A7, c7, _, _, _, _, _, _, _, _, _, _, _, _, _, _, _, _⟩, next_end fbx fby hne nx ny hBc hW14 h7, by simp only [Z11.put, Act.put, List.setIfInBounds_toArray, List.set_cons_zero, List.set_cons_succ]; rfl⟩
                · go_big_op
                  obtain ⟨W11, x, eW, ex, fbx, ea⟩ := alloc_named W10
                  rw [← eW, ← ex]
                  have nx : wc.heap.size ≤ x := by have := hW10.size; omega
                  clear eW ex
                  have hW11 : Ext wc W11 := ext_trans hW10 ea
                  refine hK _ _ (fun x => Ext wc x) hW11 (fun x hx => hx) ?_
                  clear hK
                  clear ea
                  refine segTH_fork _ _ _ _ _ _ _ _ _ _ _ _ (hid_get HOPS 7 _ rfl) (hid_get HOPS 17 _ rfl) wanted_none wanted_none (fun K hK => ?_) (fun K hK => ?_)
                  · go_big_op
                    refine (strNext_any (P1.s.ext hW11) t _ _ ls[k].it.ws w.heap.size (RowsAt.ext HY.out.at_ hW11) HY.out.len).mono ?_
                    rintro e W12 ⟨A7, c7, rfl, h7, e7⟩
                    have hW12 : Ext wc W12 := ext_trans hW11 e7
                    refine hK _ _ (fun x => Ext wc x) hW12 (fun x hx => hx) ?_
                    clear hK
                    replace fbx := fbx.ext e7
                    clear e7
                    refine segTH_fork _ _ _ _ _ _ _ _ _ _ _ _ (hid_get HOPS 15 _ rfl) (hid_get HOPS 17 _ rfl) wanted_none wanted_none (fun K hK => ?_) (fun K hK => ?_)
                    · go_big_op
                      refine (refNext_any (P1.r.ext hW12) t _ _ ls[k].it.ws).mono ?_
                      rintro e W13 ⟨rfl, e15⟩
                      rw [HSM.out]
                      have hW13 : Ext wc W13 := ext_trans hW12 e15
                      refine hK _ _ (fun x => Ext wc x) hW13 (fun x hx => hx) ?_
                      clear hK
                      replace fbx := fbx.ext e15
                      replace h7 := RowsAt.ext h7 e15
                      clear e15
                      refine segTH_makes _ _ _ _ _ _ (hid_get HOPS 17 _ rfl) wanted_none (fun K hK => ?_)
                      go_big_op
                      obtain ⟨W14, y, eW, ey, fby, ea⟩ := alloc_named W13
                      rw [← eW, ← ey]
                      have hne : x ≠ y := by have := fbx.lt; omega
                      have ny : wc.heap.size ≤ y := by have := hW13.size; omega
                      clear eW ey
                      have hW14 : Ext wc W14 := ext_trans hW13 ea
                      refine hK _ _ (fun x => Ext wc x) hW14 (fun x hx => hx) ?_
                      clear hK
                      replace fbx := fbx.ext ea
                      replace h7 := RowsAt.ext h7 ea
                      clear ea
                      refine segTH_makes _ _ _ _ _ _ (hid_get HOPS 18 _ rfl) wanted_none (fun K hK => ?_)
                      have p0 := fbx.cell 0
                      have p1 := fbx.cell 1
                      have p2 := fbx.cell 2
                      have p3 := fbx.cell 3
                      have p4 := fbx.cell 4
                      have fx := fbx.frozen
                      simp only [List.getElem?_toArray, List.getElem?_cons_zero, List.getElem?_cons_succ] at p0 p1 p2 p3 p4
                      go_big_op
                      refine hK _ _ (fun x => Ext wc x) ?_ (fun x hx => hx) ?_
                      · iterate 5 (refine Below.setCell ?_ (by simpa using nx) _)
                        exact hW14
                      clear hK p0 p1 p2 p3 p4 fx
                      refine segTH_turns _ _ _ _ _ _ (hid_get HOPS 19 _ rfl) wanted_none (fun K hK => ?_)
                      have fy := fby.frozen
                      have q0 := fby.cell 0
                      have q1 := fby.cell 1
                      have q2 := fby.cell 2
                      have q3 := fby.cell 3
                      have q4 := fby.cell 4
                      simp only [List.getElem?_toArray, List.getElem?_cons_zero, List.getElem?_cons_succ] at q0 q1 q2 q3 q4
                      go_big_op
                      refine hK _ _ (fun _ => True) trivial ?_
                      clear hK q0 q1 q2 q3 q4 fy
                      refine segT_done ?_
                      exact ⟨⟨x, y, A7, c7, _, _, _, _, _, _, _, _, _, _, _, _, _, _, _, _⟩, next_end fbx fby hne nx ny hBc hW14 h7, by simp only [Z11.put, Act.put, List.setIfInBounds_toArray, List.set_cons_zero, List.set_cons_succ]; rfl⟩
                    · go_big_op
                      obtain ⟨W13, y, eW, ey, fby, ea⟩ := alloc_named W12
                      rw [← eW, ← ey]
                      have hne : x ≠ y := by have := fbx.lt; omega
                      have ny : wc.heap.size ≤ y := by have := hW12.size; omega
                      clear eW ey
                      have hW13 : Ext wc W13 := ext_trans hW12 ea
                      refine hK _ _ (fun x => Ext wc x) hW13 (fun x hx => hx) ?_
                      clear hK
                      replace fbx := fbx.ext ea
                      replace h7 := RowsAt.ext h7 ea
                      clear ea
                      refine segTH_makes _ _ _ _ _ _ (hid_get HOPS 15 _ rfl) wanted_none (fun K hK => ?_)
                      go_big_op
                      refine (refNext_any (P1.r.ext hW13) t _ _ ls[k].it.ws).mono ?_
                      rintro e W14 ⟨rfl, e15⟩
                      rw [HSM.out]
                      have hW14 : Ext wc W14 := ext_trans hW13 e15
                      refine hK _ _ (fun x => Ext wc x) hW14 (fun x hx => hx) ?_
                      clear hK
                      replace fbx := fbx.ext e15
                      replace fby := fby.ext e15
                      replace h7 := RowsAt.ext h7 e15
                      clear e15
                      refine segTH_makes _ _ _ _ _ _ (hid_get HOPS 18 _ rfl) wanted_none (fun K hK => ?_)
                      have p0 := fbx.cell 0
                      have p1 := fbx.cell 1
                      have p2 := fbx.cell 2
                      have p3 := fbx.cell 3
                      have p4 := fbx.cell 4
                      have fx := fbx.frozen
                      simp only [List.getElem?_toArray, List.getElem?_cons_zero, List.getElem?_cons_succ] at p0 p1 p2 p3 p4
                      go_big_op
                      refine hK _ _ (fun x => Ext wc x) ?_ (fun x hx => hx) ?_
                      · iterate 5 (refine Below.setCell ?_ (by simpa using nx) _)
                        exact hW14
                      clear hK p0 p1 p2 p3 p4 fx
                      refine segTH_turns _ _ _ _ _ _ (hid_get HOPS 19 _ rfl) wanted_none (fun K hK => ?_)
                      have fy := fby.frozen
                      have q0 := fby.cell 0
                      have q1 := fby.cell 1
                      have q2 := fby.cell 2
                      have q3 := fby.cell 3
                      have q4 := fby.cell 4
                      simp only [List.getElem?_toArray, List.getElem?_cons_zero, List.getElem?_cons_succ] at q0 q1 q2 q3 q4
                      go_big_op
                      refine hK _ _ (fun _ => True) trivial ?_
                      clear hK q0 q1 q2 q3 q4 fy
                      refine segT_done ?_
                      exact ⟨⟨x, y, A7, c7, _, _, _, _, _, _, _, _, _, _, _, _, _, _, _, _⟩, next_end fbx fby hne nx ny hBc hW14 h7, by simp only [Z11.put, Act.put, List.setIfInBounds_toArray, List.set_cons_zero, List.set_cons_succ]; rfl⟩
                  · go_big_op
                    obtain ⟨W12, y, eW, ey, fby, ea⟩ := alloc_named W11
                    rw [← eW, ← ey]
                    have hne : x ≠ y := by have := fbx.lt; omega
                    have ny : wc.heap.size ≤ y := by have := hW11.size; omega
                    clear eW ey
                    have hW12 : Ext wc W12 := ext_trans hW11 ea
                    refine hK _ _ (fun x => Ext wc x) hW12 (fun x hx => hx) ?_
                    clear hK
                    replace fbx := fbx.ext ea
                    clear ea
                    refine segTH_makes _ _ _ _ _ _ (hid_get HOPS 7 _ rfl) wanted_none (fun K hK => ?_)
                    go_big_op
                    refine (strNext_any (P1.s.ext hW12) t _ _ ls[k].it.ws w.heap.size (RowsAt.ext HY.out.at_ hW12) HY.out.len).mono ?_
                    rintro e W13 ⟨A7, c7, rfl, h7, e7⟩
                    have hW13 : Ext wc W13 := ext_trans hW12 e7
                    refine hK _ _ (fun x => Ext wc x) hW13 (fun x hx => hx) ?_
                    clear hK
                    replace fbx := fbx.ext e7
                    replace fby := fby.ext e7
                    clear e7
                    refine segTH_makes _ _ _ _ _ _ (hid_get HOPS 15 _ rfl) wanted_none (fun K hK => ?_)
                    go_big_op
                    refine (refNext_any (P1.r.ext hW13) t _ _ ls[k].it.ws).mono ?_
                    rintro e W14 ⟨rfl, e15⟩
                    rw [HSM.out]
                    have hW14 : Ext wc W14 := ext_trans hW13 e15
                    refine hK _ _ (fun x => Ext wc x) hW14 (fun x hx => hx) ?_
                    clear hK
                    replace fbx := fbx.ext e15
                    replace fby := fby.ext e15
                    replace h7 := RowsAt.ext h7 e15
                    clear e15
                    refine segTH_makes _ _ _ _ _ _ (hid_get HOPS 18 _ rfl) wanted_none (fun K hK => ?_)
                    have p0 := fbx.cell 0
                    have p1 := fbx.cell 1
                    have p2 := fbx.cell 2
                    have p3 := fbx.cell 3
                    have p4 := fbx.cell 4
                    have fx := fbx.frozen
                    simp only [List.getElem?_toArray, List.getElem?_cons_zero, List.getElem?_cons_succ] at p0 p1 p2 p3 p4
                    go_big_op
                    refine hK _ _ (fun x => Ext wc x) ?_ (fun x hx => hx) ?_
                    · iterate 5 (refine Below.setCell ?_ (by simpa using nx) _)
                      exact hW14
                    clear hK p0 p1 p2 p3 p4 fx
                    refine segTH_turns _ _ _ _ _ _ (hid_get HOPS 19 _ rfl) wanted_none (fun K hK => ?_)
                    have fy := fby.frozen
                    have q0 := fby.cell 0
                    have q1 := fby.cell 1
                    have q2 := fby.cell 2
                    have q3 := fby.cell 3
                    have q4 := fby.cell 4
                    simp only [List.getElem?_toArray, List.getElem?_cons_zero, List.getElem?_cons_succ] at q0 q1 q2 q3 q4
                    go_big_op
                    refine hK _ _ (fun _ => True) trivial ?_
                    clear hK q0 q1 q2 q3 q4 fy
                    refine segT_done ?_
                    exact ⟨⟨x, y, A7, c7, _, _, _, _, _, _, _, _, _, _, _, _, _, _, _, _⟩, next_end fbx fby hne nx ny hBc hW14 h7, by simp only [Z11.put, Act.put, List.setIfInBounds_toArray, List.set_cons_zero, List.set_cons_succ]; rfl⟩
                · go_big_op
                  obtain ⟨W11, y, eW, ey, fby, ea⟩ := alloc_named W10
                  rw [← eW, ← ey]
                  have ny : wc.heap.size ≤ y := by have := hW10.size; omega
                  clear eW ey
                  have hW11 : Ext wc W11 := ext_trans hW10 ea
                  refine hK _ _ (fun x => Ext wc x) hW11 (fun x hx => hx) ?_
                  clear hK
                  clear ea
                  refine segTH_fork _ _ _ _ _ _ _ _ _ _ _ _ (hid_get HOPS 7 _ rfl) (hid_get HOPS 16 _ rfl) wanted_none wanted_none (fun K hK => ?_) (fun K hK => ?_)
                  · go_big_op
                    refine (strNext_any (P1.s.ext hW11) t _ _ ls[k].it.ws w.heap.size (RowsAt.ext HY.out.at_ hW11) HY.out.len).mono ?_
                    rintro e W12 ⟨A7, c7, rfl, h7, e7⟩
                    have hW12 : Ext wc W12 := ext_trans hW11 e7
                    refine hK _ _ (fun x => Ext wc x) hW12 (fun x hx => hx) ?_
                    clear hK
                    replace fby := fby.ext e7
                    clear e7
                    refine segTH_fork _ _ _ _ _ _ _ _ _ _ _ _ (hid_get HOPS 15 _ rfl) (hid_get HOPS 16 _ rfl) wanted_none wanted_none (fun K hK => ?_) (fun K hK => ?_)
                    · go_big_op
                      refine (refNext_any (P1.r.ext hW12) t _ _ ls[k].it.ws).mono ?_
                      rintro e W13 ⟨rfl, e15⟩
                      rw [HSM.out]
                      have hW13 : Ext wc W13 := ext_trans hW12 e15
                      refine hK _ _ (fun x => Ext wc x) hW13 (fun x hx => hx) ?_
                      clear hK
                      replace fby := fby.ext e15
                      replace h7 := RowsAt.ext h7 e15
                      clear e15
                      refine segTH_makes _ _ _ _ _ _ (hid_get HOPS 16 _ rfl) wanted_none (fun K hK => ?_)
                      go_big_op
                      obtain ⟨W14, x, eW, ex, fbx, ea⟩ := alloc_named W13
                      rw [← eW, ← ex]
                      have hne : x ≠ y := by have := fby.lt; omega
                      have nx : wc.heap.size ≤ x := by have := hW13.size; omega
                      clear eW ex
                      have hW14 : Ext wc W14 := ext_trans hW13 ea
                      refine hK _ _ (fun x => Ext wc x) hW14 (fun x hx => hx) ?_
                      clear hK
                      replace fby := fby.ext ea
                      replace h7 := RowsAt.ext h7 ea
                      clear ea
                      refine segTH_makes _ _ _ _ _ _ (hid_get HOPS 18 _ rfl) wanted_none (fun K hK => ?_)
                      have p0 := fbx.cell 0
                      have p1 := fbx.cell 1
                      have p2 := fbx.cell 2
                      have p3 := fbx.cell 3
                      have p4 := fbx.cell 4
                      have fx := fbx.frozen
                      simp only [List.getElem?_toArray, List.getElem?_cons_zero, List.getElem?_cons_succ] at p0 p1 p2 p3 p4
                      go_big_op
                      refine hK _ _ (fun x => Ext wc x) ?_ (fun x hx => hx) ?_
                      · iterate 5 (refine Below.setCell ?_ (by simpa using nx) _)
                        exact hW14
                      clear hK p0 p1 p2 p3 p4 fx
                      refine segTH_turns _ _ _ _ _ _ (hid_get HOPS 19 _ rfl) wanted_none (fun K hK => ?_)
                      have fy := fby.frozen
                      have q0 := fby.cell 0
                      have q1 := fby.cell 1
                      have q2 := fby.cell 2
                      have q3 := fby.cell 3
                      have q4 := fby.cell 4
                      simp only [List.getElem?_toArray, List.getElem?_cons_zero, List.getElem?_cons_succ] at q0 q1 q2 q3 q4
                      go_big_op
                      refine hK _ _ (fun _ => True) trivial ?_
                      clear hK q0 q1 q2 q3 q4 fy
                      refine segT_done ?_
                      exact ⟨⟨x, y, A7, c7, _, _, _, _, _, _, _, _, _, _, _, _, _, _, _, _⟩, next_end fbx fby hne nx ny hBc hW14 h7, by simp only [Z11.put, Act.put, List.setIfInBounds_toArray, List.set_cons_zero, List.set_cons_succ]; rfl⟩
                    · go_big_op
                      obtain ⟨W13, x, eW, ex, fbx, ea⟩ := alloc_named W12
                      rw [← eW, ← ex]
                      have hne : x ≠ y := by have := fby.lt; omega
                      have nx : wc.heap.size ≤ x := by have := hW12.size; omega
                      clear eW ex
                      have hW13 : Ext wc W13 := ext_trans hW12 ea
                      refine hK _ _ (fun x => Ext wc x) hW13 (fun x hx => hx) ?_
                      clear hK
                      replace fby := fby.ext ea
                      replace h7 := RowsAt.ext h7 ea
                      clear ea
                      refine segTH_makes _ _ _ _ _ _ (hid_get HOPS 15 _ rfl) wanted_none (fun K hK => ?_)
                      go_big_op
                      refine (refNext_any (P1.r.ext hW13) t _ _ ls[k].it.ws).mono ?_
                      rintro e W14 ⟨rfl, e15⟩
                      rw [HSM.out]
                      have hW14 : Ext wc W14 := ext_trans hW13 e15
                      refine hK _ _ (fun x => Ext wc x) hW14 (fun x hx => hx) ?_
                      clear hK
                      replace fbx := fbx.ext e15
                      replace fby := fby.ext e15
                      replace h7 := RowsAt.ext h7 e15
                      clear e15
                      refine segTH_makes _ _ _ _ _ _ (hid_get HOPS 18 _ rfl) wanted_none (fun K hK => ?_)
                      have p0 := fbx.cell 0
                      have p1 := fbx.cell 1
                      have p2 := fbx.cell 2
                      have p3 := fbx.cell 3
                      have p4 := fbx.cell 4
                      have fx := fbx.frozen
                      simp only [List.getElem?_toArray, List.getElem?_cons_zero, List.getElem?_cons_succ] at p0 p1 p2 p3 p4
                      go_big_op
                      refine hK _ _ (fun x => Ext wc x) ?_ (fun x hx => hx) ?_
                      · iterate 5 (refine Below.setCell ?_ (by simpa using nx) _)
                        exact hW14
                      clear hK p0 p1 p2 p3 p4 fx
                      refine segTH_turns _ _ _ _ _ _ (hid_get HOPS 19 _ rfl) wanted_none (fun K hK => ?_)
                      have fy := fby.frozen
                      have q0 := fby.cell 0
                      have q1 := fby.cell 1
                      have q2 := fby.cell 2
                      have q3 := fby.cell 3
                      have q4 := fby.cell 4
                      simp only [List.getElem?_toArray, List.getElem?_cons_zero, List.getElem?_cons_succ] at q0 q1 q2 q3 q4
                      go_big_op
                      refine hK _ _ (fun _ => True) trivial ?_
                      clear hK q0 q1 q2 q3 q4 fy
                      refine segT_done ?_
                      exact ⟨⟨x, y, A7, c7, _, _, _, _, _, _, _, _, _, _, _, _, _, _, _, _⟩, next_end fbx fby hne nx ny hBc hW14 h7, by simp only [Z11.put, Act.put, List.setIfInBounds_toArray, List.set_cons_zero, List.set_cons_succ]; rfl⟩
                  · go_big_op
                    obtain ⟨W12, x, eW, ex, fbx, ea⟩ := alloc_named W11
                    rw [← eW, ← ex]
                    have hne : x ≠ y := by have := fby.lt; omega
                    have nx : wc.heap.size ≤ x := by have := hW11.size; omega
                    clear eW ex
                    have hW12 : Ext wc W12 := ext_trans hW11 ea
                    refine hK _ _ (fun x => Ext wc x) hW12 (fun x hx => hx) ?_
                    clear hK
                    replace fby := fby.ext ea
                    clear ea
                    refine segTH_makes _ _ _ _ _ _ (hid_get HOPS 7 _ rfl) wanted_none (fun K hK => ?_)
                    go_big_op
                    refine (strNext_any (P1.s.ext hW12) t _ _ ls[k].it.ws w.heap.size (RowsAt.ext HY.out.at_ hW12) HY.out.len).mono ?_
                    rintro e W13 ⟨A7, c7, rfl, h7, e7⟩
                    have hW13 : Ext wc W13 := ext_trans hW12 e7
                    refine hK _ _ (fun x => Ext wc x) hW13 (fun x hx => hx) ?_
                    clear hK
                    replace fbx := fbx.ext e7
                    replace fby := fby.ext e7
                    clear e7
                    refine segTH_makes _ _ _ _ _ _ (hid_get HOPS 15 _ rfl) wanted_none (fun K hK => ?_)
                    go_big_op
                    refine (refNext_any (P1.r.ext hW13) t _ _ ls[k].it.ws).mono ?_
                    rintro e W14 ⟨rfl, e15⟩
                    rw [HSM.out]
                    have hW14 : Ext wc W14 := ext_trans hW13 e15
                    refine hK _ _ (fun x => Ext wc x) hW14 (fun x hx => hx) ?_
                    clear hK
                    replace fbx := fbx.ext e15
                    replace fby := fby.ext e15
                    replace h7 := RowsAt.ext h7 e15
                    clear e15
                    refine segTH_makes _ _ _ _ _ _ (hid_get HOPS 18 _ rfl) wanted_none (fun K hK => ?_)
                    have p0 := fbx.cell 0
                    have p1 := fbx.cell 1
                    have p2 := fbx.cell 2
                    have p3 := fbx.cell 3
                    have p4 := fbx.cell 4
                    have fx := fbx.frozen
                    simp only [List.getElem?_toArray, List.getElem?_cons_zero, List.getElem?_cons_succ] at p0 p1 p2 p3 p4
                    go_big_op
                    refine hK _ _ (fun x => Ext wc x) ?_ (fun x hx => hx) ?_
                    · iterate 5 (refine Below.setCell ?_ (by simpa using nx) _)
                      exact hW14
                    clear hK p0 p1 p2 p3 p4 fx
                    refine segTH_turns _ _ _ _ _ _ (hid_get HOPS 19 _ rfl) wanted_none (fun K hK => ?_)
                    have fy := fby.frozen
                    have q0 := fby.cell 0
                    have q1 := fby.cell 1
                    have q2 := fby.cell 2
                    have q3 := fby.cell 3
                    have q4 := fby.cell 4
                    simp only [List.getElem?_toArray, List.getElem?_cons_zero, List.getElem?_cons_succ] at q0 q1 q2 q3 q4
                    go_big_op
                    refine hK _ _ (fun _ => True) trivial ?_
                    clear hK q0 q1 q2 q3 q4 fy
                    refine segT_done ?_
                    exact ⟨⟨x, y, A7, c7, _, _, _, _, _, _, _, _, _, _, _, _, _, _, _, _⟩, next_end fbx fby hne nx ny hBc hW14 h7, by simp only [Z11.put, Act.put, List.setIfInBounds_toArray, List.set_cons_zero, List.set_cons_succ]; rfl⟩
              case refine_2 =>
                rintro z W ⟨hW, bzx, bzy, hz7⟩
                simp only [Z11.put, Act.put, List.setIfInBounds_toArray, List.set_cons_zero, List.set_cons_succ]
                obtain ⟨zx, zy, zA, zc, v58, v59, v60, v61, v62, v63, v64, v65, v66, v67, v68, v69, v70, v71, v72, v73⟩ := z
                dsimp only at *
                have HY2 : Hid (IvOk W w.heap.size ⟨nextIt lev xs.length t ls[k].it.ws, ls[k].A, ls[k].c⟩) := ⟨HY.out.at_.ext hW, HY.out.wr, HY.out.len⟩
                have p0 := bzx.cell 0
                have p1 := bzx.cell 1
                have p2 := bzx.cell 2
                have p3 := bzx.cell 3
                have p4 := bzx.cell 4
                have q0 := bzy.cell 0
                have q1 := bzy.cell 1
                have q2 := bzy.cell 2
                have q3 := bzy.cell 3
                have q4 := bzy.cell 4
                simp only [List.getElem?_toArray, List.getElem?_cons_zero, List.getElem?_cons_succ, Iv.cells] at p0 p1 p2 p3 p4 q0 q1 q2 q3 q4
                go_wp2_with fail
                refine (refItemSame_any (nextIt lev xs.length t ls[k].it.ws) (nextIt lev xs.length t ls[k].it.ws) zA ls[k].A zc ls[k].c _ _ _ hz7 HY2.out.at_ HY2.out.le).mono ?_
                rintro e W2 ⟨rfl, e2⟩
                rw [itSame_refl]
                clear p0 p1 p2 p3 p4 q0 q1 q2 q3 q4 bzx hz7
                replace bzy := bzy.ext e2
                have HY3 := Lib.hid (HY2.out.ext e2)
                have hbx2 := hx.ext (ext_trans hW e2)
                have P2 := P1.to (ext_trans hW e2)
                have q0 := bzy.cell 0
                have q1 := bzy.cell 1
                have q2 := bzy.cell 2
                have q3 := bzy.cell 3
                have q4 := bzy.cell 4
                have r0 := hbx2.cell 0
                have r1 := hbx2.cell 1
                have r2 := hbx2.cell 2
                have r3 := hbx2.cell 3
                have r4 := hbx2.cell 4
                have rf := hbx2.frozen
                simp only [List.getElem?_toArray, List.getElem?_cons_zero, List.getElem?_cons_succ, Iv.cells] at q0 q1 q2 q3 q4 r0 r1 r2 r3 r4
                obtain ⟨a1, a2, a3, a4⟩ := store5 (B := w.heap.size) (.int .i64 (nextIt lev xs.length t ls[k].it.ws).level) (.int .i64 (nextIt lev xs.length t ls[k].it.ws).n) (.int .i64 (nextIt lev xs.length t ls[k].it.ws).turn) (.bool (nextIt lev xs.length t ls[k].it.ws).shut) (.slice ls[k].A ls[k].it.ws.length ls[k].c) hbx2 hB
                have A1 := Lib.hid (And.intro a1 (And.intro a2 (And.intro a3 a4)))
                clear a1 a2 a3 a4 e2 hW bzy hbx2
                go_wp2
                go_meet
                exact ⟨⟨nextIt lev xs.length t ls[k].it.ws, ls[k].A, ls[k].c⟩, HY3.out.keeps A1.out.2.1 (by decide), P2.off (mods5 _ _ _ _ _ _ _) A1.out.2.1 hbx hB, A1.out.1⟩
          case rest =>
            obtain ⟨y, hy, P2, hx2⟩ := hcut
            clear P1 hx HY hKr
            have hn0 := P2.s.blk.lt
            have hn1 : ∀ b, RowOf v b → b < wc.heap.size := fun b hb => (World.ownsRow.lt P2.s.own _ hb).2
            have hn2 : ∀ b, RowOf vr b → b < wc.heap.size := fun b hb => (World.ownsRow.lt P2.r.own _ hb).2
            have hbl := hx2.lt
            have HNN := Lib.hid (And.intro hn1 (And.intro hn2 (And.intro hbx hbl)))
            clear hn1 hn2 hbx hbl
            go_wp2_with fail
            refine (strCopy_any P2.s).mono ?_
            rintro e w3 ⟨g2, v2, rfl, s2, hg2, hv2, e3⟩
            have HV2 := Lib.hid hv2
            replace P2 := P2.to e3
            replace hx2 := hx2.ext e3
            replace hy := hy.ext e3
            clear e3 hv2
            go_wp2_with fail
            refine (strTurn_any P2.s).mono ?_
            rintro e w4 ⟨rfl, rfl⟩
            go_wp2_with fail
            refine (strNext_any P2.s t none 0 [] w.heap.size RowsAt.nil (by decide)).mono ?_
            rintro e w4 ⟨A4, c4, rfl, h4, e4⟩
            replace P2 := P2.to e4
            replace hx2 := hx2.ext e4
            replace hy := hy.ext e4
            replace s2 := s2.ext e4
            clear e4
            go_wp2_with fail
            refine (strAdd_both P2.s ⟨lev, (xs.length : Int) + 1, t, true, []⟩ A4 c4 h4 (by simp) (by simp)).mono ?_
            rintro e w5 ⟨xs5, v5, rfl, s5, hi5, m5, ho5⟩
            replace hx2 := hx2.mods m5 (fun h => by
              have h1 := HNN.out.2.2.1.1
              exact h1 h)
            replace hy := hy.keeps (P2.s.keeps_of m5) (by decide)
            have P3 : PlaysAt w w5 lev g2 gr k t xs v2 ys vr := P2.copied s2 hg2 HV2.out hn0 HNN.out.1 HNN.out.2.1 m5
            clear P2 s2 h4 s5 hi5 m5 ho5
            have z0 := fun (x : World) (h : Blk x bx 33 (Iv.cells y).toArray) => h.cell 0
            have z1 := fun (x : World) (h : Blk x bx 33 (Iv.cells y).toArray) => h.cell 1
            have z2 := fun (x : World) (h : Blk x bx 33 (Iv.cells y).toArray) => h.cell 2
            have z3 := fun (x : World) (h : Blk x bx 33 (Iv.cells y).toArray) => h.cell 3
            have z4 := fun (x : World) (h : Blk x bx 33 (Iv.cells y).toArray) => h.cell 4
            simp only [Iv.cells, List.getElem?_toArray, List.getElem?_cons_zero, List.getElem?_cons_succ] at z0 z1 z2 z3 z4
            simp only [Iv.cells] at hx2
            go_upto_region 18 with fail
            refine wp_region_planH (.reads 0 (.reads 1 (.reads 3 (.reads 4 (.makes 2 (.makes 5 (.reads 6 (.reads 7 (.done))))))))) (by kernel_rfl) (by kernel_rfl) (fun x => Blk x bx 33 [Value.int .i64 y.it.level, .int .i64 y.it.n, .int .i64 y.it.turn, .bool y.it.shut, .slice y.A y.it.ws.length y.c].toArray) (hx2.ext (ext_drewN w5 1)) (fun ops HOPS => ?_)
            (refine segH_pure _ _ _ _ _ _ (hid_get HOPS 0 _ rfl) rfl wanted_none (fun _ _ _ _ h => h) ?_; intro K hK; go_big_quiet_op; go_big_quiet_on)
            (refine segH_load _ _ _ _ _ _ _ _ _ (hid_get HOPS 1 _ rfl) wanted_none rfl (fun _ _ _ _ h => h) (fun y hy => by go_simp; try with_reducible rfl) ?_; simp only [Act.put, List.setIfInBounds_toArray, List.set_cons_zero, List.set_cons_succ])
            (refine segH_pure _ _ _ _ _ _ (hid_get HOPS 3 _ rfl) rfl wanted_none (fun _ _ _ _ h => h) ?_; intro K hK; go_big_quiet_op; go_big_quiet_on)
            (refine segH_load _ _ _ _ _ _ _ _ _ (hid_get HOPS 4 _ rfl) wanted_none rfl (fun _ _ _ _ h => h) (fun y hy => by go_simp; try with_reducible rfl) ?_; simp only [Act.put, List.setIfInBounds_toArray, List.set_cons_zero, List.set_cons_succ])
            refine segH_makes _ _ _ _ _ _ (hid_get HOPS 2 _ rfl) wanted_none (fun K hK => ?_)
            go_big_op
            replace P3 := P3.to (ext_drewN w5 1)
            replace hx2 := hx2.ext (ext_drewN w5 1)
            replace hy := hy.ext (ext_drewN w5 1)
            change Calls _ _ _ (w5.drewN 1) _
            generalize w5.drewN 1 = w5d at P3 hx2 hy ⊢
            refine (strAdd_both P3.s y.it y.A y.c hy.at_ hy.wr hy.len).mono ?_
            rintro e w6 ⟨xs6, v6, rfl, s6, hi6, m6, ho6⟩
            replace hx2 := hx2.mods m6 (fun h => by
              rcases h with h | h
              · have := HNN.out.2.2.2; omega
              · have := HV2.out _ h; have := HNN.out.2.2.2; omega)
            replace hy := hy.keeps (P3.s.keeps_of m6) (by decide)
            refine hK _ _ (fun x => Blk x bx 33 [Value.int .i64 y.it.level, .int .i64 y.it.n, .int .i64 y.it.turn, .bool y.it.shut, .slice y.A y.it.ws.length y.c].toArray) hx2 (fun _ h => h) ?_
            clear hK
            refine segH_makes _ _ _ _ _ _ (hid_get HOPS 5 _ rfl) wanted_none (fun K hK => ?_)
            go_big_op
            have rb : StrAt w6 w.heap.size 30 gr lev t ys vr := P3.s.apart P3.r m6 (fun e => P3.s.blk.apart P3.r.blk (by decide) e.symm) (fun b hb hc => P3.ap b hc hb) (by decide) (by decide) (by decide)
            refine (refAdd_both rb y.it y.A y.c hy.at_ hy.wr hy.len).mono ?_
            rintro e w7 ⟨ys7, v7, rfl, s7, hi7, m7, ho7⟩
            have HSM : Hid (ys.length = xs.length) := by have := congrArg List.length P3.same; rw [its_length, its_length] at this; exact this.symm
            rw [HSM.out] at s7
            have P4 := P3.added s6 hi6 m6 ho6 s7 hi7 m7 ho7
            replace hx2 := hx2.mods m7 (fun h => HNN.out.2.2.1.2 h)
            refine hK _ _ (fun x => Blk x bx 33 [Value.int .i64 y.it.level, .int .i64 y.it.n, .int .i64 y.it.turn, .bool y.it.shut, .slice y.A y.it.ws.length y.c].toArray) hx2 (fun _ h => h) ?_
            clear hK
            (refine segH_pure _ _ _ _ _ _ (hid_get HOPS 6 _ rfl) rfl wanted_none (fun _ _ _ _ h => h) ?_; intro K hK; go_big_quiet_op; go_big_quiet_on)
            (refine segH_pure _ _ _ _ _ _ (hid_get HOPS 7 _ rfl) rfl wanted_none (fun _ _ _ _ h => h) ?_; intro K hK; go_big_quiet_op; go_big_quiet_on)
            refine seg_done ?_
            clear HOPS
            rw [HSM.out]
            clear z0 z1 z2 z3 z4 P3 s6 hi6 m6 ho6 s7 hi7 m7 ho7 rb hx2 hy HSM
            generalize (if addErr lev t xs.length y.it = 0 ∧ y.it.shut = true then t + 1 else t) = t6 at P4
            generalize addErr lev t xs.length y.it = er
            have HSM : Hid (ys7.length = xs6.length) := by have := congrArg List.length P4.same; rw [its_length, its_length] at this; exact this.symm
            obtain ⟨Ar, cr, rfl, -⟩ := P4.r.form
            by_cases hin : 1 ≤ n ∧ n ≤ xs6.length
            · obtain ⟨m, rfl⟩ : ∃ m : Nat, n = (m : Int) + 1 := ⟨(n - 1).toNat, by omega⟩
              have hm : m < xs6.length := by omega
              have hm2 : m < ys7.length := by rw [HSM.out]; exact hm
              clear hin
              go_wp2_with fail
              refine (strItem_some P4.s ((m : Int) + 1) (by omega) (by omega)).mono ?_
              rintro e w8 ⟨z, A8, c8, hz, rfl, h8, e8⟩
              have HZL : Hid (z.it.ws.length ≤ 9223372036854775807) := by
                have h1 : z ∈ xs6 := List.mem_of_getElem? hz
                exact (P4.s.ok z h1).le
              have HZ := Lib.hid hz; clear hz
              go_upto_region 22 with fail
              have b20 : Blk (w8.alloc (.cells #[.int .i64 z.it.level, .int .i64 z.it.n, .int .i64 z.it.turn, .bool z.it.shut, .slice A8 z.it.ws.length c8] 33)) w8.heap.size 33 #[.int .i64 z.it.level, .int .i64 z.it.n, .int .i64 z.it.turn, .bool z.it.shut, .slice A8 z.it.ws.length c8] := Blk.new _ _ _
              have P5 := (P4.to e8).to (ext_alloc w8 (.cells #[.int .i64 z.it.level, .int .i64 z.it.n, .int .i64 z.it.turn, .bool z.it.shut, .slice A8 z.it.ws.length c8] 33))
              replace h8 := RowsAt.ext h8 (ext_alloc w8 (.cells #[.int .i64 z.it.level, .int .i64 z.it.n, .int .i64 z.it.turn, .bool z.it.shut, .slice A8 z.it.ws.length c8] 33))
              clear P4 e8
              generalize w8.alloc (.cells #[.int .i64 z.it.level, .int .i64 z.it.n, .int .i64 z.it.turn, .bool z.it.shut, .slice A8 z.it.ws.length c8] 33) = w9 at b20 P5 h8 ⊢
              generalize w8.heap.size = g20 at b20 ⊢
              obtain ⟨Ax, cx, ex, RX⟩ := P5.r.form
              obtain ⟨rfl, rfl⟩ : Ar = Ax ∧ cr = cx := by injection ex with h1 _ h3; exact ⟨h1, h3⟩
              obtain ⟨ay, rfl, i0, i1, i2, i3, i4⟩ := RowsIv.get RX hm2
              have j1 := P5.r.blk.cell 1
              have j2 := P5.r.blk.cell 2
              have l0 := b20.cell 0
              have l1 := b20.cell 1
              have l2 := b20.cell 2
              have l3 := b20.cell 3
              have l4 := b20.cell 4
              simp only [List.getElem?_toArray, List.getElem?_cons_zero, List.getElem?_cons_succ] at j1 j2 l0 l1 l2 l3 l4
              clear ex RX b20
              have yj1 := fun x (hx : Ext w9 x) => ext_cell hx j1
              have yj2 := fun x (hx : Ext w9 x) => ext_cell hx j2
              have yl0 := fun x (hx : Ext w9 x) => ext_cell hx l0
              have yl1 := fun x (hx : Ext w9 x) => ext_cell hx l1
              have yl2 := fun x (hx : Ext w9 x) => ext_cell hx l2
              have yl3 := fun x (hx : Ext w9 x) => ext_cell hx l3
              have yl4 := fun x (hx : Ext w9 x) => ext_cell hx l4
              have yi0 := fun x (hx : Ext w9 x) => ext_cell hx i0
              have yi1 := fun x (hx : Ext w9 x) => ext_cell hx i1
              have yi2 := fun x (hx : Ext w9 x) => ext_cell hx i2
              have yi3 := fun x (hx : Ext w9 x) => ext_cell hx i3
              have yi4 := fun x (hx : Ext w9 x) => ext_cell hx i4
              have HY := Lib.hid (And.intro yj1 (And.intro yj2 (And.intro yl0 (And.intro yl1 (And.intro yl2 (And.intro yl3 (And.intro yl4 (And.intro yi0 (And.intro yi1 (And.intro yi2 (And.intro yi3 yi4)))))))))))
              clear yj1 yj2 yl0 yl1 yl2 yl3 yl4 yi0 yi1 yi2 yi3 yi4 l0 l1 l2 l3 l4 i0 i1 i2 i3 i4
              have d1 : decide ((1 : Int) ≤ (m : Int) + 1) = true := decide_eq_true (by omega)
              have d2 : decide ((m : Int) + 1 ≤ (ys7.length : Int)) = true := decide_eq_true (by omega)
              have d3 : (1 : Int) ≤ (m : Int) + 1 := by omega
              have d4 : (m : Int) + 1 ≤ (ys7.length : Int) := by omega
              go_upto_region 23 with fail
              clear d1 d2 d3 d4
              clear j1 j2
              obtain ⟨yj1, yj2, yl0, yl1, yl2, yl3, yl4, yi0, yi1, yi2, yi3, yi4⟩ := HY.out
              have hlq : ((xs6.length : Int) != (ys7.length : Int)) = false := by rw [HSM.out]; simp
              have hw2 : IntKind.i64.wrap (m : Int) = (m : Int) := IntWalk.i64_in _ (by have := HN.out; omega)
              have hw1 : IntKind.i64.wrap ((m : Int) + 1 - 1) = (m : Int) := by rw [show (m : Int) + 1 - 1 = m by omega]; exact hw2
              refine wp_region_planH (.reads 0 (.reads 1 (.reads 2 (.reads 3 (.reads 4 (.reads 5 (.reads 6 (.reads 7 (.reads 8 (.reads 9 (.reads 10 (.reads 11 (.reads 12 (.reads 13 (.reads 14 (.makes 15 (.reads 16 (.reads 17 (.reads 18 (.reads 19 (.reads 20 (.reads 22 (.reads 23 (.reads 24 (.reads 25 (.reads 26 (.makes 21 (.reads 27 (.reads 28 (.reads 29 (.reads 30 (.reads 32 (.reads 33 (.reads 34 (.reads 35 (.makes 31 (.reads 36 (.reads 37 (.reads 38 (.reads 39 (.reads 40 (.reads 41 (.reads 43 (.reads 44 (.reads 45 (.makes 42 (.makes 46 (.makes 47 (.reads 48 (.reads 49 (.done))))))))))))))))))))))))))))))))))))))))))))))))))) (by kernel_rfl) (by kernel_rfl) (fun x => Ext w9 x) (ext_drewN w9 1) (fun ops HOPS => ?_)
              (refine segH_pure _ _ _ _ _ _ (hid_get HOPS 0 _ rfl) rfl wanted_none (fun _ _ _ _ h => h) ?_; intro K hK; go_big_quiet_op; go_big_quiet_on)
              (refine segH_pure _ _ _ _ _ _ (hid_get HOPS 1 _ rfl) rfl wanted_none (fun _ _ _ _ h => h) ?_; intro K hK; go_big_quiet_op; go_big_quiet_on)
              (refine segH_pure _ _ _ _ _ _ (hid_get HOPS 2 _ rfl) rfl wanted_none (fun _ _ _ _ h => h) ?_; intro K hK; go_big_quiet_op; go_big_quiet_on)
              (refine segH_pure _ _ _ _ _ _ (hid_get HOPS 3 _ rfl) rfl wanted_none (fun _ _ _ _ h => h) ?_; intro K hK; go_big_quiet_op; go_big_quiet_on)
              first | (refine segH_pass _ _ _ _ _ _ (hid_get HOPS 4 _ rfl) (wanted_some (hid_get HOPS 3 _ rfl) rfl rfl rfl) (fun _ _ _ _ h => h) ?_; simp only [Act.put, List.setIfInBounds_toArray, List.set_cons_zero, List.set_cons_succ]) | (refine segH_pure _ _ _ _ _ _ (hid_get HOPS 4 _ rfl) rfl (wanted_some (hid_get HOPS 3 _ rfl) rfl rfl rfl) (fun _ _ _ _ h => h) ?_; intro K hK; go_big_quiet_op; go_big_quiet_on)
              first | (refine segH_pass _ _ _ _ _ _ (hid_get HOPS 5 _ rfl) (wanted_some (hid_get HOPS 3 _ rfl) rfl rfl rfl) (fun _ _ _ _ h => h) ?_; simp only [Act.put, List.setIfInBounds_toArray, List.set_cons_zero, List.set_cons_succ]) | (refine segH_pure _ _ _ _ _ _ (hid_get HOPS 5 _ rfl) rfl (wanted_some (hid_get HOPS 3 _ rfl) rfl rfl rfl) (fun _ _ _ _ h => h) ?_; intro K hK; go_big_quiet_op; go_big_quiet_on)
              first | (refine segH_pass _ _ _ _ _ _ (hid_get HOPS 6 _ rfl) (wanted_some (hid_get HOPS 5 _ rfl) rfl rfl rfl) (fun _ _ _ _ h => h) ?_; simp only [Act.put, List.setIfInBounds_toArray, List.set_cons_zero, List.set_cons_succ]) | (refine segH_load _ _ _ _ _ _ _ _ _ (hid_get HOPS 6 _ rfl) (wanted_some (hid_get HOPS 5 _ rfl) rfl rfl rfl) rfl (fun _ _ _ _ h => h) (fun y hy => by go_simp; try with_reducible rfl) ?_; simp only [Act.put, List.setIfInBounds_toArray, List.set_cons_zero, List.set_cons_succ])
              first | (refine segH_pass _ _ _ _ _ _ (hid_get HOPS 7 _ rfl) (wanted_some (hid_get HOPS 5 _ rfl) rfl rfl rfl) (fun _ _ _ _ h => h) ?_; simp only [Act.put, List.setIfInBounds_toArray, List.set_cons_zero, List.set_cons_succ]) | (refine segH_pure _ _ _ _ _ _ (hid_get HOPS 7 _ rfl) rfl (wanted_some (hid_get HOPS 5 _ rfl) rfl rfl rfl) (fun _ _ _ _ h => h) ?_; intro K hK; go_big_quiet_op; go_big_quiet_on)
              first | (refine segH_pass _ _ _ _ _ _ (hid_get HOPS 8 _ rfl) (wanted_some (hid_get HOPS 5 _ rfl) rfl rfl rfl) (fun _ _ _ _ h => h) ?_; simp only [Act.put, List.setIfInBounds_toArray, List.set_cons_zero, List.set_cons_succ]) | (refine segH_nil _ _ _ _ _ _ _ (hid_get HOPS 8 _ rfl) (wanted_some (hid_get HOPS 5 _ rfl) rfl rfl rfl) rfl (fun _ _ _ _ h => h) ?_; simp only [Act.put, List.setIfInBounds_toArray, List.set_cons_zero, List.set_cons_succ])
              first | (refine segH_pass _ _ _ _ _ _ (hid_get HOPS 9 _ rfl) (wanted_some (hid_get HOPS 5 _ rfl) rfl rfl rfl) (fun _ _ _ _ h => h) ?_; simp only [Act.put, List.setIfInBounds_toArray, List.set_cons_zero, List.set_cons_succ]) | (refine segH_pure _ _ _ _ _ _ (hid_get HOPS 9 _ rfl) rfl (wanted_some (hid_get HOPS 5 _ rfl) rfl rfl rfl) (fun _ _ _ _ h => h) ?_; intro K hK; go_big_quiet_op; go_big_quiet_on)
              first | (refine segH_pass _ _ _ _ _ _ (hid_get HOPS 10 _ rfl) (wanted_some (hid_get HOPS 5 _ rfl) rfl rfl rfl) (fun _ _ _ _ h => h) ?_; simp only [Act.put, List.setIfInBounds_toArray, List.set_cons_zero, List.set_cons_succ]) | (refine segH_load _ _ _ _ _ _ _ _ _ (hid_get HOPS 10 _ rfl) (wanted_some (hid_get HOPS 5 _ rfl) rfl rfl rfl) rfl (fun _ _ _ _ h => h) (fun y hy => by go_simp; try with_reducible rfl) ?_; simp only [Act.put, List.setIfInBounds_toArray, List.set_cons_zero, List.set_cons_succ])
              first | (refine segH_pass _ _ _ _ _ _ (hid_get HOPS 11 _ rfl) (wanted_some (hid_get HOPS 5 _ rfl) rfl rfl rfl) (fun _ _ _ _ h => h) ?_; simp only [Act.put, List.setIfInBounds_toArray, List.set_cons_zero, List.set_cons_succ]) | (refine segH_pure _ _ _ _ _ _ (hid_get HOPS 11 _ rfl) rfl (wanted_some (hid_get HOPS 5 _ rfl) rfl rfl rfl) (fun _ _ _ _ h => h) ?_; intro K hK; go_big_quiet_op; go_big_quiet_on)
              first | (refine segH_pass _ _ _ _ _ _ (hid_get HOPS 12 _ rfl) (wanted_some (hid_get HOPS 5 _ rfl) rfl rfl rfl) (fun _ _ _ _ h => h) ?_; simp only [Act.put, List.setIfInBounds_toArray, List.set_cons_zero, List.set_cons_succ]) | (refine segH_pure _ _ _ _ _ _ (hid_get HOPS 12 _ rfl) rfl (wanted_some (hid_get HOPS 5 _ rfl) rfl rfl rfl) (fun _ _ _ _ h => h) ?_; intro K hK; go_big_quiet_op; go_big_quiet_on)
              first | (refine segH_pass _ _ _ _ _ _ (hid_get HOPS 13 _ rfl) (wanted_some (hid_get HOPS 5 _ rfl) rfl rfl rfl) (fun _ _ _ _ h => h) ?_; simp only [Act.put, List.setIfInBounds_toArray, List.set_cons_zero, List.set_cons_succ]) | (refine segH_pure _ _ _ _ _ _ (hid_get HOPS 13 _ rfl) rfl (wanted_some (hid_get HOPS 5 _ rfl) rfl rfl rfl) (fun _ _ _ _ h => h) ?_; intro K hK; go_big_quiet_op; go_big_quiet_on)
              first | (refine segH_pass _ _ _ _ _ _ (hid_get HOPS 14 _ rfl) (wanted_some (hid_get HOPS 5 _ rfl) rfl rfl rfl) (fun _ _ _ _ h => h) ?_; simp only [Act.put, List.setIfInBounds_toArray, List.set_cons_zero, List.set_cons_succ]) | (refine segH_load _ _ _ _ _ _ _ _ _ (hid_get HOPS 14 _ rfl) (wanted_some (hid_get HOPS 5 _ rfl) rfl rfl rfl) rfl (fun _ _ _ _ h => h) (fun y hy => by go_simp; try with_reducible rfl) ?_; simp only [Act.put, List.setIfInBounds_toArray, List.set_cons_zero, List.set_cons_succ])
              refine segH_makes _ _ _ _ _ _ (hid_get HOPS 15 _ rfl) (wanted_some (hid_get HOPS 5 _ rfl) rfl rfl rfl) (fun K hK => ?_)
              go_big_op
              have hz2 : itSame z.it ys7[m].it = true := by
                have h1 : z.it = ys7[m].it := by
                  have h2 : xs6[m]? = some z := by rw [← HZ.out]; congr 1
                  have h3 : (its xs6)[m]? = some z.it := by simp [its, h2]
                  rw [P5.same] at h3
                  have h4 : (its ys7)[m]? = some ys7[m].it := by simp [its, hm2]
                  exact Option.some.inj (h3.symm.trans h4)
                rw [h1]; exact itSame_refl _
              have HZ2 := Lib.hid hz2
              have hiy := P5.r.ok _ (List.getElem_mem hm2)
              refine (refItemSame_any z.it ys7[m].it A8 ys7[m].A c8 ys7[m].c _ _ _ (RowsAt.ext h8 (ext_drewN w9 1)) (hiy.at_.ext (ext_drewN w9 1)) HZL.out).mono ?_
              rintro e u1 ⟨rfl, e1⟩
              rw [HZ2.out]
              have Q : Ext w9 u1 := ext_trans (ext_drewN w9 1) e1
              clear e1 hz2 hiy
              refine hK _ _ (fun x => Ext w9 x) Q (fun _ h => h) ?_
              clear hK
              first | (refine segH_pass _ _ _ _ _ _ (hid_get HOPS 16 _ rfl) (wanted_some (hid_get HOPS 5 _ rfl) rfl rfl rfl) (fun _ _ _ _ h => h) ?_; simp only [Act.put, List.setIfInBounds_toArray, List.set_cons_zero, List.set_cons_succ]) | (refine segH_pure _ _ _ _ _ _ (hid_get HOPS 16 _ rfl) rfl (wanted_some (hid_get HOPS 5 _ rfl) rfl rfl rfl) (fun _ _ _ _ h => h) ?_; intro K hK; go_big_quiet_op; go_big_quiet_on)
              first | (refine segH_pass _ _ _ _ _ _ (hid_get HOPS 17 _ rfl) (wanted_some (hid_get HOPS 3 _ rfl) rfl rfl rfl) (fun _ _ _ _ h => h) ?_; simp only [Act.put, List.setIfInBounds_toArray, List.set_cons_zero, List.set_cons_succ]) | (refine segH_pure _ _ _ _ _ _ (hid_get HOPS 17 _ rfl) rfl (wanted_some (hid_get HOPS 3 _ rfl) rfl rfl rfl) (fun _ _ _ _ h => h) ?_; intro K hK; go_big_quiet_op; go_big_quiet_on)
              (refine segH_pure _ _ _ _ _ _ (hid_get HOPS 18 _ rfl) rfl wanted_none (fun _ _ _ _ h => h) ?_; intro K hK; go_big_quiet_op; go_big_quiet_on)
              (refine segH_pure _ _ _ _ _ _ (hid_get HOPS 19 _ rfl) rfl wanted_none (fun _ _ _ _ h => h) ?_; intro K hK; go_big_quiet_op; go_big_quiet_on)
              first | (refine segH_pass _ _ _ _ _ _ (hid_get HOPS 20 _ rfl) (wanted_some (hid_get HOPS 19 _ rfl) rfl rfl rfl) (fun _ _ _ _ h => h) ?_; simp only [Act.put, List.setIfInBounds_toArray, List.set_cons_zero, List.set_cons_succ]) | (refine segH_pure _ _ _ _ _ _ (hid_get HOPS 20 _ rfl) rfl (wanted_some (hid_get HOPS 19 _ rfl) rfl rfl rfl) (fun _ _ _ _ h => h) ?_; intro K hK; go_big_quiet_op; go_big_quiet_on)
              first | (refine segH_pass _ _ _ _ _ _ (hid_get HOPS 22 _ rfl) (wanted_some (hid_get HOPS 19 _ rfl) rfl rfl rfl) (fun _ _ _ _ h => h) ?_; simp only [Act.put, List.setIfInBounds_toArray, List.set_cons_zero, List.set_cons_succ]) | (refine segH_pure _ _ _ _ _ _ (hid_get HOPS 22 _ rfl) rfl (wanted_some (hid_get HOPS 19 _ rfl) rfl rfl rfl) (fun _ _ _ _ h => h) ?_; intro K hK; go_big_quiet_op; go_big_quiet_on)
              first | (refine segH_pass _ _ _ _ _ _ (hid_get HOPS 23 _ rfl) (wanted_some (hid_get HOPS 19 _ rfl) rfl rfl rfl) (fun _ _ _ _ h => h) ?_; simp only [Act.put, List.setIfInBounds_toArray, List.set_cons_zero, List.set_cons_succ]) | (refine segH_nil _ _ _ _ _ _ _ (hid_get HOPS 23 _ rfl) (wanted_some (hid_get HOPS 19 _ rfl) rfl rfl rfl) rfl (fun _ _ _ _ h => h) ?_; simp only [Act.put, List.setIfInBounds_toArray, List.set_cons_zero, List.set_cons_succ])
              first | (refine segH_pass _ _ _ _ _ _ (hid_get HOPS 24 _ rfl) (wanted_some (hid_get HOPS 19 _ rfl) rfl rfl rfl) (fun _ _ _ _ h => h) ?_; simp only [Act.put, List.setIfInBounds_toArray, List.set_cons_zero, List.set_cons_succ]) | (refine segH_pure _ _ _ _ _ _ (hid_get HOPS 24 _ rfl) rfl (wanted_some (hid_get HOPS 19 _ rfl) rfl rfl rfl) (fun _ _ _ _ h => h) ?_; intro K hK; go_big_quiet_op; go_big_quiet_on)
              first | (refine segH_pass _ _ _ _ _ _ (hid_get HOPS 25 _ rfl) (wanted_some (hid_get HOPS 19 _ rfl) rfl rfl rfl) (fun _ _ _ _ h => h) ?_; simp only [Act.put, List.setIfInBounds_toArray, List.set_cons_zero, List.set_cons_succ]) | (refine segH_load _ _ _ _ _ _ _ _ _ (hid_get HOPS 25 _ rfl) (wanted_some (hid_get HOPS 19 _ rfl) rfl rfl rfl) rfl (fun _ _ _ _ h => h) (fun y hy => by go_simp; try with_reducible rfl) ?_; simp only [Act.put, List.setIfInBounds_toArray, List.set_cons_zero, List.set_cons_succ])
              first | (refine segH_pass _ _ _ _ _ _ (hid_get HOPS 26 _ rfl) (wanted_some (hid_get HOPS 19 _ rfl) rfl rfl rfl) (fun _ _ _ _ h => h) ?_; simp only [Act.put, List.setIfInBounds_toArray, List.set_cons_zero, List.set_cons_succ]) | (refine segH_pure _ _ _ _ _ _ (hid_get HOPS 26 _ rfl) rfl (wanted_some (hid_get HOPS 19 _ rfl) rfl rfl rfl) (fun _ _ _ _ h => h) ?_; intro K hK; go_big_quiet_op; go_big_quiet_on)
              refine segH_makes _ _ _ _ _ _ (hid_get HOPS 21 _ rfl) (wanted_some (hid_get HOPS 19 _ rfl) rfl rfl rfl) (fun K hK => ?_)
              go_big_op
              refine (strLen_any (P5.s.ext Q)).mono ?_
              rintro e u2 ⟨rfl, rfl⟩
              refine hK _ _ (fun x => Ext w9 x) Q (fun _ h => h) ?_
              clear hK
              first | (refine segH_pass _ _ _ _ _ _ (hid_get HOPS 27 _ rfl) (wanted_some (hid_get HOPS 19 _ rfl) rfl rfl rfl) (fun _ _ _ _ h => h) ?_; simp only [Act.put, List.setIfInBounds_toArray, List.set_cons_zero, List.set_cons_succ]) | (refine segH_pure _ _ _ _ _ _ (hid_get HOPS 27 _ rfl) rfl (wanted_some (hid_get HOPS 19 _ rfl) rfl rfl rfl) (fun _ _ _ _ h => h) ?_; intro K hK; go_big_quiet_op; go_big_quiet_on)
              (refine segH_pure _ _ _ _ _ _ (hid_get HOPS 28 _ rfl) rfl wanted_none (fun _ _ _ _ h => h) ?_; intro K hK; go_big_quiet_op; go_big_quiet_on)
              (refine segH_pure _ _ _ _ _ _ (hid_get HOPS 29 _ rfl) rfl wanted_none (fun _ _ _ _ h => h) ?_; intro K hK; go_big_quiet_op; go_big_quiet_on)
              first | (refine segH_pass _ _ _ _ _ _ (hid_get HOPS 30 _ rfl) (wanted_some (hid_get HOPS 29 _ rfl) rfl rfl rfl) (fun _ _ _ _ h => h) ?_; simp only [Act.put, List.setIfInBounds_toArray, List.set_cons_zero, List.set_cons_succ]) | (refine segH_pure _ _ _ _ _ _ (hid_get HOPS 30 _ rfl) rfl (wanted_some (hid_get HOPS 29 _ rfl) rfl rfl rfl) (fun _ _ _ _ h => h) ?_; intro K hK; go_big_quiet_op; go_big_quiet_on)
              first | (refine segH_pass _ _ _ _ _ _ (hid_get HOPS 32 _ rfl) (wanted_some (hid_get HOPS 29 _ rfl) rfl rfl rfl) (fun _ _ _ _ h => h) ?_; simp only [Act.put, List.setIfInBounds_toArray, List.set_cons_zero, List.set_cons_succ]) | (refine segH_pure _ _ _ _ _ _ (hid_get HOPS 32 _ rfl) rfl (wanted_some (hid_get HOPS 29 _ rfl) rfl rfl rfl) (fun _ _ _ _ h => h) ?_; intro K hK; go_big_quiet_op; go_big_quiet_on)
              first | (refine segH_pass _ _ _ _ _ _ (hid_get HOPS 33 _ rfl) (wanted_some (hid_get HOPS 29 _ rfl) rfl rfl rfl) (fun _ _ _ _ h => h) ?_; simp only [Act.put, List.setIfInBounds_toArray, List.set_cons_zero, List.set_cons_succ]) | (refine segH_nil _ _ _ _ _ _ _ (hid_get HOPS 33 _ rfl) (wanted_some (hid_get HOPS 29 _ rfl) rfl rfl rfl) rfl (fun _ _ _ _ h => h) ?_; simp only [Act.put, List.setIfInBounds_toArray, List.set_cons_zero, List.set_cons_succ])
              first | (refine segH_pass _ _ _ _ _ _ (hid_get HOPS 34 _ rfl) (wanted_some (hid_get HOPS 29 _ rfl) rfl rfl rfl) (fun _ _ _ _ h => h) ?_; simp only [Act.put, List.setIfInBounds_toArray, List.set_cons_zero, List.set_cons_succ]) | (refine segH_pure _ _ _ _ _ _ (hid_get HOPS 34 _ rfl) rfl (wanted_some (hid_get HOPS 29 _ rfl) rfl rfl rfl) (fun _ _ _ _ h => h) ?_; intro K hK; go_big_quiet_op; go_big_quiet_on)
              first | (refine segH_pass _ _ _ _ _ _ (hid_get HOPS 35 _ rfl) (wanted_some (hid_get HOPS 29 _ rfl) rfl rfl rfl) (fun _ _ _ _ h => h) ?_; simp only [Act.put, List.setIfInBounds_toArray, List.set_cons_zero, List.set_cons_succ]) | (refine segH_load _ _ _ _ _ _ _ _ _ (hid_get HOPS 35 _ rfl) (wanted_some (hid_get HOPS 29 _ rfl) rfl rfl rfl) rfl (fun _ _ _ _ h => h) (fun y hy => by go_simp; try with_reducible rfl) ?_; simp only [Act.put, List.setIfInBounds_toArray, List.set_cons_zero, List.set_cons_succ])
              refine segH_makes _ _ _ _ _ _ (hid_get HOPS 31 _ rfl) (wanted_some (hid_get HOPS 29 _ rfl) rfl rfl rfl) (fun K hK => ?_)
              go_big_op
              refine (strTurn_any (P5.s.ext Q)).mono ?_
              rintro e u3 ⟨rfl, rfl⟩
              refine hK _ _ (fun x => Ext w9 x) Q (fun _ h => h) ?_
              clear hK
              first | (refine segH_pass _ _ _ _ _ _ (hid_get HOPS 36 _ rfl) (wanted_some (hid_get HOPS 29 _ rfl) rfl rfl rfl) (fun _ _ _ _ h => h) ?_; simp only [Act.put, List.setIfInBounds_toArray, List.set_cons_zero, List.set_cons_succ]) | (refine segH_pure _ _ _ _ _ _ (hid_get HOPS 36 _ rfl) rfl (wanted_some (hid_get HOPS 29 _ rfl) rfl rfl rfl) (fun _ _ _ _ h => h) ?_; intro K hK; go_big_quiet_op; go_big_quiet_on)
              (refine segH_pure _ _ _ _ _ _ (hid_get HOPS 37 _ rfl) rfl wanted_none (fun _ _ _ _ h => h) ?_; intro K hK; go_big_quiet_op; go_big_quiet_on)
              (refine segH_pure _ _ _ _ _ _ (hid_get HOPS 38 _ rfl) rfl wanted_none (fun _ _ _ _ h => h) ?_; intro K hK; go_big_quiet_op; go_big_quiet_on)
              first | (refine segH_pass _ _ _ _ _ _ (hid_get HOPS 39 _ rfl) (wanted_some (hid_get HOPS 38 _ rfl) rfl rfl rfl) (fun _ _ _ _ h => h) ?_; simp only [Act.put, List.setIfInBounds_toArray, List.set_cons_zero, List.set_cons_succ]) | (refine segH_pure _ _ _ _ _ _ (hid_get HOPS 39 _ rfl) rfl (wanted_some (hid_get HOPS 38 _ rfl) rfl rfl rfl) (fun _ _ _ _ h => h) ?_; intro K hK; go_big_quiet_op; go_big_quiet_on)
              first | (refine segH_pass _ _ _ _ _ _ (hid_get HOPS 40 _ rfl) (wanted_some (hid_get HOPS 38 _ rfl) rfl rfl rfl) (fun _ _ _ _ h => h) ?_; simp only [Act.put, List.setIfInBounds_toArray, List.set_cons_zero, List.set_cons_succ]) | (refine segH_pure _ _ _ _ _ _ (hid_get HOPS 40 _ rfl) rfl (wanted_some (hid_get HOPS 38 _ rfl) rfl rfl rfl) (fun _ _ _ _ h => h) ?_; intro K hK; go_big_quiet_op; go_big_quiet_on)
              first | (refine segH_pass _ _ _ _ _ _ (hid_get HOPS 41 _ rfl) (wanted_some (hid_get HOPS 38 _ rfl) rfl rfl rfl) (fun _ _ _ _ h => h) ?_; simp only [Act.put, List.setIfInBounds_toArray, List.set_cons_zero, List.set_cons_succ]) | (refine segH_pure _ _ _ _ _ _ (hid_get HOPS 41 _ rfl) rfl (wanted_some (hid_get HOPS 38 _ rfl) rfl rfl rfl) (fun _ _ _ _ h => h) ?_; intro K hK; go_big_quiet_op; go_big_quiet_on)
              first | (refine segH_pass _ _ _ _ _ _ (hid_get HOPS 43 _ rfl) (wanted_some (hid_get HOPS 38 _ rfl) rfl rfl rfl) (fun _ _ _ _ h => h) ?_; simp only [Act.put, List.setIfInBounds_toArray, List.set_cons_zero, List.set_cons_succ]) | (refine segH_pure _ _ _ _ _ _ (hid_get HOPS 43 _ rfl) rfl (wanted_some (hid_get HOPS 38 _ rfl) rfl rfl rfl) (fun _ _ _ _ h => h) ?_; intro K hK; go_big_quiet_op; go_big_quiet_on)
              first | (refine segH_pass _ _ _ _ _ _ (hid_get HOPS 44 _ rfl) (wanted_some (hid_get HOPS 38 _ rfl) rfl rfl rfl) (fun _ _ _ _ h => h) ?_; simp only [Act.put, List.setIfInBounds_toArray, List.set_cons_zero, List.set_cons_succ]) | (refine segH_pure _ _ _ _ _ _ (hid_get HOPS 44 _ rfl) rfl (wanted_some (hid_get HOPS 38 _ rfl) rfl rfl rfl) (fun _ _ _ _ h => h) ?_; intro K hK; go_big_quiet_op; go_big_quiet_on)
              first | (refine segH_pass _ _ _ _ _ _ (hid_get HOPS 45 _ rfl) (wanted_some (hid_get HOPS 38 _ rfl) rfl rfl rfl) (fun _ _ _ _ h => h) ?_; simp only [Act.put, List.setIfInBounds_toArray, List.set_cons_zero, List.set_cons_succ]) | (refine segH_pure _ _ _ _ _ _ (hid_get HOPS 45 _ rfl) rfl (wanted_some (hid_get HOPS 38 _ rfl) rfl rfl rfl) (fun _ _ _ _ h => h) ?_; intro K hK; go_big_quiet_op; go_big_quiet_on)
              refine segH_makes _ _ _ _ _ _ (hid_get HOPS 42 _ rfl) (wanted_some (hid_get HOPS 38 _ rfl) rfl rfl rfl) (fun K hK => ?_)
              go_big_op
              refine (strFrom_any (P5.s.ext Q) ((m : Int) + 1) most HN.out).mono ?_
              rintro e u4 ⟨va, fa, rfl, oa, ka, ia, e4⟩
              obtain ⟨Aa, cA, rfl⟩ := oa.form
              replace Q := ext_trans Q e4
              clear e4
              refine hK _ _ (fun x => Ext w9 x) Q (fun _ h => h) ?_
              clear hK
              refine segH_makes _ _ _ _ _ _ (hid_get HOPS 46 _ rfl) (wanted_some (hid_get HOPS 38 _ rfl) rfl rfl rfl) (fun K hK => ?_)
              go_big_op
              refine (refFrom_any (P5.r.ext Q) ((m : Int) + 1) most HN.out).mono ?_
              rintro e u5 ⟨vb, fb, rfl, ob, kb, ib, e5⟩
              obtain ⟨Ab, cB, rfl⟩ := ob.form
              replace Q := ext_trans Q e5
              refine hK _ _ (fun x => Ext w9 x) Q (fun _ h => h) ?_
              clear hK
              refine segH_makes _ _ _ _ _ _ (hid_get HOPS 47 _ rfl) (wanted_some (hid_get HOPS 38 _ rfl) rfl rfl rfl) (fun K hK => ?_)
              go_big_op
              have hll : fa.length ≤ 9223372036854775807 := by
                have h1 := congrArg List.length ia
                have h2 := P5.s.len
                rw [its_length, fromIts, List.length_take, List.length_drop, its_length] at h1
                omega
              refine (refSameAll_any Aa Ab cA cB fa fb _ w.heap.size w.heap.size ((RowsAt.of_own oa Iv.cells_len rfl).ext e5) (RowsAt.of_own ob Iv.cells_len rfl) (fun x hx => (ka x hx).ext e5) kb hll).mono ?_
              rintro e u6 ⟨rfl, e6⟩
              rw [show itsSame fa fb = true from itsSame_of_eq (by rw [ia, ib, P5.same])]
              replace Q := ext_trans Q e6
              clear oa ob ka kb ia ib e5 e6 hll
              refine hK _ _ (fun x => Ext w9 x) Q (fun _ h => h) ?_
              clear hK
              first | (refine segH_pass _ _ _ _ _ _ (hid_get HOPS 48 _ rfl) (wanted_some (hid_get HOPS 38 _ rfl) rfl rfl rfl) (fun _ _ _ _ h => h) ?_; simp only [Act.put, List.setIfInBounds_toArray, List.set_cons_zero, List.set_cons_succ]) | (refine segH_pure _ _ _ _ _ _ (hid_get HOPS 48 _ rfl) rfl (wanted_some (hid_get HOPS 38 _ rfl) rfl rfl rfl) (fun _ _ _ _ h => h) ?_; intro K hK; go_big_quiet_op; go_big_quiet_on)
              (refine segH_pure _ _ _ _ _ _ (hid_get HOPS 49 _ rfl) rfl wanted_none (fun _ _ _ _ h => h) ?_; intro K hK; go_big_quiet_op; go_big_quiet_on)
              refine seg_done ?_
              clear HOPS
              go_wp2
              go_roundw
              case rel => exact ⟨k + 1, g2, t6, xs6, v6, ys7, _, hlt, by go_num, rfl, P5.to Q⟩
              case measure => simp [intOf]; omega
            · go_wp2_with fail
              refine (strItem_none P4.s n (by omega)).mono ?_
              rintro e w8 ⟨rfl, e8⟩
              go_upto_region 22 with fail
              have P5 := (P4.to e8).to (ext_alloc w8 (.cells #[.int .i64 0, .int .i64 0, .int .i64 0, .bool false, .slice none 0 0] 33))
              clear P4 e8
              generalize w8.alloc (.cells #[.int .i64 0, .int .i64 0, .int .i64 0, .bool false, .slice none 0 0] 33) = w9 at P5 ⊢
              have j1 := P5.r.blk.cell 1
              have j2 := P5.r.blk.cell 2
              simp only [List.getElem?_toArray, List.getElem?_cons_zero, List.getElem?_cons_succ] at j1 j2
              have yj1 := fun x (hx : Ext w9 x) => ext_cell hx j1
              have yj2 := fun x (hx : Ext w9 x) => ext_cell hx j2
              have HY := Lib.hid (And.intro yj1 yj2)
              clear yj1 yj2
              have hin2 : ¬ (1 ≤ n ∧ n ≤ (ys7.length : Int)) := by rw [HSM.out]; exact hin
              have HIN := Lib.hid hin2
              clear hin hin2
              go_cut [22] (fun s22 wq => s22 = .bool false ∧ w9 = wq)
              case first =>
                by_cases h1 : 1 ≤ n
                · have h2 : (ys7.length : Int) < n := by have := HIN.out; omega
                  have d1 : decide ((1 : Int) ≤ n) = true := decide_eq_true h1
                  have d2 : decide (n ≤ (ys7.length : Int)) = false := decide_eq_false (by omega)
                  go_wp2
                  go_meet
                  exact ⟨rfl, rfl⟩
                · have h2 : n < 1 := by omega
                  have d1 : decide ((1 : Int) ≤ n) = false := decide_eq_false h1
                  clear h1
                  go_wp2
                  go_meet
                  exact ⟨rfl, rfl⟩
              case rest =>
                obtain ⟨rfl, rfl⟩ := hcut
                clear j1 j2
                obtain ⟨yj1, yj2⟩ := HY.out
                have hlq : ((xs6.length : Int) != (ys7.length : Int)) = false := by rw [HSM.out]; simp
                go_upto_region 23 with fail
                refine wp_region_planH (.reads 0 (.reads 1 (.reads 2 (.reads 3 (.reads 4 (.reads 5 (.reads 6 (.reads 7 (.reads 8 (.reads 9 (.reads 10 (.reads 11 (.reads 12 (.reads 13 (.reads 14 (.makes 15 (.reads 16 (.reads 17 (.reads 18 (.reads 19 (.reads 20 (.reads 22 (.reads 23 (.reads 24 (.reads 25 (.reads 26 (.makes 21 (.reads 27 (.reads 28 (.reads 29 (.reads 30 (.reads 32 (.reads 33 (.reads 34 (.reads 35 (.makes 31 (.reads 36 (.reads 37 (.reads 38 (.reads 39 (.reads 40 (.reads 41 (.reads 43 (.reads 44 (.reads 45 (.makes 42 (.makes 46 (.makes 47 (.reads 48 (.reads 49 (.done))))))))))))))))))))))))))))))))))))))))))))))))))) (by kernel_rfl) (by kernel_rfl) (fun x => Ext w9 x) (ext_drewN w9 1) (fun ops HOPS => ?_)
                (refine segH_pure _ _ _ _ _ _ (hid_get HOPS 0 _ rfl) rfl wanted_none (fun _ _ _ _ h => h) ?_; intro K hK; go_big_quiet_op; go_big_quiet_on)
                (refine segH_pure _ _ _ _ _ _ (hid_get HOPS 1 _ rfl) rfl wanted_none (fun _ _ _ _ h => h) ?_; intro K hK; go_big_quiet_op; go_big_quiet_on)
                (refine segH_pure _ _ _ _ _ _ (hid_get HOPS 2 _ rfl) rfl wanted_none (fun _ _ _ _ h => h) ?_; intro K hK; go_big_quiet_op; go_big_quiet_on)
                (refine segH_pure _ _ _ _ _ _ (hid_get HOPS 3 _ rfl) rfl wanted_none (fun _ _ _ _ h => h) ?_; intro K hK; go_big_quiet_op; go_big_quiet_on)
                first | (refine segH_pass _ _ _ _ _ _ (hid_get HOPS 4 _ rfl) (wanted_some (hid_get HOPS 3 _ rfl) rfl rfl rfl) (fun _ _ _ _ h => h) ?_; simp only [Act.put, List.setIfInBounds_toArray, List.set_cons_zero, List.set_cons_succ]) | (refine segH_pure _ _ _ _ _ _ (hid_get HOPS 4 _ rfl) rfl (wanted_some (hid_get HOPS 3 _ rfl) rfl rfl rfl) (fun _ _ _ _ h => h) ?_; intro K hK; go_big_quiet_op; go_big_quiet_on)
                first | (refine segH_pass _ _ _ _ _ _ (hid_get HOPS 5 _ rfl) (wanted_some (hid_get HOPS 3 _ rfl) rfl rfl rfl) (fun _ _ _ _ h => h) ?_; simp only [Act.put, List.setIfInBounds_toArray, List.set_cons_zero, List.set_cons_succ]) | (refine segH_pure _ _ _ _ _ _ (hid_get HOPS 5 _ rfl) rfl (wanted_some (hid_get HOPS 3 _ rfl) rfl rfl rfl) (fun _ _ _ _ h => h) ?_; intro K hK; go_big_quiet_op; go_big_quiet_on)
                first | (refine segH_pass _ _ _ _ _ _ (hid_get HOPS 6 _ rfl) (wanted_some (hid_get HOPS 5 _ rfl) rfl rfl rfl) (fun _ _ _ _ h => h) ?_; simp only [Act.put, List.setIfInBounds_toArray, List.set_cons_zero, List.set_cons_succ]) | (refine segH_load _ _ _ _ _ _ _ _ _ (hid_get HOPS 6 _ rfl) (wanted_some (hid_get HOPS 5 _ rfl) rfl rfl rfl) rfl (fun _ _ _ _ h => h) (fun y hy => by go_simp; try with_reducible rfl) ?_; simp only [Act.put, List.setIfInBounds_toArray, List.set_cons_zero, List.set_cons_succ])
                first | (refine segH_pass _ _ _ _ _ _ (hid_get HOPS 7 _ rfl) (wanted_some (hid_get HOPS 5 _ rfl) rfl rfl rfl) (fun _ _ _ _ h => h) ?_; simp only [Act.put, List.setIfInBounds_toArray, List.set_cons_zero, List.set_cons_succ]) | (refine segH_pure _ _ _ _ _ _ (hid_get HOPS 7 _ rfl) rfl (wanted_some (hid_get HOPS 5 _ rfl) rfl rfl rfl) (fun _ _ _ _ h => h) ?_; intro K hK; go_big_quiet_op; go_big_quiet_on)
                first | (refine segH_pass _ _ _ _ _ _ (hid_get HOPS 8 _ rfl) (wanted_some (hid_get HOPS 5 _ rfl) rfl rfl rfl) (fun _ _ _ _ h => h) ?_; simp only [Act.put, List.setIfInBounds_toArray, List.set_cons_zero, List.set_cons_succ]) | (refine segH_nil _ _ _ _ _ _ _ (hid_get HOPS 8 _ rfl) (wanted_some (hid_get HOPS 5 _ rfl) rfl rfl rfl) rfl (fun _ _ _ _ h => h) ?_; simp only [Act.put, List.setIfInBounds_toArray, List.set_cons_zero, List.set_cons_succ])
                first | (refine segH_pass _ _ _ _ _ _ (hid_get HOPS 9 _ rfl) (wanted_some (hid_get HOPS 5 _ rfl) rfl rfl rfl) (fun _ _ _ _ h => h) ?_; simp only [Act.put, List.setIfInBounds_toArray, List.set_cons_zero, List.set_cons_succ]) | (refine segH_pure _ _ _ _ _ _ (hid_get HOPS 9 _ rfl) rfl (wanted_some (hid_get HOPS 5 _ rfl) rfl rfl rfl) (fun _ _ _ _ h => h) ?_; intro K hK; go_big_quiet_op; go_big_quiet_on)
                first | (refine segH_pass _ _ _ _ _ _ (hid_get HOPS 10 _ rfl) (wanted_some (hid_get HOPS 5 _ rfl) rfl rfl rfl) (fun _ _ _ _ h => h) ?_; simp only [Act.put, List.setIfInBounds_toArray, List.set_cons_zero, List.set_cons_succ]) | (refine segH_load _ _ _ _ _ _ _ _ _ (hid_get HOPS 10 _ rfl) (wanted_some (hid_get HOPS 5 _ rfl) rfl rfl rfl) rfl (fun _ _ _ _ h => h) (fun y hy => by go_simp; try with_reducible rfl) ?_; simp only [Act.put, List.setIfInBounds_toArray, List.set_cons_zero, List.set_cons_succ])
                first | (refine segH_pass _ _ _ _ _ _ (hid_get HOPS 11 _ rfl) (wanted_some (hid_get HOPS 5 _ rfl) rfl rfl rfl) (fun _ _ _ _ h => h) ?_; simp only [Act.put, List.setIfInBounds_toArray, List.set_cons_zero, List.set_cons_succ]) | (refine segH_pure _ _ _ _ _ _ (hid_get HOPS 11 _ rfl) rfl (wanted_some (hid_get HOPS 5 _ rfl) rfl rfl rfl) (fun _ _ _ _ h => h) ?_; intro K hK; go_big_quiet_op; go_big_quiet_on)
                first | (refine segH_pass _ _ _ _ _ _ (hid_get HOPS 12 _ rfl) (wanted_some (hid_get HOPS 5 _ rfl) rfl rfl rfl) (fun _ _ _ _ h => h) ?_; simp only [Act.put, List.setIfInBounds_toArray, List.set_cons_zero, List.set_cons_succ]) | (refine segH_pure _ _ _ _ _ _ (hid_get HOPS 12 _ rfl) rfl (wanted_some (hid_get HOPS 5 _ rfl) rfl rfl rfl) (fun _ _ _ _ h => h) ?_; intro K hK; go_big_quiet_op; go_big_quiet_on)
                first | (refine segH_pass _ _ _ _ _ _ (hid_get HOPS 13 _ rfl) (wanted_some (hid_get HOPS 5 _ rfl) rfl rfl rfl) (fun _ _ _ _ h => h) ?_; simp only [Act.put, List.setIfInBounds_toArray, List.set_cons_zero, List.set_cons_succ]) | (refine segH_pure _ _ _ _ _ _ (hid_get HOPS 13 _ rfl) rfl (wanted_some (hid_get HOPS 5 _ rfl) rfl rfl rfl) (fun _ _ _ _ h => h) ?_; intro K hK; go_big_quiet_op; go_big_quiet_on)
                first | (refine segH_pass _ _ _ _ _ _ (hid_get HOPS 14 _ rfl) (wanted_some (hid_get HOPS 5 _ rfl) rfl rfl rfl) (fun _ _ _ _ h => h) ?_; simp only [Act.put, List.setIfInBounds_toArray, List.set_cons_zero, List.set_cons_succ]) | (refine segH_load _ _ _ _ _ _ _ _ _ (hid_get HOPS 14 _ rfl) (wanted_some (hid_get HOPS 5 _ rfl) rfl rfl rfl) rfl (fun _ _ _ _ h => h) (fun y hy => by go_simp; try with_reducible rfl) ?_; simp only [Act.put, List.setIfInBounds_toArray, List.set_cons_zero, List.set_cons_succ])
                refine segH_makes_pass _ _ _ _ _ _ (hid_get HOPS 15 _ rfl) (wanted_some (hid_get HOPS 5 _ rfl) rfl rfl rfl) (ext_drewN w9 1) ?_; simp only [Act.put, List.setIfInBounds_toArray, List.set_cons_zero, List.set_cons_succ]
                first | (refine segH_pass _ _ _ _ _ _ (hid_get HOPS 16 _ rfl) (wanted_some (hid_get HOPS 5 _ rfl) rfl rfl rfl) (fun _ _ _ _ h => h) ?_; simp only [Act.put, List.setIfInBounds_toArray, List.set_cons_zero, List.set_cons_succ]) | (refine segH_pure _ _ _ _ _ _ (hid_get HOPS 16 _ rfl) rfl (wanted_some (hid_get HOPS 5 _ rfl) rfl rfl rfl) (fun _ _ _ _ h => h) ?_; intro K hK; go_big_quiet_op; go_big_quiet_on)
                first | (refine segH_pass _ _ _ _ _ _ (hid_get HOPS 17 _ rfl) (wanted_some (hid_get HOPS 3 _ rfl) rfl rfl rfl) (fun _ _ _ _ h => h) ?_; simp only [Act.put, List.setIfInBounds_toArray, List.set_cons_zero, List.set_cons_succ]) | (refine segH_pure _ _ _ _ _ _ (hid_get HOPS 17 _ rfl) rfl (wanted_some (hid_get HOPS 3 _ rfl) rfl rfl rfl) (fun _ _ _ _ h => h) ?_; intro K hK; go_big_quiet_op; go_big_quiet_on)
                (refine segH_pure _ _ _ _ _ _ (hid_get HOPS 18 _ rfl) rfl wanted_none (fun _ _ _ _ h => h) ?_; intro K hK; go_big_quiet_op; go_big_quiet_on)
                (refine segH_pure _ _ _ _ _ _ (hid_get HOPS 19 _ rfl) rfl wanted_none (fun _ _ _ _ h => h) ?_; intro K hK; go_big_quiet_op; go_big_quiet_on)
                first | (refine segH_pass _ _ _ _ _ _ (hid_get HOPS 20 _ rfl) (wanted_some (hid_get HOPS 19 _ rfl) rfl rfl rfl) (fun _ _ _ _ h => h) ?_; simp only [Act.put, List.setIfInBounds_toArray, List.set_cons_zero, List.set_cons_succ]) | (refine segH_pure _ _ _ _ _ _ (hid_get HOPS 20 _ rfl) rfl (wanted_some (hid_get HOPS 19 _ rfl) rfl rfl rfl) (fun _ _ _ _ h => h) ?_; intro K hK; go_big_quiet_op; go_big_quiet_on)
                first | (refine segH_pass _ _ _ _ _ _ (hid_get HOPS 22 _ rfl) (wanted_some (hid_get HOPS 19 _ rfl) rfl rfl rfl) (fun _ _ _ _ h => h) ?_; simp only [Act.put, List.setIfInBounds_toArray, List.set_cons_zero, List.set_cons_succ]) | (refine segH_pure _ _ _ _ _ _ (hid_get HOPS 22 _ rfl) rfl (wanted_some (hid_get HOPS 19 _ rfl) rfl rfl rfl) (fun _ _ _ _ h => h) ?_; intro K hK; go_big_quiet_op; go_big_quiet_on)
                first | (refine segH_pass _ _ _ _ _ _ (hid_get HOPS 23 _ rfl) (wanted_some (hid_get HOPS 19 _ rfl) rfl rfl rfl) (fun _ _ _ _ h => h) ?_; simp only [Act.put, List.setIfInBounds_toArray, List.set_cons_zero, List.set_cons_succ]) | (refine segH_nil _ _ _ _ _ _ _ (hid_get HOPS 23 _ rfl) (wanted_some (hid_get HOPS 19 _ rfl) rfl rfl rfl) rfl (fun _ _ _ _ h => h) ?_; simp only [Act.put, List.setIfInBounds_toArray, List.set_cons_zero, List.set_cons_succ])
                first | (refine segH_pass _ _ _ _ _ _ (hid_get HOPS 24 _ rfl) (wanted_some (hid_get HOPS 19 _ rfl) rfl rfl rfl) (fun _ _ _ _ h => h) ?_; simp only [Act.put, List.setIfInBounds_toArray, List.set_cons_zero, List.set_cons_succ]) | (refine segH_pure _ _ _ _ _ _ (hid_get HOPS 24 _ rfl) rfl (wanted_some (hid_get HOPS 19 _ rfl) rfl rfl rfl) (fun _ _ _ _ h => h) ?_; intro K hK; go_big_quiet_op; go_big_quiet_on)
                first | (refine segH_pass _ _ _ _ _ _ (hid_get HOPS 25 _ rfl) (wanted_some (hid_get HOPS 19 _ rfl) rfl rfl rfl) (fun _ _ _ _ h => h) ?_; simp only [Act.put, List.setIfInBounds_toArray, List.set_cons_zero, List.set_cons_succ]) | (refine segH_load _ _ _ _ _ _ _ _ _ (hid_get HOPS 25 _ rfl) (wanted_some (hid_get HOPS 19 _ rfl) rfl rfl rfl) rfl (fun _ _ _ _ h => h) (fun y hy => by go_simp; try with_reducible rfl) ?_; simp only [Act.put, List.setIfInBounds_toArray, List.set_cons_zero, List.set_cons_succ])
                first | (refine segH_pass _ _ _ _ _ _ (hid_get HOPS 26 _ rfl) (wanted_some (hid_get HOPS 19 _ rfl) rfl rfl rfl) (fun _ _ _ _ h => h) ?_; simp only [Act.put, List.setIfInBounds_toArray, List.set_cons_zero, List.set_cons_succ]) | (refine segH_pure _ _ _ _ _ _ (hid_get HOPS 26 _ rfl) rfl (wanted_some (hid_get HOPS 19 _ rfl) rfl rfl rfl) (fun _ _ _ _ h => h) ?_; intro K hK; go_big_quiet_op; go_big_quiet_on)
                refine segH_makes _ _ _ _ _ _ (hid_get HOPS 21 _ rfl) (wanted_some (hid_get HOPS 19 _ rfl) rfl rfl rfl) (fun K hK => ?_)
                go_big_op
                have Q : Ext w9 w9.drew := ext_drewN w9 1
                refine (strLen_any (P5.s.ext Q)).mono ?_
                rintro e u2 ⟨rfl, rfl⟩
                refine hK _ _ (fun x => Ext w9 x) Q (fun _ h => h) ?_
                clear hK
                first | (refine segH_pass _ _ _ _ _ _ (hid_get HOPS 27 _ rfl) (wanted_some (hid_get HOPS 19 _ rfl) rfl rfl rfl) (fun _ _ _ _ h => h) ?_; simp only [Act.put, List.setIfInBounds_toArray, List.set_cons_zero, List.set_cons_succ]) | (refine segH_pure _ _ _ _ _ _ (hid_get HOPS 27 _ rfl) rfl (wanted_some (hid_get HOPS 19 _ rfl) rfl rfl rfl) (fun _ _ _ _ h => h) ?_; intro K hK; go_big_quiet_op; go_big_quiet_on)
                (refine segH_pure _ _ _ _ _ _ (hid_get HOPS 28 _ rfl) rfl wanted_none (fun _ _ _ _ h => h) ?_; intro K hK; go_big_quiet_op; go_big_quiet_on)
                (refine segH_pure _ _ _ _ _ _ (hid_get HOPS 29 _ rfl) rfl wanted_none (fun _ _ _ _ h => h) ?_; intro K hK; go_big_quiet_op; go_big_quiet_on)
                first | (refine segH_pass _ _ _ _ _ _ (hid_get HOPS 30 _ rfl) (wanted_some (hid_get HOPS 29 _ rfl) rfl rfl rfl) (fun _ _ _ _ h => h) ?_; simp only [Act.put, List.setIfInBounds_toArray, List.set_cons_zero, List.set_cons_succ]) | (refine segH_pure _ _ _ _ _ _ (hid_get HOPS 30 _ rfl) rfl (wanted_some (hid_get HOPS 29 _ rfl) rfl rfl rfl) (fun _ _ _ _ h => h) ?_; intro K hK; go_big_quiet_op; go_big_quiet_on)
                first | (refine segH_pass _ _ _ _ _ _ (hid_get HOPS 32 _ rfl) (wanted_some (hid_get HOPS 29 _ rfl) rfl rfl rfl) (fun _ _ _ _ h => h) ?_; simp only [Act.put, List.setIfInBounds_toArray, List.set_cons_zero, List.set_cons_succ]) | (refine segH_pure _ _ _ _ _ _ (hid_get HOPS 32 _ rfl) rfl (wanted_some (hid_get HOPS 29 _ rfl) rfl rfl rfl) (fun _ _ _ _ h => h) ?_; intro K hK; go_big_quiet_op; go_big_quiet_on)
                first | (refine segH_pass _ _ _ _ _ _ (hid_get HOPS 33 _ rfl) (wanted_some (hid_get HOPS 29 _ rfl) rfl rfl rfl) (fun _ _ _ _ h => h) ?_; simp only [Act.put, List.setIfInBounds_toArray, List.set_cons_zero, List.set_cons_succ]) | (refine segH_nil _ _ _ _ _ _ _ (hid_get HOPS 33 _ rfl) (wanted_some (hid_get HOPS 29 _ rfl) rfl rfl rfl) rfl (fun _ _ _ _ h => h) ?_; simp only [Act.put, List.setIfInBounds_toArray, List.set_cons_zero, List.set_cons_succ])
                first | (refine segH_pass _ _ _ _ _ _ (hid_get HOPS 34 _ rfl) (wanted_some (hid_get HOPS 29 _ rfl) rfl rfl rfl) (fun _ _ _ _ h => h) ?_; simp only [Act.put, List.setIfInBounds_toArray, List.set_cons_zero, List.set_cons_succ]) | (refine segH_pure _ _ _ _ _ _ (hid_get HOPS 34 _ rfl) rfl (wanted_some (hid_get HOPS 29 _ rfl) rfl rfl rfl) (fun _ _ _ _ h => h) ?_; intro K hK; go_big_quiet_op; go_big_quiet_on)
                first | (refine segH_pass _ _ _ _ _ _ (hid_get HOPS 35 _ rfl) (wanted_some (hid_get HOPS 29 _ rfl) rfl rfl rfl) (fun _ _ _ _ h => h) ?_; simp only [Act.put, List.setIfInBounds_toArray, List.set_cons_zero, List.set_cons_succ]) | (refine segH_load _ _ _ _ _ _ _ _ _ (hid_get HOPS 35 _ rfl) (wanted_some (hid_get HOPS 29 _ rfl) rfl rfl rfl) rfl (fun _ _ _ _ h => h) (fun y hy => by go_simp; try with_reducible rfl) ?_; simp only [Act.put, List.setIfInBounds_toArray, List.set_cons_zero, List.set_cons_succ])
                refine segH_makes _ _ _ _ _ _ (hid_get HOPS 31 _ rfl) (wanted_some (hid_get HOPS 29 _ rfl) rfl rfl rfl) (fun K hK => ?_)
                go_big_op
                refine (strTurn_any (P5.s.ext Q)).mono ?_
                rintro e u3 ⟨rfl, rfl⟩
                refine hK _ _ (fun x => Ext w9 x) Q (fun _ h => h) ?_
                clear hK
                first | (refine segH_pass _ _ _ _ _ _ (hid_get HOPS 36 _ rfl) (wanted_some (hid_get HOPS 29 _ rfl) rfl rfl rfl) (fun _ _ _ _ h => h) ?_; simp only [Act.put, List.setIfInBounds_toArray, List.set_cons_zero, List.set_cons_succ]) | (refine segH_pure _ _ _ _ _ _ (hid_get HOPS 36 _ rfl) rfl (wanted_some (hid_get HOPS 29 _ rfl) rfl rfl rfl) (fun _ _ _ _ h => h) ?_; intro K hK; go_big_quiet_op; go_big_quiet_on)
                (refine segH_pure _ _ _ _ _ _ (hid_get HOPS 37 _ rfl) rfl wanted_none (fun _ _ _ _ h => h) ?_; intro K hK; go_big_quiet_op; go_big_quiet_on)
                (refine segH_pure _ _ _ _ _ _ (hid_get HOPS 38 _ rfl) rfl wanted_none (fun _ _ _ _ h => h) ?_; intro K hK; go_big_quiet_op; go_big_quiet_on)
                first | (refine segH_pass _ _ _ _ _ _ (hid_get HOPS 39 _ rfl) (wanted_some (hid_get HOPS 38 _ rfl) rfl rfl rfl) (fun _ _ _ _ h => h) ?_; simp only [Act.put, List.setIfInBounds_toArray, List.set_cons_zero, List.set_cons_succ]) | (refine segH_pure _ _ _ _ _ _ (hid_get HOPS 39 _ rfl) rfl (wanted_some (hid_get HOPS 38 _ rfl) rfl rfl rfl) (fun _ _ _ _ h => h) ?_; intro K hK; go_big_quiet_op; go_big_quiet_on)
                first | (refine segH_pass _ _ _ _ _ _ (hid_get HOPS 40 _ rfl) (wanted_some (hid_get HOPS 38 _ rfl) rfl rfl rfl) (fun _ _ _ _ h => h) ?_; simp only [Act.put, List.setIfInBounds_toArray, List.set_cons_zero, List.set_cons_succ]) | (refine segH_pure _ _ _ _ _ _ (hid_get HOPS 40 _ rfl) rfl (wanted_some (hid_get HOPS 38 _ rfl) rfl rfl rfl) (fun _ _ _ _ h => h) ?_; intro K hK; go_big_quiet_op; go_big_quiet_on)
                first | (refine segH_pass _ _ _ _ _ _ (hid_get HOPS 41 _ rfl) (wanted_some (hid_get HOPS 38 _ rfl) rfl rfl rfl) (fun _ _ _ _ h => h) ?_; simp only [Act.put, List.setIfInBounds_toArray, List.set_cons_zero, List.set_cons_succ]) | (refine segH_pure _ _ _ _ _ _ (hid_get HOPS 41 _ rfl) rfl (wanted_some (hid_get HOPS 38 _ rfl) rfl rfl rfl) (fun _ _ _ _ h => h) ?_; intro K hK; go_big_quiet_op; go_big_quiet_on)
                first | (refine segH_pass _ _ _ _ _ _ (hid_get HOPS 43 _ rfl) (wanted_some (hid_get HOPS 38 _ rfl) rfl rfl rfl) (fun _ _ _ _ h => h) ?_; simp only [Act.put, List.setIfInBounds_toArray, List.set_cons_zero, List.set_cons_succ]) | (refine segH_pure _ _ _ _ _ _ (hid_get HOPS 43 _ rfl) rfl (wanted_some (hid_get HOPS 38 _ rfl) rfl rfl rfl) (fun _ _ _ _ h => h) ?_; intro K hK; go_big_quiet_op; go_big_quiet_on)
                first | (refine segH_pass _ _ _ _ _ _ (hid_get HOPS 44 _ rfl) (wanted_some (hid_get HOPS 38 _ rfl) rfl rfl rfl) (fun _ _ _ _ h => h) ?_; simp only [Act.put, List.setIfInBounds_toArray, List.set_cons_zero, List.set_cons_succ]) | (refine segH_pure _ _ _ _ _ _ (hid_get HOPS 44 _ rfl) rfl (wanted_some (hid_get HOPS 38 _ rfl) rfl rfl rfl) (fun _ _ _ _ h => h) ?_; intro K hK; go_big_quiet_op; go_big_quiet_on)
                first | (refine segH_pass _ _ _ _ _ _ (hid_get HOPS 45 _ rfl) (wanted_some (hid_get HOPS 38 _ rfl) rfl rfl rfl) (fun _ _ _ _ h => h) ?_; simp only [Act.put, List.setIfInBounds_toArray, List.set_cons_zero, List.set_cons_succ]) | (refine segH_pure _ _ _ _ _ _ (hid_get HOPS 45 _ rfl) rfl (wanted_some (hid_get HOPS 38 _ rfl) rfl rfl rfl) (fun _ _ _ _ h => h) ?_; intro K hK; go_big_quiet_op; go_big_quiet_on)
                refine segH_makes _ _ _ _ _ _ (hid_get HOPS 42 _ rfl) (wanted_some (hid_get HOPS 38 _ rfl) rfl rfl rfl) (fun K hK => ?_)
                go_big_op
                refine (strFrom_any (P5.s.ext Q) n most HN.out).mono ?_
                rintro e u4 ⟨va, fa, rfl, oa, ka, ia, e4⟩
                obtain ⟨Aa, cA, rfl⟩ := oa.form
                replace Q := ext_trans Q e4
                clear e4
                refine hK _ _ (fun x => Ext w9 x) Q (fun _ h => h) ?_
                clear hK
                refine segH_makes _ _ _ _ _ _ (hid_get HOPS 46 _ rfl) (wanted_some (hid_get HOPS 38 _ rfl) rfl rfl rfl) (fun K hK => ?_)
                go_big_op
                refine (refFrom_any (P5.r.ext Q) n most HN.out).mono ?_
                rintro e u5 ⟨vb, fb, rfl, ob, kb, ib, e5⟩
                obtain ⟨Ab, cB, rfl⟩ := ob.form
                replace Q := ext_trans Q e5
                refine hK _ _ (fun x => Ext w9 x) Q (fun _ h => h) ?_
                clear hK
                refine segH_makes _ _ _ _ _ _ (hid_get HOPS 47 _ rfl) (wanted_some (hid_get HOPS 38 _ rfl) rfl rfl rfl) (fun K hK => ?_)
                go_big_op
                have hll : fa.length ≤ 9223372036854775807 := by
                  have h1 := congrArg List.length ia
                  have h2 := P5.s.len
                  rw [its_length, fromIts, List.length_take, List.length_drop, its_length] at h1
                  omega
                refine (refSameAll_any Aa Ab cA cB fa fb _ w.heap.size w.heap.size ((RowsAt.of_own oa Iv.cells_len rfl).ext e5) (RowsAt.of_own ob Iv.cells_len rfl) (fun x hx => (ka x hx).ext e5) kb hll).mono ?_
                rintro e u6 ⟨rfl, e6⟩
                rw [show itsSame fa fb = true from itsSame_of_eq (by rw [ia, ib, P5.same])]
                replace Q := ext_trans Q e6
                clear oa ob ka kb ia ib e5 e6 hll
                refine hK _ _ (fun x => Ext w9 x) Q (fun _ h => h) ?_
                clear hK
                first | (refine segH_pass _ _ _ _ _ _ (hid_get HOPS 48 _ rfl) (wanted_some (hid_get HOPS 38 _ rfl) rfl rfl rfl) (fun _ _ _ _ h => h) ?_; simp only [Act.put, List.setIfInBounds_toArray, List.set_cons_zero, List.set_cons_succ]) | (refine segH_pure _ _ _ _ _ _ (hid_get HOPS 48 _ rfl) rfl (wanted_some (hid_get HOPS 38 _ rfl) rfl rfl rfl) (fun _ _ _ _ h => h) ?_; intro K hK; go_big_quiet_op; go_big_quiet_on)
                (refine segH_pure _ _ _ _ _ _ (hid_get HOPS 49 _ rfl) rfl wanted_none (fun _ _ _ _ h => h) ?_; intro K hK; go_big_quiet_op; go_big_quiet_on)
                refine seg_done ?_
                clear HOPS
                go_wp2
                go_roundw
                case rel => exact ⟨k + 1, g2, t6, xs6, v6, ys7, _, hlt, by go_num, rfl, P5.to Q⟩
                case measure => simp [intOf]; omega
        · obtain rfl : k = ls.length := by omega
          have HSM : Hid (ys.length = xs.length) := by have := congrArg List.length P.same; rw [its_length, its_length] at this; exact this.symm
          obtain ⟨Ar, cr, rfl, -⟩ := P.r.form
          have j2 := P.r.blk.cell 2
          simp only [List.getElem?_toArray, List.getElem?_cons_zero, List.getElem?_cons_succ] at j2
          have yj2 := fun x (hx : Ext wr x) => ext_cell hx j2
          have hlq : ((xs.length : Int) == (ys.length : Int)) = true := by rw [HSM.out]; simp
          clear j2
          go_upto_region 25 with fail
          refine wp_region_planH (.reads 0 (.reads 2 (.reads 3 (.reads 4 (.reads 5 (.reads 6 (.makes 1 (.reads 7 (.reads 8 (.done)))))))))) (by kernel_rfl) (by kernel_rfl) (fun x => Ext wr x) (ext_drewN wr 1) (fun ops HOPS => ?_)
          (refine segH_pure _ _ _ _ _ _ (hid_get HOPS 0 _ rfl) rfl wanted_none (fun _ _ _ _ h => h) ?_; intro K hK; go_big_quiet_op; go_big_quiet_on)
          (refine segH_pure _ _ _ _ _ _ (hid_get HOPS 2 _ rfl) rfl wanted_none (fun _ _ _ _ h => h) ?_; intro K hK; go_big_quiet_op; go_big_quiet_on)
          (refine segH_nil _ _ _ _ _ _ _ (hid_get HOPS 3 _ rfl) wanted_none rfl (fun _ _ _ _ h => h) ?_; simp only [Act.put, List.setIfInBounds_toArray, List.set_cons_zero, List.set_cons_succ])
          (refine segH_pure _ _ _ _ _ _ (hid_get HOPS 4 _ rfl) rfl wanted_none (fun _ _ _ _ h => h) ?_; intro K hK; go_big_quiet_op; go_big_quiet_on)
          (refine segH_load _ _ _ _ _ _ _ _ _ (hid_get HOPS 5 _ rfl) wanted_none rfl (fun _ _ _ _ h => h) (fun y hy => by go_simp; try with_reducible rfl) ?_; simp only [Act.put, List.setIfInBounds_toArray, List.set_cons_zero, List.set_cons_succ])
          (refine segH_pure _ _ _ _ _ _ (hid_get HOPS 6 _ rfl) rfl wanted_none (fun _ _ _ _ h => h) ?_; intro K hK; go_big_quiet_op; go_big_quiet_on)
          refine segH_makes _ _ _ _ _ _ (hid_get HOPS 1 _ rfl) wanted_none (fun K hK => ?_)
          go_big_op
          refine (strLen_any (P.s.ext (ext_drewN wr 1))).mono ?_
          rintro e u1 ⟨rfl, rfl⟩
          refine hK _ _ (fun x => Ext wr x) (ext_drewN wr 1) (fun _ h => h) ?_
          clear hK
          (refine segH_pure _ _ _ _ _ _ (hid_get HOPS 7 _ rfl) rfl wanted_none (fun _ _ _ _ h => h) ?_; intro K hK; go_big_quiet_op; go_big_quiet_on)
          (refine segH_pure _ _ _ _ _ _ (hid_get HOPS 8 _ rfl) rfl wanted_none (fun _ _ _ _ h => h) ?_; intro K hK; go_big_quiet_op; go_big_quiet_on)
          refine seg_done ?_
          clear HOPS
          go_wp2
          go_ret
          exact ⟨rfl, ext_trans P.ext (ext_drewN wr 1)⟩
    · have HF := Lib.hid hfw; clear hfw
      go_enter Try.func3, Try.ntmps3
      go_wp2_with fail
      refine (known19_any _).mono ?_
      rintro e w1 ⟨rfl, x1⟩
      go_wp2_with fail
      refine (few19_any A c ls _ w.heap.size (RowsAt.ext hA x1) hl).mono ?_
      rintro e w1' ⟨rfl, rfl⟩
      rw [HF.out]
      go_wp2
      go_ret
      exact ⟨rfl, x1⟩
  · have HF : Hid (fewIts 30 ls = false) := by show _ = _; simpa using hfw
    clear hfw
    go_enter Try.func3, Try.ntmps3
    go_wp2_with fail
    refine (known19_any _).mono ?_
    rintro e w1 ⟨rfl, x1⟩
    go_wp2_with fail
    refine (few19_any A c ls _ w.heap.size (RowsAt.ext hA x1) hl).mono ?_
    rintro e w1' ⟨rfl, rfl⟩
    rw [HF.out]
    go_wp2
    go_ret
    exact ⟨rfl, x1⟩
end Go.Proofs.Ytdknkbpgkkakhaa
