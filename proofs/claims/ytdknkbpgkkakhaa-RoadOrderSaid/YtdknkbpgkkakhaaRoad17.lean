/- Layer 22: RoadOrder, walked. -/
import Derived.Test.YtdknkbpgkkakhaaRoad16
namespace Go.Proofs.Ytdknkbpgkkakhaa
open Go.RowKit
open Go.ChangeMaps (setBlock)

abbrev BytesAt (w : World) (B : Nat) (A : Option Addr) (ks : List Int) : Prop := RowsAt w B 5 1 (fun n => [Value.int .u8 n]) A ks
theorem BytesAt.get {w : World} {B : Nat} {A : Option Addr} {ks : List Int} (h : BytesAt w B A ks) {k : Nat} (hk : k < ks.length) : ∃ ad, A = some ad ∧ w.cell? (ad.add k) = some (.int .u8 ks[k]) := by
  obtain ⟨ad, e, _, hc⟩ := h k hk
  exact ⟨ad, e, by simpa [add_zero] using hc 0 _ rfl⟩
theorem Own.le_cap {α : Type} {E : Elem α} {w : World} {base : Nat} {A : Option Addr} {c : Nat} {xs : List α} (h : Own E w base (.slice A xs.length c) xs) : xs.length ≤ c := by
  rcases h.2 with ⟨hv, h0⟩ | ⟨g, cap, cur, hv, _, _, hnc, _⟩
  · omega
  · injection hv with _ _ h3
    omega
/-- The rest of a row behind some of it. -/
theorem rows_drop {α : Type} {w : World} {B : Nat} {e : TypeId} {s : Nat} {f : α → List Value} {ad : Addr} {xs : List α} (h : RowsAt w B e s f (some ad) xs) (j : Nat) : RowsAt w B e s f (some (ad.add (j * s))) (xs.drop j) := fun i hi => by
  have hi' : j + i < xs.length := by rw [List.length_drop] at hi; omega
  obtain ⟨a, e1, ho, hc⟩ := h (j + i) hi'
  have e2 : ad = a := Option.some.inj e1
  subst e2
  refine ⟨_, rfl, by rw [block_of_add]; exact ho, fun q v hv => ?_⟩
  have e3 : (ad.add (j * s)).add (i * s) = ad.add ((j + i) * s) := by rw [add_of_add, Nat.add_mul]
  rw [e3]
  refine hc q v ?_
  rw [List.getElem_drop] at hv
  exact hv

set_option maxRecDepth 100000 in
set_option maxHeartbeats 16000000 in
theorem roadOrder_walk (n hv : Int) (A : Option Addr) (c : Nat) (ks : List Int) (w : World) (hn : 0 ≤ n ∧ n ≤ 255) (hh : 0 ≤ hv ∧ hv ≤ 255) (hA : BytesAt w w.heap.size A ks) (hk : ∀ x ∈ ks, 0 ≤ x ∧ x ≤ 255) (hl : ks.length ≤ 9223372036854775807) :
    Calls Try.prog 14 #[.int .u8 n, .slice A ks.length c, .int .u8 hv] w fun e w' => e = .returned (.bool true) ∧ Ext w w' := by
  obtain ⟨hn0, hn1⟩ := hn
  obtain ⟨hh0, hh1⟩ := hh
  have HA := Lib.hid hA
  have HK := Lib.hid hk
  clear hA hk
  go_enter Try.func14, Try.ntmps14
  go_wp2_with fail
  refine (known22_any w).mono ?_
  rintro e w1 ⟨rfl, x1⟩
  by_cases h30 : ks.length ≤ 30
  · go_wp2_with fail
    refine (refChain_any 2 w1 (by decide) (by decide)).mono ?_
    rintro e w2 ⟨A2, c2, rs, rfl, hm, hM, x2⟩
    have HM := Lib.hid hm
    have hl : rs.length ≤ 9223372036854775807 := by rw [← mat_length, hm]; decide
    have HL := Lib.hid hl
    clear hm hl
    go_wp2_with fail
    refine (roadNew_any A2 c2 rs w2 (hM.more x2.size)).mono ?_
    rintro e w3 ⟨m, rfl, h, x3⟩
    have HX := Lib.hid (ext_trans (ext_trans x1 x2) x3)
    have HB := Lib.hid (ext_trans x1 x2).size
    generalize w2.heap.size = B at h HB
    obtain ⟨ra, hra⟩ : ∃ ra, ra = m.ra := ⟨_, rfl⟩
    rw [← hra]
    have RS : RoadAtS w3 B A2 c2 rs ra (OrdInv 0 0 []) := ⟨m, _, hra.symm, h, OrdInv.new⟩
    have hBw3 := h.base_le
    clear h hra hM x1 x2 x3
    go_upto_region 6 with fail
    go_cut [8] (fun s wc => (∃ K : Nat, 1 ≤ K ∧ K ≤ 20 ∧ s = .int .i64 (K : Int)) ∧ w3 = wc)
    case first =>
      have m1 := Int.emod_nonneg n (b := 20) (by omega)
      have m2 := Int.emod_lt_of_pos n (b := 20) (by omega)
      go_wp2
      go_meet
      exact ⟨⟨(n % 20 + 1).toNat, by omega, by omega, congrArg (Value.int .i64) (by omega)⟩, rfl⟩
    case rest =>
      obtain ⟨⟨K, hK1, hK2, rfl⟩, rfl⟩ := hcut
      clear hn0 hn1
      have HH := Lib.hid (⟨hh0, hh1⟩ : 0 ≤ hv ∧ hv ≤ 255)
      clear hh0 hh1
      go_wp2
      go_loopw [9, 10] (fun v i wr => ∃ (r : Nat) (ls : List Nat), r ≤ K ∧ i = .int .i64 ((r : Int) + 1) ∧ ls.length = r ∧ Own elNat wr B v ls ∧ RoadAtS wr B A2 c2 rs ra (OrdInv r r ls) ∧ Below B w3 wr) (fun _ i _ => (K + 1 - intOf i).toNat)
      case atStart => exact ⟨0, [], Nat.zero_le _, rfl, rfl, Own.nil _ _, RS, Below.refl _ _⟩
      case round =>
        obtain ⟨r, ls, hr, rfl, hlr, hown, RS2, hx⟩ := hrel
        clear RS
        obtain ⟨Al, cl, rfl⟩ := hown.form
        rw [hlr]
        have HLR := Lib.hid hlr
        have HX2 := Lib.hid hx
        have HO := Lib.hid hown
        clear hlr hx hown
        rename_i wr _
        by_cases hrk : r < K
        · obtain ⟨m, s, hra, h, hs⟩ := RS2
          have HRA := Lib.hid hra
          have HS := Lib.hid hs
          have hlg : Hid (s.log.length < 1000000) := by
            have := hs.log
            show _ < _
            omega
          clear hra hs
          go_wp2_with fail
          refine (roadOffer_ra HRA.out h (shutIv 0 ((r : Int) + 1) r) (shutIv_ok _ _ _ _ _) wf_1 HL.out hlg.out).mono ?_
          rintro e w5 ⟨rfl, m5, hra5, h5, go⟩
          obtain ⟨e1, e2⟩ := HS.out.offer (by omega) (by rw [HLR.out]; omega) (mat rs) (by rw [HM.out]; exact chain2_up.1)
          rw [e1, show ((0 : Nat) : Int) = 0 from rfl]
          have HO5 := go.nats h HO.out
          have HX5 := Lib.hid (HX2.out.trans go.below)
          have HS5 := Lib.hid e2
          have HRA5 := Lib.hid hra5
          have hb5 := h5.base_le
          have hb5' : B ≤ (w5.alloc (.cells #[.int .i64 ((r : Int) + 1)] 3)).heap.size := by simp; omega
          have e9 := ext_alloc w5 (.cells #[.int .i64 ((r : Int) + 1)] 3)
          have HB9 : Hid (NatsAt (w5.alloc (.cells #[.int .i64 ((r : Int) + 1)] 3)) 0 (some ⟨w5.heap.size, 0, none⟩) [r + 1]) := by
            have := rows_nat (w := w5) (B := 0) (r + 1)
            rw [show ((r + 1 : Nat) : Int) = (r : Int) + 1 by omega] at this
            exact this
          have HO9 := Lib.hid (HO5.ext e9)
          have H9 := Lib.hid (h5.ext e9)
          have HX9 := Lib.hid (HX5.out.trans (e9.mono hb5))
          obtain ⟨r', hr'⟩ : ∃ r' : Nat, r' = r := ⟨r, rfl⟩
          have HR' := Lib.hid hr'
          clear e1 e2 hra5 h h5 go HO5 e9 hr'
          go_wp2_with (at_builtin; refine wpList_append elNat rfl _ _ rfl B (.slice Al ls.length cl) ls (by show _ = _; rw [HLR.out]; rfl) HO9.out _ 1 [r + 1] rfl 0 HB9.out (by have := HLR.out; show _ * 8 ≤ _; simp; omega) (by have := HLR.out; simp; omega) (by simp; omega) ?_; intro A7 c7 w7 hown7 hg7 hat7; have H10 := Lib.hid (H9.out.grown HO9.out (Nat.le_refl _) hg7); have HX10 := Lib.hid (HX9.out.grown hg7 hb5' (fun k hk => (HO9.out.typed hk).1)))
          have R10 : Hid (RoadAtS w7 B A2 c2 rs ra (OrdInv (r + 1) (r + 1) (ls ++ [r + 1]))) := ⟨m5, _, HRA5.out, H10.out, HS5.out⟩
          have HO10 : Hid (Own elNat w7 B (.slice A7 (ls.length + 1) c7) (ls ++ [r + 1])) := by
            have := hown7
            rw [List.length_append, List.length_singleton] at this
            exact this
          clear hown7 hg7 hat7
          go_roundw
          case rel => exact ⟨r + 1, ls ++ [r + 1], by omega, by go_num, by rw [List.length_append, HLR.out]; rfl, HO10.out, R10.out, HX10.out⟩
          case measure => simp [intOf]; omega
        · obtain rfl : r = K := by omega
          clear hrk hr
          go_wp2
          go_loopw [9, 11] (fun v i wr => ∃ (q : Nat) (ls : List Nat), q ≤ ks.length ∧ i = .int .i64 (q : Int) ∧ ls.length ≤ r ∧ Own elNat wr B v ls ∧ RoadAtS wr B A2 c2 rs ra (OrdInv r r ls) ∧ Below B w3 wr) (fun _ i _ => (ks.length - intOf i).toNat)
          case atStart => exact ⟨0, ls, Nat.zero_le _, rfl, Nat.le_of_eq HLR.out, by rw [← HLR.out]; exact HO.out, RS2, HX2.out⟩
          case round =>
            clear RS2 HLR HX2 HO
            obtain ⟨q, ls, hq, rfl, hlr, hown, RS2, hx⟩ := hrel
            obtain ⟨Al, cl, rfl⟩ := hown.form
            have HLR := Lib.hid hlr
            have HX2 := Lib.hid hx
            have HO := Lib.hid hown
            clear hlr hx hown
            rename_i wr _
            by_cases hqk : q < ks.length
            · go_upto_region 17 with fail
              have hEw : Ext w wr := HX.out.trans (HX2.out.mono HB.out)
              obtain ⟨ad, rfl, p0⟩ := BytesAt.get (RowsAt.ext HA.out hEw) hqk
              have hp := HK.out _ (List.getElem_mem hqk)
              obtain ⟨hp0, hp1⟩ := hp
              generalize ks[q] = p at p0 hp0 hp1
              have y0 := fun x' (hx : Ext wr x') => ext_cell hx p0
              go_cut [12, 13] (fun s t wc => (∃ (J : Nat) (b : Bool), J ≤ 127 ∧ s = .int .i64 (J : Int) ∧ t = .bool b) ∧ Ext wr wc)
              case first =>
                have m1 := Int.emod_nonneg p (b := 2) (by omega)
                have m2 := Int.emod_lt_of_pos p (b := 2) (by omega)
                go_quiet (fail)
                go_wp2
                go_meet
                exact ⟨⟨(p / 2).toNat, _, by omega, congrArg (Value.int .i64) (by omega), rfl⟩, ext_drewN _ _⟩
              case rest =>
                obtain ⟨⟨J, b, hJ, rfl, rfl⟩, P⟩ := hcut
                clear p0 hp0 hp1 y0
                have hEw' := Lib.hid (ext_trans hEw P)
                have HX3 := Lib.hid (HX2.out.trans (P.mono (Nat.le_trans hBw3 HX2.out.size)))
                have HO3 := Lib.hid (HO.out.ext P)
                obtain ⟨m, s, hra, h, hs⟩ := RS2
                have h3 := h.ext P
                have HRA := Lib.hid hra
                have HS := Lib.hid hs
                have HUL : Hid ((s.und 1).length = ls.length) := by show _ = _; rw [hs.und1, List.length_map]
                clear hEw P h hra hs HX2 HO
                by_cases hJl : J < ls.length
                · obtain ⟨hh, hat⟩ := HS.out.at_ hJl
                  obtain ⟨ad2, rfl, p2⟩ := NatsAt.get (HO3.out.rows (B := 0)) hJl
                  have HAT := Lib.hid hat
                  have HP2 := Lib.hid p2
                  clear hat p2
                  cases b
                  · go_wp2_with fail
                    refine (roadTakeG_ra HRA.out h3 wf_1 hh).mono ?_
                    rintro e w8 ⟨A8, c8, rfl, _, m8, hra8, h8, go⟩
                    rw [HAT.out]
                    simp only [ordIt, shutIt, List.length_nil]
                    have HO8 := go.nats h3 HO3.out
                    have HX8 := HX3.out.trans go.below
                    have HS8 := Lib.hid (HS.out.take J)
                    have HRA8 := Lib.hid hra8
                    have e9 := ext_alloc w8 (.cells #[.int .i64 0, .int .i64 ls[J], .int .i64 ((ls[J] : Int) - 1), .bool true, .slice A8 0 c8] 33)
                    have b9 := (Blk.new w8 33 #[.int .i64 0, .int .i64 ls[J], .int .i64 ((ls[J] : Int) - 1), .bool true, .slice A8 0 c8]).cell 1
                    simp only [List.getElem?_toArray, List.getElem?_cons_zero, List.getElem?_cons_succ] at b9
                    go_upto_region 19 with fail
                    have HO9 := HO8.ext e9
                    have h9 := h8.ext e9
                    have HX9 := HX8.trans (e9.mono h8.base_le)
                    generalize w8.alloc (.cells #[.int .i64 0, .int .i64 ls[J], .int .i64 ((ls[J] : Int) - 1), .bool true, .slice A8 0 c8] 33) = w9 at b9 HO9 h9 HX9 ⊢
                    generalize w8.heap.size = g8 at b9 ⊢
                    obtain ⟨_, e2, p9⟩ := NatsAt.get (HO9.rows (B := 0)) hJl
                    obtain rfl := Option.some.inj e2
                    have hlr := HLR.out
                    have y0 := fun x' (hx : Ext w9 x') => ext_cell hx p9
                    have y1 := fun x' (hx : Ext w9 x') => ext_cell hx b9
                    clear e2 p9 b9 HO8 HX8 h8 go e9 hra8 h3
                    generalize hxv : ls[J] = x at y0 y1 ⊢
                    have HO9' := Lib.hid HO9
                    have H9 := Lib.hid h9
                    have HX9' := Lib.hid HX9
                    clear HO9 h9 HX9 hxv
                    have p9 := y0 w9 (Below.refl _ _)
                    have b9 := y1 w9 (Below.refl _ _)
                    clear y0 y1
                    go_upto_region 22 with fail
                    go_quiet (fail)
                    clear p9 b9
                    go_upto_region 25 with fail
                    generalize hW : w9.drewN _ = W
                    have x10 : Ext w9 W := hW ▸ ext_drewN w9 _
                    clear hW
                    have HO10 := Lib.hid (HO9'.out.ext x10)
                    have hlt : ls.length ≤ 20 := by omega
                    have lt1 : (ls.take J).length = J := by rw [List.length_take]; omega
                    have ld1 : (ls.drop (J + 1)).length = ls.length - (J + 1) := List.length_drop
                    have LT := Lib.hid lt1
                    have LD := Lib.hid ld1
                    clear lt1 ld1
                    have hcap := Own.le_cap HO10.out
                    have hwr : IntKind.i64.wrap ((J : Int) + 1) = (J : Int) + 1 := IntWalk.i64_in _ (by omega)
                    refine wp_region_planH (.reads 0 (.reads 1 (.reads 2 (.reads 4 (.reads 5 (.reads 6 (.reads 7 (.makes 3 (.makes 8 (.reads 9 (.done))))))))))) (by kernel_rfl) (by kernel_rfl) (fun x' => Ext W x') (ext_drewN W 1) (fun ops HOPS => ?_)
                    (refine segH_pure _ _ _ _ _ _ (hid_get HOPS 0 _ rfl) rfl wanted_none (fun _ _ _ _ h => h) ?_; intro K hK; go_big_quiet_op; go_big_quiet_on)
                    (refine segH_pure _ _ _ _ _ _ (hid_get HOPS 1 _ rfl) rfl wanted_none (fun _ _ _ _ h => h) ?_; intro K hK; go_big_quiet_op; go_big_quiet_on)
                    (refine segH_pure _ _ _ _ _ _ (hid_get HOPS 2 _ rfl) rfl wanted_none (fun _ _ _ _ h => h) ?_; intro K hK; go_big_quiet_op; go_big_quiet_on)
                    (refine segH_pure _ _ _ _ _ _ (hid_get HOPS 4 _ rfl) rfl wanted_none (fun _ _ _ _ h => h) ?_; intro K hK; go_big_quiet_op; go_big_quiet_on)
                    (refine segH_pure _ _ _ _ _ _ (hid_get HOPS 5 _ rfl) rfl wanted_none (fun _ _ _ _ h => h) ?_; intro K hK; go_big_quiet_op; go_big_quiet_on)
                    (refine segH_pure _ _ _ _ _ _ (hid_get HOPS 6 _ rfl) rfl wanted_none (fun _ _ _ _ h => h) ?_; intro K hK; go_big_quiet_op; go_big_quiet_on)
                    (refine segH_pure _ _ _ _ _ _ (hid_get HOPS 7 _ rfl) rfl wanted_none (fun _ _ _ _ h => h) ?_; intro K hK; go_big_quiet_op; go_big_quiet_on)
                    refine segH_makes _ _ _ _ _ _ (hid_get HOPS 3 _ rfl) wanted_none (fun K hK => ?_)
                    refine wp_append elNat _ _ rfl W.heap.size (.slice none 0 0) [] rfl (Own.nil _ _) (some ad2) cl (ls.take J) (by show _ = _; rw [LT.out]; rfl) 0 ((RowsAt.ext HO10.out.rows (ext_drewN W 1)).take J) (by rw [LT.out]; show _ * 8 ≤ _; simp; omega) (by rw [LT.out]; simp; omega) (by simp) ?_
                    intro A11 c11 w11 hown11 hg11 hat11
                    have P11 : Ext W w11 := ext_trans (ext_drewN W 1) ((Below.refl _ _).grown hg11 (Nat.le_refl _) (fun k hk => by cases hk))
                    have hO11 : Own elNat w11 W.heap.size (.slice A11 J c11) (ls.take J) := by
                      have := hown11
                      rw [List.nil_append, LT.out] at this
                      exact this
                    rw [List.nil_append, LT.out]
                    have HO11 := Lib.hid hO11
                    refine hK _ _ (fun x' => Ext W x') P11 (fun _ h => h) ?_
                    clear hK hown11 hg11 hat11 hO11
                    simp only [Act.put, List.setIfInBounds_toArray, List.set_cons_zero, List.set_cons_succ]
                    refine segH_makes _ _ _ _ _ _ (hid_get HOPS 8 _ rfl) wanted_none (fun K hK => ?_)
                    have HR3 : RowsAt w11 0 3 1 natCells (if cl = J + 1 then some ad2 else some (ad2.add (J + 1))) (ls.drop (J + 1)) := by
                      by_cases hc : cl = J + 1
                      · intro i hi
                        rw [LD.out] at hi
                        omega
                      · rw [if_neg hc]
                        have := rows_drop (RowsAt.ext HO10.out.rows P11 : RowsAt w11 0 3 1 natCells (some ad2) ls) (J + 1)
                        rw [Nat.mul_one] at this
                        exact this
                    refine wp_append elNat _ _ rfl W.heap.size (.slice A11 (ls.take J).length c11) (ls.take J) (by show _ = _; rw [LT.out]; rfl) (by rw [LT.out]; exact HO11.out) _ (cl - (J + 1)) (ls.drop (J + 1)) (by show _ = _; rw [LD.out]; rfl) 0 HR3 (by rw [LT.out, LD.out]; show _ * 8 ≤ _; omega) (by rw [LT.out, LD.out]; omega) P11.size ?_
                    intro A12 c12 w12 hown12 hg12 hat12
                    have e12 : ls.take J ++ ls.drop (J + 1) = ls.eraseIdx J := by rw [List.eraseIdx_eq_take_drop_succ]
                    have P12 : Ext W w12 := P11.grown hg12 P11.size (fun k hk => by
                      have h1 := HO11.out
                      rw [← LT.out] at h1
                      exact (h1.typed hk).1)
                    rw [e12] at hown12 ⊢
                    have HO12 : Hid (Own elNat w12 B (.slice A12 (ls.eraseIdx J).length c12) (ls.eraseIdx J)) := hown12.le (Nat.le_trans H9.out.base_le x10.size)
                    have R12 : Hid (RoadAtS w12 B A2 c2 rs ra (OrdInv r r (ls.eraseIdx J))) := ⟨m8, _, HRA8.out, (H9.out.ext x10).ext P12, HS8.out⟩
                    have HX12 := Lib.hid (HX9'.out.trans ((ext_trans x10 P12).mono H9.out.base_le))
                    refine hK _ _ (fun x' => Ext W x') P12 (fun _ h => h) ?_
                    clear hK hown12 hg12 hat12 e12 HR3
                    simp only [Act.put, List.setIfInBounds_toArray, List.set_cons_zero, List.set_cons_succ]
                    (refine segH_pure _ _ _ _ _ _ (hid_get HOPS 9 _ rfl) rfl wanted_none (fun _ _ _ _ h => h) ?_; intro K hK; go_big_quiet_op; go_big_quiet_on)
                    refine seg_done ?_
                    clear HOPS
                    clear x10 P11 P12 hwr hcap
                    have HLE : Hid ((ls.eraseIdx J).length ≤ r) := by show _ ≤ _; rw [List.length_eraseIdx]; split <;> omega
                    clear hlr hlt
                    go_wp2
                    go_roundw
                    case rel => exact ⟨q + 1, _, hqk, by go_num, HLE.out, HO12.out, R12.out, HX12.out⟩
                    case measure => simp [intOf]; omega
                  · go_wp2_with fail
                    refine (roadTakeS_ra HRA.out h3 wf_1 hh).mono ?_
                    rintro e w8 ⟨A8, c8, rfl, _, y8⟩
                    rw [HAT.out]
                    simp only [ordIt, shutIt, List.length_nil]
                    have HO8 := HO3.out.ext y8
                    have HX8 := HX3.out.trans (y8.mono h3.base_le)
                    have h8 := h3.ext y8
                    have e9 := ext_alloc w8 (.cells #[.int .i64 0, .int .i64 ls[J], .int .i64 ((ls[J] : Int) - 1), .bool true, .slice A8 0 c8] 33)
                    have b9 := (Blk.new w8 33 #[.int .i64 0, .int .i64 ls[J], .int .i64 ((ls[J] : Int) - 1), .bool true, .slice A8 0 c8]).cell 1
                    simp only [List.getElem?_toArray, List.getElem?_cons_zero, List.getElem?_cons_succ] at b9
                    go_upto_region 19 with fail
                    have HO9 := HO8.ext e9
                    have h9 := h8.ext e9
                    have HX9 := HX8.trans (e9.mono h8.base_le)
                    generalize w8.alloc (.cells #[.int .i64 0, .int .i64 ls[J], .int .i64 ((ls[J] : Int) - 1), .bool true, .slice A8 0 c8] 33) = w9 at b9 HO9 h9 HX9 ⊢
                    generalize w8.heap.size = g8 at b9 ⊢
                    obtain ⟨_, e2, p9⟩ := NatsAt.get (HO9.rows (B := 0)) hJl
                    obtain rfl := Option.some.inj e2
                    clear e2 HO8 HX8 h8 e9 h3 y8
                    generalize hxv : ls[J] = x at p9 b9 ⊢
                    have HO9' := Lib.hid HO9
                    have R9 : Hid (RoadAtS w9 B A2 c2 rs ra (OrdInv r r ls)) := ⟨m, s, HRA.out, h9, HS.out⟩
                    have HX9' := Lib.hid HX9
                    have hb9 := h9.base_le
                    clear HO9 h9 HX9 hxv
                    go_upto_region 22 with fail
                    go_quiet (fail)
                    clear p9 b9
                    go_wp2
                    go_roundw
                    case rel => exact ⟨q + 1, ls, hqk, by go_num, HLR.out, HO9'.out.ext (ext_drewN _ _), R9.out.ext (ext_drewN _ _), HX9'.out.trans ((ext_drewN _ _).mono hb9)⟩
                    case measure => simp [intOf]; omega
                · go_wp2_with fail
                  refine (roadTakeN_ra HRA.out h3 (n := (J : Int)) wf_1 b (.inr (by rw [HUL.out]; omega))).mono ?_
                  rintro e w8 ⟨rfl, y8⟩
                  have y9 := ext_trans y8 (ext_alloc w8 (.cells #[.int .i64 0, .int .i64 0, .int .i64 0, .bool false, .slice none 0 0] 33))
                  have HX4 := Lib.hid (HX3.out.trans (y9.mono h3.base_le))
                  have HO4 := Lib.hid (HO3.out.ext y9)
                  have R4 : Hid (RoadAtS (w8.alloc (.cells #[.int .i64 0, .int .i64 0, .int .i64 0, .bool false, .slice none 0 0] 33)) B A2 c2 rs ra (OrdInv r r ls)) := ⟨m, s, HRA.out, h3.ext y9, HS.out⟩
                  clear h3 y8 y9
                  go_wp2
                  go_roundw
                  case rel => exact ⟨q + 1, ls, hqk, by go_num, HLR.out, HO4.out, R4.out, HX4.out⟩
                  case measure => simp [intOf]; omega
            · obtain ⟨m, s, hra, h, hs⟩ := RS2
              have HRA := Lib.hid hra
              have HS := Lib.hid hs
              obtain rfl : q = ks.length := by omega
              have hlr := HLR.out
              clear hra hs hq hqk
              go_wp2_with fail
              refine (roadFor_ra HRA.out h wf_1).mono ?_
              rintro e w5 ⟨v5, zs, rfl, hown5, hzs5, _, y5⟩
              obtain ⟨A5, c5, rfl⟩ := hown5.form
              rw [HS.out.und1] at hzs5
              have hzl : zs.length = ls.length := by
                have := congrArg List.length hzs5
                rw [its_length, List.length_map] at this
                exact this
              rw [hzl]
              have HZL := Lib.hid hzl
              have HZN : Hid (∀ j, (hj : j < ls.length) → ∃ h' : j < zs.length, zs[j].it.n = (ls[j] : Int)) := fun j hj => by
                have h' : j < zs.length := by rw [hzl]; exact hj
                refine ⟨h', ?_⟩
                have h1 : (its zs)[j]? = some zs[j].it := by simp [its, h']
                rw [hzs5] at h1
                have h2 : (ls.map ordIt)[j]? = some (ordIt ls[j]) := by simp [hj]
                rw [h2] at h1
                rw [← Option.some.inj h1]; rfl
              have HZ5 := Lib.hid (hown5.rows (B := 0))
              have HO5 := Lib.hid (HO.out.ext y5)
              have H5 := Lib.hid (h.ext y5)
              have HX5 := Lib.hid (HX2.out.trans (y5.mono h.base_le))
              clear hown5 hzs5 hzl h y5 HX2 HO
              go_wp2
              go_loopw [17] (fun i wr => ∃ j : Nat, j ≤ ls.length ∧ i = .int .i64 (j : Int) ∧ Ext w5 wr) (fun i _ => (ls.length - intOf i).toNat)
              case atStart => exact ⟨0, Nat.zero_le _, rfl, Below.refl _ _⟩
              case round =>
                obtain ⟨j, hj, rfl, hx⟩ := hrel
                rename World => wl
                by_cases hjl : j < ls.length
                · obtain ⟨h', hn'⟩ := HZN.out j hjl
                  obtain ⟨ad5, rfl, _, p1, _⟩ := RowsIv.get (RowsAt.ext HZ5.out hx) h'
                  rw [hn'] at p1
                  obtain ⟨ad6, rfl, p2⟩ := NatsAt.get (RowsAt.ext (HO5.out.rows (B := 0)) hx) hjl
                  generalize (ls[j] : Int) = x at p1 p2
                  clear hn'
                  go_upto_region 32 with fail
                  go_quiet (fail)
                  clear p1 p2
                  have HXL := Lib.hid (ext_trans hx (ext_drewN wl 1))
                  go_wp2
                  go_roundw
                  case rel => exact ⟨j + 1, hjl, by go_num, ext_trans hx (ext_drewN wl _)⟩
                  case measure => simp [intOf]; omega
                · obtain rfl : j = ls.length := by omega
                  clear hjl hj
                  have h7 := H5.out.ext hx
                  have HX7 := Lib.hid (HX5.out.trans (hx.mono H5.out.base_le))
                  clear hx
                  go_upto_region 34 with fail
                  go_cut [18] (fun s wc => (∃ H : Nat, H ≤ r ∧ s = .int .i64 (H : Int)) ∧ wl = wc)
                  case first =>
                    have m0 := HH.out
                    have m1 := Int.emod_nonneg hv (b := (r : Int) + 1) (by omega)
                    have m2 := Int.emod_lt_of_pos hv (b := (r : Int) + 1) (by omega)
                    go_wp2
                    go_meet
                    exact ⟨⟨(hv % ((r : Int) + 1)).toNat, by omega, congrArg (Value.int .i64) (by omega)⟩, rfl⟩
                  case rest =>
                    obtain ⟨⟨H, hH, rfl⟩, rfl⟩ := hcut
                    go_wp2_with fail
                    refine (roadAgain_ra HRA.out h7 wf_0 wf_1 HL.out).mono ?_
                    rintro e w8 ⟨rfl, m8, hra8, h8, go8⟩
                    have HS8 := Lib.hid (HS.out.again H (mat rs) (by rw [HM.out]; exact chain2_up.1))
                    have HX8 := Lib.hid (HX7.out.trans go8.below)
                    have HRA8 := Lib.hid hra8
                    clear hra8 go8 h7
                    generalize againSt (mat rs) s 0 1 (H : Int) = s8 at h8 HS8
                    go_wp2_with fail
                    refine (roadAgain_ra HRA8.out h8 wf_1 wf_0 HL.out).mono ?_
                    rintro e w9 ⟨rfl, m9, hra9, h9, go9⟩
                    rw [againSt, if_neg (by rw [HM.out, chain2_up.2]; decide)] at h9
                    have HX9 := Lib.hid (HX8.out.trans go9.below)
                    have HRA9 := Lib.hid hra9
                    clear hra9 go9 h8
                    have hlg : Hid (s8.log.length < 1000000) := by
                      have := HS8.out.log
                      show _ < _
                      omega
                    go_wp2_with fail
                    refine (roadOffer_ra HRA9.out h9 (shutIv 0 ((H : Int) + 1) H) (shutIv_ok _ _ _ _ _) wf_1 HL.out hlg.out).mono ?_
                    rintro e w10 ⟨rfl, m10, hra10, h10, go10⟩
                    obtain ⟨e1, e2⟩ := HS8.out.offer (by omega) (by omega) (mat rs) (by rw [HM.out]; exact chain2_up.1)
                    rw [e1, show ((0 : Nat) : Int) = 0 from rfl]
                    have HX10 := Lib.hid (HX9.out.trans go10.below)
                    have HRA10 := Lib.hid hra10
                    have HS10 := Lib.hid e2
                    clear hra10 go10 h9 e1 e2
                    generalize offerSt (mat rs) s8 (shutIv 0 ((H : Int) + 1) H).it 1 = s10 at h10 HS10
                    go_wp2_with fail
                    refine (roadOffered_ra HRA10.out h10 wf_1 wf_0).mono ?_
                    rintro e w' ⟨rfl, rfl⟩
                    rw [HS10.out.off0]
                    go_wp2_with fail
                    refine (roadOffered_ra HRA10.out h10 wf_0 wf_1).mono ?_
                    rintro e w' ⟨rfl, rfl⟩
                    rw [HS10.out.off1, show ((H + 1 : Nat) : Int) = (H : Int) + 1 by omega]
                    go_wp2_with fail
                    refine (roadFor_ra HRA10.out h10 wf_1).mono ?_
                    rintro e w11 ⟨v11, us, rfl, hown11, hzs11, _, y11⟩
                    obtain ⟨A11, c11, rfl⟩ := hown11.form
                    have hul : us.length = ls.length + 1 := by
                      rw [HS10.out.und1] at hzs11
                      have := congrArg List.length hzs11
                      rw [its_length, List.length_map, List.length_append, List.length_singleton] at this
                      exact this
                    rw [hul]
                    have HX11 := Lib.hid (HX10.out.trans (y11.mono h10.base_le))
                    clear hown11 hzs11 y11 h10 hul
                    go_wp2
                    go_ret
                    exact ⟨rfl, HX.out.trans (HX11.out.mono HB.out)⟩
  · go_wp2
    go_ret
    exact ⟨rfl, x1⟩
end Go.Proofs.Ytdknkbpgkkakhaa
