/- Layer 22: RoadFull, walked. -/
import Derived.Test.YtdknkbpgkkakhaaRoad14
import Derived.Test.YtdknkbpgkkakhaaRoad13
namespace Go.Proofs.Ytdknkbpgkkakhaa
open Go.RowKit
open Go.ChangeMaps (setBlock)

section
variable {w : World} {B : Nat} {A : Option Addr} {c : Nat} {rs : List Rw} {m : RoadMem} {s : RoadSt} {ra : Nat}
theorem roadOffer_ra (hra : m.ra = ra) (h : RoadAt w B A c rs m s) (x : Iv) (hx : IvOk w B x) {dd : Int} (ht : wf64 dd) (hl : rs.length ≤ 9223372036854775807) (hlog : s.log.length < 1000000) :
    Calls Try.prog 62 #[.pointer (some ⟨ra, 0, none⟩), .agg #[.int .i64 x.it.level, .int .i64 x.it.n, .int .i64 x.it.turn, .bool x.it.shut, .slice x.A x.it.ws.length x.c], .int .i64 dd] w
      fun e w' => e = .returned (.int .i64 (offerN (mat rs) s x.it dd : Int)) ∧ ∃ m', m'.ra = ra ∧ RoadAt w' B A c rs m' (offerSt (mat rs) s x.it dd) ∧ RoadGo B w m w' m' := by
  subst hra; exact roadOffer_any h x hx ht hl hlog
theorem roadAgain_ra (hra : m.ra = ra) (h : RoadAt w B A c rs m s) {a b n : Int} (ha : wf64 a) (hb : wf64 b) (hl : rs.length ≤ 9223372036854775807) :
    Calls Try.prog 64 #[.pointer (some ⟨ra, 0, none⟩), .int .i64 a, .int .i64 b, .int .i64 n] w fun e w' => e = .returned (.tuple #[]) ∧ ∃ m', m'.ra = ra ∧ RoadAt w' B A c rs m' (againSt (mat rs) s a b n) ∧ RoadGo B w m w' m' := by
  subst hra; exact roadAgain_any h ha hb hl
theorem roadTakeN_ra (hra : m.ra = ra) (h : RoadAt w B A c rs m s) {t n : Int} (ht : wf64 t) (stays : Bool) (hno : n < 0 ∨ ((s.und t).length : Int) ≤ n) :
    Calls Try.prog 66 #[.pointer (some ⟨ra, 0, none⟩), .int .i64 t, .int .i64 n, .bool stays] w
      fun e w' => e = .returned (.tuple #[.agg #[.int .i64 0, .int .i64 0, .int .i64 0, .bool false, .slice none 0 0], .int .i64 18]) ∧ Ext w w' := by
  subst hra; exact roadTake_none h ht stays hno
theorem roadTakeS_ra (hra : m.ra = ra) (h : RoadAt w B A c rs m s) {t : Int} {k : Nat} (ht : wf64 t) (hk : k < (s.und t).length) :
    Calls Try.prog 66 #[.pointer (some ⟨ra, 0, none⟩), .int .i64 t, .int .i64 k, .bool true] w
      fun e w' => ∃ A' c', e = .returned (.tuple #[.agg #[.int .i64 (s.und t)[k].level, .int .i64 (s.und t)[k].n, .int .i64 (s.und t)[k].turn, .bool (s.und t)[k].shut, .slice A' (s.und t)[k].ws.length c'], .int .i64 0]) ∧
        IvOk w' B ⟨(s.und t)[k], A', c'⟩ ∧ Ext w w' := by
  subst hra; exact roadTake_stays h ht hk
theorem roadTakeG_ra (hra : m.ra = ra) (h : RoadAt w B A c rs m s) {t : Int} {k : Nat} (ht : wf64 t) (hk : k < (s.und t).length) :
    Calls Try.prog 66 #[.pointer (some ⟨ra, 0, none⟩), .int .i64 t, .int .i64 k, .bool false] w
      fun e w' => ∃ A' c', e = .returned (.tuple #[.agg #[.int .i64 (s.und t)[k].level, .int .i64 (s.und t)[k].n, .int .i64 (s.und t)[k].turn, .bool (s.und t)[k].shut, .slice A' (s.und t)[k].ws.length c'], .int .i64 0]) ∧
        IvOk w' B ⟨(s.und t)[k], A', c'⟩ ∧ ∃ m', m'.ra = ra ∧ RoadAt w' B A c rs m' ⟨s.off, fun u => if u = t then (s.und t).eraseIdx k else s.und u, s.log⟩ ∧ RoadGo B w m w' m' := by
  subst hra; exact roadTake_goes h ht hk
theorem roadOffered_ra (hra : m.ra = ra) (h : RoadAt w B A c rs m s) {a b : Int} (ha : wf64 a) (hb : wf64 b) :
    Calls Try.prog 69 #[.pointer (some ⟨ra, 0, none⟩), .int .i64 a, .int .i64 b] w fun e w' => e = .returned (.int .i64 (s.off (a, b))) ∧ w' = w := by
  subst hra; exact roadOffered_any h ha hb
theorem roadFor_ra (hra : m.ra = ra) (h : RoadAt w B A c rs m s) {t : Int} (ht : wf64 t) :
    Calls Try.prog 68 #[.pointer (some ⟨ra, 0, none⟩), .int .i64 t] w fun e w' => ∃ v' zs, e = .returned v' ∧ Own elIv w' w.heap.size v' zs ∧ its zs = s.und t ∧ (∀ z ∈ zs, IvOk w' B z) ∧ Ext w w' := by
  subst hra; exact roadFor_any h ht
theorem roadLog_ra (hra : m.ra = ra) (h : RoadAt w B A c rs m s) :
    Calls Try.prog 70 #[.pointer (some ⟨ra, 0, none⟩)] w fun e w' => ∃ v' ps, e = .returned v' ∧ Own elPv w' w.heap.size v' ps ∧ prs ps = s.log ∧ (∀ p ∈ ps, IvOk w' B p.x) ∧ Ext w w' := by
  subst hra; exact roadLog_any h
theorem RoadAt.base_le (h : RoadAt w B A c rs m s) : B ≤ w.heap.size := Nat.le_trans h.base.1 (Nat.le_of_lt h.blk.lt)
end
theorem wf_2 : wf64 2 := by unfold wf64; decide
theorem chain3_up : labove (lchain 3) 1 0 = true ∧ labove (lchain 3) 2 0 = true := by decide +kernel

set_option maxRecDepth 100000 in
set_option maxHeartbeats 8000000 in
theorem roadFull_walk (a b : Int) (w : World) (ha : 0 ≤ a ∧ a ≤ 255) (hb : 0 ≤ b ∧ b ≤ 255) :
    Calls Try.prog 13 #[.int .u8 a, .int .u8 b] w fun e w' => e = .returned (.bool true) ∧ Ext w w' := by
  obtain ⟨ha0, ha1⟩ := ha
  obtain ⟨hb0, hb1⟩ := hb
  go_enter Try.func13, Try.ntmps13
  go_wp2_with fail
  refine (known22_any w).mono ?_
  rintro e w1 ⟨rfl, x1⟩
  go_wp2_with fail
  refine (refChain_any 3 w1 (by decide) (by decide)).mono ?_
  rintro e w2 ⟨A, c, rs, rfl, hm, hM, x2⟩
  have HM := Lib.hid hm
  have hl : rs.length ≤ 9223372036854775807 := by rw [← mat_length, hm]; decide
  have HL := Lib.hid hl
  clear hm hl
  go_wp2_with fail
  refine (roadNew_any A c rs w2 (hM.more x2.size)).mono ?_
  rintro e w3 ⟨m, rfl, h, x3⟩
  have HX := Lib.hid (ext_trans (ext_trans x1 x2) x3)
  have HB := Lib.hid (ext_trans x1 x2).size
  generalize w2.heap.size = B at h HB
  obtain ⟨ra, hra⟩ : ∃ ra, ra = m.ra := ⟨_, rfl⟩
  rw [← hra]
  have RS : RoadAtS w3 B A c rs ra (FullInv 0 0) := ⟨m, _, hra.symm, h, FullInv.new⟩
  clear h hra hM x1 x2 x3
  go_upto_region 4 with fail
  go_cut [6, 7] (fun s t wc => (∃ K J : Nat, K < 60 ∧ J < 60 ∧ s = .int .i64 (K : Int) ∧ t = .int .i64 (J : Int)) ∧ w3 = wc)
  case first =>
    have m1 := Int.emod_nonneg a (b := 60) (by omega)
    have m2 := Int.emod_lt_of_pos a (b := 60) (by omega)
    have m3 := Int.emod_nonneg b (b := 60) (by omega)
    have m4 := Int.emod_lt_of_pos b (b := 60) (by omega)
    go_wp2
    go_meet
    exact ⟨⟨(a % 60).toNat, (b % 60).toNat, by omega, by omega, congrArg (Value.int .i64) (by omega), congrArg (Value.int .i64) (by omega)⟩, rfl⟩
  case rest =>
    obtain ⟨⟨K, J, hK, hJ, rfl, rfl⟩, rfl⟩ := hcut
    clear ha0 ha1 hb0 hb1

    go_wp2
    go_loopw [8] (fun i wr => ∃ r : Nat, (r ≤ K ∨ r ≤ J) ∧ i = .int .i64 ((r : Int) + 1) ∧ RoadAtS wr B A c rs ra (FullInv (min r K) (min r J)) ∧ Below B w3 wr) (fun i _ => (K + J + 1 - intOf i).toNat)
    case atStart => exact ⟨0, .inl (Nat.zero_le _), rfl, by simpa using RS, Below.refl _ _⟩
    case round =>
      obtain ⟨r, hr, rfl, RS2, hx⟩ := hrel
      clear RS
      rename_i wr _
      have HR := Lib.hid hr
      have hr100 : r < 100 := by omega
      clear hr
      go_upto_region 6 with fail
      go_cut [26] (fun t wc => t = .bool (decide (r < K ∨ r < J)) ∧ wr = wc)
      case first =>
        go_wp2
        all_goals
          go_meet
          refine ⟨congrArg Value.bool ?_, rfl⟩
          rw [Bool.eq_iff_iff]
          simp
          omega
      case rest =>
        obtain ⟨rfl, rfl⟩ := hcut
        by_cases hrl : r < K ∨ r < J
        · rw [show decide (r < K ∨ r < J) = true from decide_eq_true hrl]
          have HRL := Lib.hid hrl
          clear hrl
          obtain ⟨m, s, hra0, h, hs⟩ := RS2
          have HRA0 := Lib.hid hra0
          clear hra0
          go_upto_region 9 with fail
          have bx := Blk.new wr 33 #[.int .i64 0, .int .i64 ((r : Int) + 1), .int .i64 (r : Int), .bool true, .slice none 0 0]
          have hf : ¬ RoadOwn m wr.heap.size := fun hc => Nat.lt_irrefl _ (h.own_lt hc).2
          have h4 := h.ext (ext_alloc wr (.cells #[.int .i64 0, .int .i64 ((r : Int) + 1), .int .i64 (r : Int), .bool true, .slice none 0 0] 33))
          have hBw : B ≤ wr.heap.size := Nat.le_trans h.base.1 (Nat.le_of_lt h.blk.lt)
          have hx4 := hx.trans ((ext_alloc wr (.cells #[.int .i64 0, .int .i64 ((r : Int) + 1), .int .i64 (r : Int), .bool true, .slice none 0 0] 33)).mono hBw)
          clear h hx hBw
          generalize wr.alloc (.cells #[.int .i64 0, .int .i64 ((r : Int) + 1), .int .i64 (r : Int), .bool true, .slice none 0 0] 33) = w4 at bx h4 hx4 ⊢
          generalize wr.heap.size = gx at bx hf ⊢
          have hlg : s.log.length < 100000 := by rw [hs.log]; omega
          have HLG : Hid (s.log.length < 1000000) := by show _ < _; omega
          have HS := Lib.hid hs
          have HLG2 := Lib.hid hlg
          have HX4 := Lib.hid hx4
          clear hs hlg hx4
          by_cases h1 : r < K
          · have HS1 : Hid (FullInv r (min r J) s) := by
              have := HS.out
              rw [Nat.min_eq_left (Nat.le_of_lt h1)] at this
              exact this
            clear HS
            have d0 := bx.cell 0
            have d1 := bx.cell 1
            have d2 := bx.cell 2
            have d3 := bx.cell 3
            have d4 := bx.cell 4
            simp only [List.getElem?_toArray, List.getElem?_cons_zero, List.getElem?_cons_succ] at d0 d1 d2 d3 d4
            go_wp2_with fail
            refine (roadOffer_ra HRA0.out h4 (shutIv 0 ((r : Int) + 1) r) (shutIv_ok _ _ _ _ _) wf_1 HL.out HLG.out).mono ?_
            rintro e w5 ⟨rfl, m5, hra, h5, go⟩
            obtain ⟨e1, e2⟩ := HS1.out.one (by omega) (mat rs) (by rw [HM.out]; exact chain3_up.1)
            rw [e1, show ((0 : Nat) : Int) = 0 from rfl]
            have HS5 := Lib.hid e2
            have HRA := Lib.hid hra
            have HX5 := Lib.hid (HX4.out.trans go.below)
            clear e1 e2 hra d0 d1 d2 d3 d4
            by_cases h2 : r < J
            · obtain ⟨bx5, hf5⟩ := go.blk bx hf
              clear bx hf go h4
              generalize hs5 : offerSt (mat rs) s (shutIv 0 ((r : Int) + 1) r).it 1 = s5 at h5 HS5
              have HLG5 : Hid (s5.log.length < 1000000) := by
                have := HS5.out.log
                show _ < _
                omega
              clear hs5
              have d0 := bx5.cell 0
              have d1 := bx5.cell 1
              have d2 := bx5.cell 2
              have d3 := bx5.cell 3
              have d4 := bx5.cell 4
              simp only [List.getElem?_toArray, List.getElem?_cons_zero, List.getElem?_cons_succ] at d0 d1 d2 d3 d4
              go_wp2_with fail
              refine (roadOffer_ra HRA.out h5 (shutIv 0 ((r : Int) + 1) r) (shutIv_ok _ _ _ _ _) wf_2 HL.out HLG5.out).mono ?_
              rintro e w6 ⟨rfl, m6, hra6, h6, go⟩
              have HS5b : Hid (FullInv (r + 1) r s5) := by
                have := HS5.out
                rw [Nat.min_eq_left (Nat.le_of_lt h2)] at this
                exact this
              obtain ⟨e1, e2⟩ := HS5b.out.two (by omega) (mat rs) (by rw [HM.out]; exact chain3_up.2)
              rw [e1, show ((0 : Nat) : Int) = 0 from rfl]
              have R6 : Hid (RoadAtS w6 B A c rs ra (FullInv (min (r + 1) K) (min (r + 1) J))) := ⟨m6, _, hra6, h6, by rw [Nat.min_eq_left (show r + 1 ≤ K by omega), Nat.min_eq_left (show r + 1 ≤ J by omega)]; exact e2⟩
              have HX6 := Lib.hid (HX5.out.trans go.below)
              clear e1 e2 hra6 d0 d1 d2 d3 d4 h5 h6 go bx5 hf5
              go_wp2
              go_roundw
              case rel => exact ⟨r + 1, .inl (by omega), by go_num, R6.out, HX6.out⟩
              case measure => simp [intOf]; omega
            · have R6 : Hid (RoadAtS w5 B A c rs ra (FullInv (min (r + 1) K) (min (r + 1) J))) := ⟨m5, _, HRA.out, h5, by rw [Nat.min_eq_left (show r + 1 ≤ K by omega), Nat.min_eq_right (show J ≤ r + 1 by omega)]; have := HS5.out; rw [Nat.min_eq_right (show J ≤ r by omega)] at this; exact this⟩
              clear h5 go bx hf h4
              go_wp2
              go_roundw
              case rel => exact ⟨r + 1, .inl (by omega), by go_num, R6.out, HX5.out⟩
              case measure => simp [intOf]; omega
          · have h2 : r < J := by have := HRL.out; omega
            have HS1 : Hid (FullInv K r s) := by
              have := HS.out
              rw [Nat.min_eq_right (show K ≤ r by omega), Nat.min_eq_left (Nat.le_of_lt h2)] at this
              exact this
            clear HS
            have d0 := bx.cell 0
            have d1 := bx.cell 1
            have d2 := bx.cell 2
            have d3 := bx.cell 3
            have d4 := bx.cell 4
            simp only [List.getElem?_toArray, List.getElem?_cons_zero, List.getElem?_cons_succ] at d0 d1 d2 d3 d4
            go_wp2_with fail
            refine (roadOffer_ra HRA0.out h4 (shutIv 0 ((r : Int) + 1) r) (shutIv_ok _ _ _ _ _) wf_2 HL.out HLG.out).mono ?_
            rintro e w6 ⟨rfl, m6, hra6, h6, go⟩
            obtain ⟨e1, e2⟩ := HS1.out.two (by omega) (mat rs) (by rw [HM.out]; exact chain3_up.2)
            rw [e1, show ((0 : Nat) : Int) = 0 from rfl]
            have R6 : Hid (RoadAtS w6 B A c rs ra (FullInv (min (r + 1) K) (min (r + 1) J))) := ⟨m6, _, hra6, h6, by rw [Nat.min_eq_right (show K ≤ r + 1 by omega), Nat.min_eq_left (show r + 1 ≤ J by omega)]; exact e2⟩
            have HX6 := Lib.hid (HX4.out.trans go.below)
            clear e1 e2 hra6 d0 d1 d2 d3 d4 h4 h6 go bx hf
            go_wp2
            go_roundw
            case rel => exact ⟨r + 1, .inr (by omega), by go_num, R6.out, HX6.out⟩
            case measure => simp [intOf]; omega
        · rw [show decide (r < K ∨ r < J) = false from decide_eq_false hrl]
          obtain ⟨m, s, hra0, h, hs⟩ := RS2
          have HS : Hid (FullInv K J s) := by
            have := hs
            rw [Nat.min_eq_right (show K ≤ r by omega), Nat.min_eq_right (show J ≤ r by omega)] at this
            exact this
          have HRA := Lib.hid hra0
          have HX4 := Lib.hid hx
          have HBW := Lib.hid h.base_le
          clear hs hra0 hx hrl HR hr100
          go_wp2_with fail
          refine (roadFor_ra HRA.out h wf_1).mono ?_
          rintro e w5 ⟨v5, zs, rfl, hown5, hzs5, _, y5⟩
          obtain ⟨A5, c5, rfl⟩ := hown5.form
          rw [HS.out.und1] at hzs5
          have HF5 := Lib.hid (full_for hzs5)
          have HR5 : Hid (RowsIv w5 0 A5 zs) := hown5.rows
          replace h := h.ext y5
          clear hown5 hzs5
          go_wp2_with fail
          refine (roadFor_ra HRA.out h wf_2).mono ?_
          rintro e w6 ⟨v6, us, rfl, hown6, hzs6, _, y6⟩
          obtain ⟨A6, c6, rfl⟩ := hown6.form
          rw [HS.out.und2] at hzs6
          have HF6 := Lib.hid (full_for hzs6)
          have HR6 : Hid (RowsIv w6 0 A6 us) := hown6.rows
          replace h := h.ext y6
          have HR5b : Hid (RowsIv w6 0 A5 zs) := RowsAt.ext HR5.out y6
          have HX6 := Lib.hid (HX4.out.trans ((ext_trans y5 y6).mono HBW.out))
          clear hown6 hzs6 HR5
          go_upto_region 12 with fail
          have h6b := Nat.le_trans HBW.out (ext_trans y5 y6).size
          clear y5 y6
          obtain ⟨L, hL⟩ : ∃ L, L = zs.length := ⟨_, rfl⟩
          obtain ⟨M, hM⟩ : ∃ M, M = us.length := ⟨_, rfl⟩
          rw [← hL, ← hM]
          have HLL := Lib.hid hL
          have HMM := Lib.hid hM
          clear hL hM
          have hk1 : (K ≤ 40 ∧ L = K) ∨ (40 < K ∧ L = 40) := by have := HF5.out.1; have := HLL.out; omega
          have hk2 : (J ≤ 40 ∧ M = J) ∨ (40 < J ∧ M = 40) := by have := HF6.out.1; have := HMM.out; omega
          go_cut [83] (fun t wc => t = .bool false ∧ Ext w6 wc)
          case first =>
            rcases hk1 with ⟨ha, rfl⟩ | ⟨ha, rfl⟩ <;> rcases hk2 with ⟨hb, rfl⟩ | ⟨hb, rfl⟩
            all_goals
              go_wp2_with fail
              refine (roadLog_ra HRA.out h).mono ?_
              rintro e w7 ⟨v7, ps, rfl, hown7, hps7, _, y7⟩
              obtain ⟨A7, c7, rfl⟩ := hown7.form
              have hl7 := congrArg List.length hps7
              rw [prs_length, HS.out.log] at hl7
              rw [hl7]
              have h8 := h.ext y7
              clear hown7 hps7 hl7
              go_wp2_with fail
              refine (roadFor_ra HRA.out h8 wf_0).mono ?_
              rintro e w8 ⟨v8, ts, rfl, hown8, hzs8, _, y8⟩
              obtain ⟨A8, c8, rfl⟩ := hown8.form
              have hl8 := congrArg List.length hzs8
              rw [its_length, HS.out.und0] at hl8
              rw [hl8]
              have P := Lib.hid (ext_trans y7 y8)
              clear hown8 hzs8 hl8 y7 y8
              go_wp2
              go_meet
              exact ⟨rfl, P.out⟩
          case rest =>
            obtain ⟨rfl, P⟩ := hcut
            replace h := h.ext P
            have HX7 := Lib.hid (HX6.out.trans (P.mono h6b))
            have q1 : ∀ l, L = l + 1 → ∃ ad, A5 = some ad ∧ wc.cell? ⟨(ad.add (l * 5)).block, (ad.add (l * 5)).off + 1, none⟩ = some (.int .i64 K) ∧ wc.cell? ⟨ad.block, ad.off + 1, none⟩ = some (.int .i64 ((K : Int) - ((l : Int) + 1) + 1)) := fun l hl => by
              have hzl : zs.length = l + 1 := by rw [← HLL.out]; exact hl
              have hR := RowsAt.ext HR5b.out P
              obtain ⟨ad, e0, _, p1, _⟩ := RowsIv.get hR (k := l) (by omega)
              obtain ⟨ad', e0', _, p1', _⟩ := RowsIv.get hR (k := 0) (by omega)
              rw [e0] at e0'
              injection e0' with e0'
              subst e0'
              rw [HF5.out.2] at p1 p1'
              refine ⟨ad, e0, ?_, ?_⟩
              · rw [p1, hzl]
                exact congrArg (fun z => some (Value.int .i64 z)) (by omega)
              · rw [Nat.zero_mul, add_zero] at p1'
                rw [p1', hzl]
                exact congrArg (fun z => some (Value.int .i64 z)) (by omega)
            have q2 : ∀ l, M = l + 1 → ∃ ad, A6 = some ad ∧ wc.cell? ⟨(ad.add (l * 5)).block, (ad.add (l * 5)).off + 1, none⟩ = some (.int .i64 J) := fun l hl => by
              have hzl : us.length = l + 1 := by rw [← HMM.out]; exact hl
              have hR := RowsAt.ext HR6.out P
              obtain ⟨ad, e0, _, p1, _⟩ := RowsIv.get hR (k := l) (by omega)
              rw [HF6.out.2] at p1
              refine ⟨ad, e0, ?_⟩
              rw [p1, hzl]
              exact congrArg (fun z => some (Value.int .i64 z)) (by omega)
            have ho1 := HS.out.off1
            have ho2 := HS.out.off2
            have HO1 := Lib.hid ho1
            have HO2 := Lib.hid ho2
            clear ho1 ho2 P
            have hl0 : L ≤ 40 := by omega
            have hm0 : M ≤ 40 := by omega
            clear hk1 hk2
            rcases L with _ | l <;> rcases M with _ | l2
            all_goals
              first | (obtain ⟨ad, rfl, g1, g2⟩ := q1 _ rfl) | skip
              first | (obtain ⟨ad2, rfl, g3⟩ := q2 _ rfl) | skip
              clear q1 q2
              go_wp2_with fail
              refine (roadOffered_ra HRA.out h wf_0 wf_1).mono ?_
              rintro e w' ⟨rfl, rfl⟩
              rw [HO1.out]
              go_wp2_with fail
              refine (roadOffered_ra HRA.out h wf_0 wf_2).mono ?_
              rintro e w' ⟨rfl, rfl⟩
              rw [HO2.out]
              go_wp2
              go_ret
              exact ⟨rfl, HX.out.trans (HX7.out.mono HB.out)⟩
end Go.Proofs.Ytdknkbpgkkakhaa
