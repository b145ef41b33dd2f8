/- Layer 20: the walk of IntakeOrders. -/
import Derived.Test.YtdknkbpgkkakhaaInt18
namespace Go.Proofs.Ytdknkbpgkkakhaa
open Go.RowKit Go.Maps

/-- The turn of the k-th item, where bs says which shut a turn. -/
def tBs (bs : List Bool) (k : Nat) : Int := ((bs.take k).countP id : Nat)
def fBs (bs : List Bool) (k : Nat) : It := itIt 0 ((k : Int) + 1) (tBs bs k) ((bs[k]?).getD false)
theorem tBs_succ (bs : List Bool) (k : Nat) : tBs bs (k + 1) = tBs bs k + (if (bs[k]?).getD false = true then 1 else 0) := by
  unfold tBs
  by_cases h : k < bs.length
  · rw [List.take_succ_eq_append_getElem h, List.countP_append, List.getElem?_eq_getElem h, Option.getD_some]
    cases hb : bs[k] <;> simp [hb]
  · rw [List.take_of_length_le (by omega), List.take_of_length_le (by omega), List.getElem?_eq_none (by omega)]
    simp
theorem row8_bs (bs : List Bool) : Row8 (fBs bs) (tBs bs) := ⟨fun k => ⟨(bs[k]?).getD false, rfl, tBs_succ bs k⟩, fun k => by
  unfold tBs
  have h1 := List.countP_le_length (p := id) (l := bs.take k)
  rw [List.length_take] at h1
  omega⟩
theorem fBs_snoc (bs : List Bool) (b : Bool) : (List.range (bs.length + 1)).map (fBs (bs ++ [b])) = (List.range bs.length).map (fBs bs) ++ [itIt 0 ((bs.length : Int) + 1) (tBs bs bs.length) b] := by
  rw [List.range_succ, List.map_append]
  congr 1
  · apply List.map_congr_left
    intro k hk
    have hk' : k < bs.length := by simpa using hk
    unfold fBs tBs
    rw [List.take_append_of_le_length (by omega), List.getElem?_append_left hk']
  · simp only [List.map_cons, List.map_nil]
    unfold fBs tBs
    rw [List.take_append_of_le_length (Nat.le_refl _)]
    simp
theorem tBs_snoc (bs : List Bool) (b : Bool) : tBs (bs ++ [b]) (bs.length + 1) = tBs bs bs.length + (if b = true then 1 else 0) := by
  rw [tBs_succ]
  unfold tBs
  rw [List.take_append_of_le_length (Nat.le_refl _)]
  simp
theorem wrsSame_id (ws : List Wr) : wrsSame ws ws = true := by
  induction ws with
  | nil => rfl
  | cons x xs ih => simp [wrsSame, wrSame, ih]
theorem itsSame_eq : ∀ {xs ys : List Iv}, its xs = its ys → itsSame xs ys = true
  | [], [], _ => rfl
  | [], y :: ys, h => by simp [its] at h
  | x :: xs, [], h => by simp [its] at h
  | x :: xs, y :: ys, h => by
    simp only [its, List.map_cons, List.cons.injEq] at h
    have h1 : itSame x.it y.it = true := by rw [h.1]; simp [itSame, wrsSame_id]
    have h2 : itsSame xs ys = true := itsSame_eq h.2
    simp [itsSame, h1, h2]
theorem range_cat {a b : Nat} (h : a ≤ b) : List.range a ++ List.range' a (b - a) = List.range b := by
  apply List.ext_getElem
  · simp; omega
  · intro i h1 h2
    rw [List.getElem_append]
    split
    · simp
    · rename_i h3
      rw [List.length_range] at h3
      simp
      omega
def metCs (M : Nat → Bool) : Array Value := #[.bool (M 0), .bool (M 1), .bool (M 2), .bool (M 3), .bool (M 4), .bool (M 5), .bool (M 6), .bool (M 7), .bool false]
theorem metCs_get {M : Nat → Bool} (h8 : ∀ n, 8 ≤ n → M n = false) {k : Nat} (hk : k < 9) : (metCs M)[k]? = some (.bool (M k)) := by
  obtain rfl | rfl | rfl | rfl | rfl | rfl | rfl | rfl | rfl : k = 0 ∨ k = 1 ∨ k = 2 ∨ k = 3 ∨ k = 4 ∨ k = 5 ∨ k = 6 ∨ k = 7 ∨ k = 8 := by omega
  all_goals first
    | rfl
    | (rw [h8 8 (by omega)]; rfl)
theorem metCs_set {M : Nat → Bool} {k : Nat} (hk : k < 8) : (metCs M).setIfInBounds k (.bool true) = metCs (setM8 M k) := by
  obtain rfl | rfl | rfl | rfl | rfl | rfl | rfl | rfl : k = 0 ∨ k = 1 ∨ k = 2 ∨ k = 3 ∨ k = 4 ∨ k = 5 ∨ k = 6 ∨ k = 7 := by omega
  all_goals simp [metCs, setM8]
set_option maxRecDepth 100000 in
set_option maxHeartbeats 16000000 in
theorem intakeOrders_walk (sv : Int) (A0 : Option Addr) (c0 : Nat) (ks : List Int) (w : World) (hsv : 0 ≤ sv ∧ sv ≤ 65535) (hA : RowsAt w w.heap.size 5 1 (fun n => [Value.int .u8 n]) A0 ks) (hk : ∀ x ∈ ks, 0 ≤ x ∧ x ≤ 255) (hl0 : ks.length ≤ 9223372036854775807) :
    Calls Try.prog 17 #[.slice A0 ks.length c0, .int .u16 sv] w fun e w' => e = .returned (.bool true) ∧ Ext w w' := by
  have HA := Lib.hid hA
  have HK := Lib.hid hk
  have HSV := Lib.hid hsv
  clear hA hk hsv
  go_enter Try.func17, Try.ntmps17
  go_wp2_with fail
  refine (known20_any w).mono ?_
  rintro e w1 ⟨rfl, x1⟩
  by_cases h40 : ks.length ≤ 40
  · go_wp2_with fail
    refine (refChain_any 3 w1 (by decide) (by decide)).mono ?_
    rintro e w2 ⟨A, c, rs, rfl, hm, hM, x2⟩
    have HM := Lib.hid hm
    have hl : rs.length ≤ 9223372036854775807 := by rw [← mat_length, hm]; decide
    have HL := Lib.hid hl
    clear hm hl
    go_wp2_with fail
    refine (intNew_any A c rs 2 w2 (hM.up x2.size)).mono ?_
    rintro e w3 ⟨m, rfl, h, x3⟩
    have x := ext_trans (ext_trans x1 x2) x3
    have HB := Lib.hid (ext_trans x1 x2).size
    obtain ⟨g0, hg0⟩ : ∃ g0, g0 = m.ga := ⟨_, rfl⟩
    rw [← hg0]
    have hga : Hid (m.ga = g0) := hg0.symm
    clear hg0
    generalize w2.heap.size = B at h HB
    clear hM x1 x2 x3
    have H3 := Lib.hid (And.intro h (And.intro hga.out x))
    have hB3 := h.base_le
    clear h hga x
    go_wp2_with fail
    go_loopw [6, 7, 8] (fun o t i wr => ∃ (bs : List Bool) (xs : List Iv), i = .int .i64 ((bs.length : Int) + 1) ∧ t = .int .i64 (tBs bs bs.length) ∧ bs.length ≤ 8 ∧ Own elIv wr w3.heap.size o xs ∧ Hid (its xs = (List.range bs.length).map (fBs bs)) ∧ (∀ z ∈ xs, IvOk wr B z) ∧ Ext w3 wr) (fun _ _ i _ => (9 - intOf i).toNat)
    case atStart => exact ⟨[], [], rfl, rfl, by simp, Own.nil _ _, rfl, by simp, Below.refl _ _⟩
    case round =>
      obtain ⟨bs, xs, rfl, rfl, hbl, hown, HI, hok, hx⟩ := hrel
      obtain ⟨Ao, co, rfl⟩ := hown.form
      have hxl : xs.length = bs.length := by rw [← its_length, HI.out, List.length_map, List.length_range]
      have HXL := Lib.hid hxl
      have hR := row8_bs bs
      have HT := Lib.hid (hR.low bs.length)
      clear hR hxl
      have hxl8 : xs.length ≤ 8 := by rw [HXL.out]; exact hbl
      by_cases hlt : bs.length < 8
      · have hsvs := HSV.out
        go_upto_region 11 with fail
        go_cut [9] (fun s wc => (∃ b, s = .bool b) ∧ wr = wc)
        case first =>
          go_wp2
          go_meet
          exact ⟨⟨_, rfl⟩, rfl⟩
        case rest =>
          obtain ⟨⟨b, rfl⟩, rfl⟩ := hcut
          clear hsvs
          go_wp2_with fail
          refine (it20_any _ 0 ((bs.length : Int) + 1) (tBs bs bs.length) b).mono ?_
          rintro e wi ⟨Ai, ci, rfl, hokx, xi⟩
          have HBk := Lib.hid (rows_block (E := elIv) (B := B) (⟨itIt 0 ((bs.length : Int) + 1) (tBs bs bs.length) b, Ai, ci⟩ : Iv) (Blk.new wi 33 (Iv.cells ⟨itIt 0 ((bs.length : Int) + 1) (tBs bs bs.length) b, Ai, ci⟩).toArray))
          have HO := Lib.hid ((hown.ext xi).ext (ext_alloc wi (.cells (Iv.cells ⟨itIt 0 ((bs.length : Int) + 1) (tBs bs bs.length) b, Ai, ci⟩).toArray 33)))
          have xi2 : Ext wr (wi.alloc (.cells (Iv.cells ⟨itIt 0 ((bs.length : Int) + 1) (tBs bs bs.length) b, Ai, ci⟩).toArray 33)) := ext_trans xi (ext_alloc _ _)
          have hsz := hx.size
          have hsz2 := xi2.size
          have hlow := HT.out
          clear hown
          go_upto_region 13 with (at_builtin; refine wpList_append elIv rfl _ _ rfl w3.heap.size (.slice Ao xs.length co) xs rfl HO.out _ 1 [(⟨itIt 0 ((bs.length : Int) + 1) (tBs bs bs.length) b, Ai, ci⟩ : Iv)] rfl B HBk.out (by show _ * 56 ≤ _; simp; omega) (by simp; omega) (Nat.le_trans hsz hsz2) ?_; intro A4 c4 w4 hown4 hg4 hat4)
          have hk4 : Keeps B [33] (wi.alloc (.cells (Iv.cells ⟨itIt 0 ((bs.length : Int) + 1) (tBs bs bs.length) b, Ai, ci⟩).toArray 33)) w4 := HO.out.keeps hg4 hB3
          have HF : Hid (Own elIv w4 w3.heap.size (.slice A4 (xs ++ [(⟨itIt 0 ((bs.length : Int) + 1) (tBs bs bs.length) b, Ai, ci⟩ : Iv)]).length c4) (xs ++ [(⟨itIt 0 ((bs.length : Int) + 1) (tBs bs bs.length) b, Ai, ci⟩ : Iv)]) ∧ its (xs ++ [(⟨itIt 0 ((bs.length : Int) + 1) (tBs bs bs.length) b, Ai, ci⟩ : Iv)]) = (List.range (bs ++ [b]).length).map (fBs (bs ++ [b])) ∧ (∀ z ∈ xs ++ [(⟨itIt 0 ((bs.length : Int) + 1) (tBs bs bs.length) b, Ai, ci⟩ : Iv)], IvOk w4 B z) ∧ Ext w3 w4) := by
            refine ⟨hown4, ?_, fun z hz => ?_, (ext_trans hx xi2).grown hg4 (Nat.le_trans hsz hsz2) (fun k hk => (HO.out.typed hk).1)⟩
            · rw [List.length_append, List.length_singleton, fBs_snoc, its_append, HI.out]; rfl
            · rcases List.mem_append.1 hz with hz | hz
              · exact ((hok z hz).ext xi2).keeps hk4 (by decide)
              · have e1 : z = (⟨itIt 0 ((bs.length : Int) + 1) (tBs bs bs.length) b, Ai, ci⟩ : Iv) := by simpa using hz
                subst e1
                exact ((hokx B).ext (ext_alloc _ _)).keeps hk4 (by decide)
          clear hown4 hg4 hat4 HO HBk hok hx hk4 xi xi2 hokx hsz hsz2
          have hwr : IntKind.i64.wrap (tBs bs bs.length + 1) = tBs bs bs.length + 1 := IntWalk.i64_in _ (by omega)
          have hn := tBs_snoc bs b
          have HN := Lib.hid hn
          clear hn hlow
          cases b
          · go_wp2_with fail
            go_roundw
            case rel => exact ⟨bs ++ [false], _, by simp, by rw [List.length_append, List.length_singleton, HN.out]; simp, by simp; omega, (by simpa using HF.out.1), HF.out.2.1, HF.out.2.2.1, HF.out.2.2.2⟩
            case measure => simp [intOf]; omega
          · go_wp2_with fail
            go_roundw
            case rel => exact ⟨bs ++ [true], _, by simp, by rw [List.length_append, List.length_singleton, HN.out]; rfl, by simp; omega, (by simpa using HF.out.1), HF.out.2.1, HF.out.2.2.1, HF.out.2.2.2⟩
            case measure => simp [intOf]; omega
      · have hb8 : bs.length = 8 := by omega
        have hxl : xs.length = 8 := by rw [HXL.out]; exact hb8
        have HX8 := Lib.hid hxl
        have HB8 := Lib.hid hb8
        clear hxl hlt hbl hxl8
        go_upto_region 16 with fail
        obtain ⟨V, hV⟩ : ∃ V, V = wr.alloc (.cells #[.bool false, .bool false, .bool false, .bool false, .bool false, .bool false, .bool false, .bool false, .bool false] 114) := ⟨_, rfl⟩
        have xV : Ext wr V := by rw [hV]; exact ext_alloc _ _
        have bV : Blk V wr.heap.size 114 (metCs (fun _ => false)) := by rw [hV]; exact Blk.new _ _ _
        rw [← hV]
        clear hV
        obtain ⟨gm, hgm⟩ : ∃ gm, gm = wr.heap.size := ⟨_, rfl⟩
        rw [← hgm] at bV ⊢
        have xx : Ext w3 V := ext_trans hx xV
        have HS := Lib.hid (And.intro (H3.out.1.ext xx) (And.intro H3.out.2.1 (And.intro IntInv.new (And.intro (OrdInv.new (f := fBs bs) (T := tBs bs) (by simp [tBs])) (ext_trans H3.out.2.2 xx)))))
        have hnm : ¬ IntOwn m gm := fun e => by have := (H3.out.1.own_lt e).2; have := hx.size; omega
        have HMT := Lib.hid (And.intro bV hnm)
        have hown8 := hown.ext xV
        have hdis8 : ∀ b, (Value.slice Ao xs.length co).ownBlock = some b → ¬ IntOwn m b := fun b hb e => by have h1 := (H3.out.1.own_lt e).2; have h2 := (hown.typed hb).1; omega
        have HIT := Lib.hid (And.intro hown8 (And.intro (fun z hz => (hok z hz).ext xV : ∀ z ∈ xs, IvOk V B z) hdis8))
        have hb48 : ∀ b, (Value.slice Ao xs.length co).ownBlock = some b → b < V.heap.size := fun b hb => (hown8.blk' hb).2
        have HLT8 := Lib.hid (And.intro (show gm < V.heap.size from bV.lt) (And.intro hb48 (And.intro (show B ≤ V.heap.size from Nat.le_trans hB3 xx.size) (show B ≤ gm by have := hx.size; omega))))
        have HIT0 := Lib.hid HI.out
        rw [hb8] at HIT0
        clear hown8 hdis8 hb48 bV hnm xV xx hgm hown hok hx hb8 HI HT hB3 HXL
        clear wr
        go_wp2_with fail
        go_loopw [11, 12] (fun o i wr => ∃ (q : Nat) (M : Nat → Bool) (m : IntMem) (s : IntSt) (zs : List Iv), i = .int .i64 (q : Int) ∧ q ≤ ks.length + 8 ∧ V.heap.size ≤ wr.heap.size ∧ Own elIv wr V.heap.size o zs ∧ Hid ((∀ n, 8 ≤ n → M n = false) ∧ (∀ k, k < 8 → ks.length + k < q → M k = true) ∧ its zs = (List.range (preM M)).map (fBs bs)) ∧
          Hid (IntAt wr B A c rs 2 m s ∧ m.ga = g0 ∧ IntInv s q ∧ OrdInv (fBs bs) (tBs bs) M (preM M) s ∧ Ext w wr) ∧ Hid (Blk wr gm 114 (metCs M) ∧ ¬ IntOwn m gm) ∧ Hid (Own elIv wr w3.heap.size (.slice Ao xs.length co) xs ∧ (∀ z ∈ xs, IvOk wr B z) ∧ ∀ b, (Value.slice Ao xs.length co).ownBlock = some b → ¬ IntOwn m b) ∧
          Hid ((∀ b, o.ownBlock = some b → ¬ IntOwn m b) ∧ ∀ z ∈ zs, IvOk wr B z)) (fun _ i _ => (ks.length + 8 - (intOf i).toNat))
        case atStart => exact ⟨0, fun _ => false, m, IntSt.new, [], rfl, Nat.zero_le _, Nat.le_refl _, Own.nil _ _, ⟨fun _ _ => rfl, fun k _ hk => by omega, rfl⟩, HS, HMT, HIT, ⟨(fun b hb => by cases hb), by simp⟩⟩
        case round =>
          clear HS HMT HIT
          clear m H3
          obtain ⟨q, M, m, s, zs, rfl, hq, hVr, hown, HM0, HS, HMT, HIT, HZ⟩ := hrel
          obtain ⟨Az, cz, rfl⟩ := hown.form
          by_cases hlt : q < ks.length + 8
          · go_upto_region 21 with fail
            have hx0 : Ext w wr := HS.out.2.2.2.2
            go_cut [58] (fun s wc => s = .bool (decide (q < ks.length)) ∧ wr = wc)
            case first =>
              by_cases hqk : q < ks.length
              · go_wp2
                go_meet
                exact ⟨congrArg Value.bool (by simp; omega), rfl⟩
              · go_wp2
                go_meet
                exact ⟨congrArg Value.bool (by simp; omega), rfl⟩
            obtain ⟨rfl, rfl⟩ := hcut
            rename_i hkk
            refine hkk _ _ ?_
            clear hkk
            go_cut [13] (fun s wc => (∃ k : Nat, k < 8 ∧ s = .int .i64 (k : Int) ∧ (ks.length ≤ q → k = q - ks.length)) ∧ wr = wc)
            case first =>
              by_cases hqk : q < ks.length
              · have hdq : decide (q < ks.length) = true := decide_eq_true hqk
                obtain ⟨ad, hA0, _, hcell⟩ := (RowsAt.ext HA.out hx0) q hqk
                subst hA0
                have p0 := hcell 0 _ rfl
                rw [Nat.mul_one, add_zero] at p0
                have hk8 := HK.out _ (List.getElem_mem hqk)
                obtain ⟨kv, hkv⟩ : ∃ kv, kv = ks[q] := ⟨_, rfl⟩
                rw [← hkv] at p0 hk8
                clear hcell hkv
                have m1 := Int.emod_nonneg kv (b := 8) (by omega)
                have m2 := Int.emod_lt_of_pos kv (b := 8) (by omega)
                obtain ⟨hk8a, hk8b⟩ := hk8
                go_wp2
                go_meet
                exact ⟨⟨(kv % 8).toNat, by omega, congrArg (Value.int .i64) (by omega), fun h => absurd h (by omega)⟩, rfl⟩
              · have hdq : decide (q < ks.length) = false := decide_eq_false hqk
                go_wp2
                go_meet
                exact ⟨⟨q - ks.length, by omega, congrArg (Value.int .i64) (by omega), fun _ => rfl⟩, rfl⟩
            case rest =>
              obtain ⟨⟨k, hk8, rfl, hkq⟩, rfl⟩ := hcut
              have HKQ := Lib.hid hkq
              clear hkq hx0
              obtain ⟨h, hga', hinv, HI, x⟩ := HS.out
              have hga : Hid (m.ga = g0) := hga'
              have HRI := Lib.hid HI
              obtain ⟨bV, hnV⟩ := HMT.out
              obtain ⟨hit, hitok, hitd⟩ := HIT.out
              obtain ⟨hzd, hzok⟩ := HZ.out
              have hxl : k < xs.length := by rw [HX8.out]; exact hk8
              have hitR : RowsIv wr B Ao xs := hit.rows (B := B)
              obtain ⟨ad, hA1, p0, p1, p2, p3, p4⟩ := RowsIv.get hitR hxl
              have hxok := hitok _ (List.getElem_mem hxl)
              have hxit : xs[k].it = fBs bs k := by
                have e1 : (its xs)[k]? = some xs[k].it := by simp [its, List.getElem?_eq_getElem hxl]
                rw [HIT0.out, List.getElem?_map, List.getElem?_range hk8] at e1
                exact (Option.some.inj e1).symm
              have e0 : Ao = some ad := hA1
              subst e0
              obtain ⟨y, hy⟩ : ∃ y, y = xs[k] := ⟨_, rfl⟩
              rw [← hy] at p0 p1 p2 p3 p4 hxok hxit
              have HXIT := Lib.hid hxit
              clear hy hxit hitR hga' HI HS HMT HIT HZ
              obtain ⟨⟨yl, yn, yt, ysh, yws⟩, Ay, cy⟩ := y
              dsimp only at p0 p1 p2 p3 p4
              have HST := Lib.hid (HRI.out.step HM0.out.1 (row8_bs bs) hk8)
              have hq48 : q < 48 := by omega
              go_wp2_with fail
              have hp := intPut_any h ⟨⟨yl, yn, yt, ysh, yws⟩, Ay, cy⟩ hxok hinv (by omega) HL.out
              rw [hga.out] at hp
              refine hp.mono ?_
              clear hp p0 p1 p2 p3 p4
              rintro e wj ⟨v, zb, m', rfl, hownb, hitsb, hzb2, h', go⟩
              obtain ⟨Ab, cb, rfl⟩ := hownb.form
              dsimp only at hitsb h'
              have hxit2 : (⟨yl, yn, yt, ysh, yws⟩ : It) = fBs bs k := HXIT.out
              rw [HM.out, hxit2] at hitsb h'
              rw [HM.out]
              have hpN : putN (lchain 3) 2 s (⟨⟨yl, yn, yt, ysh, yws⟩, Ay, cy⟩ : Iv).it = 0 := by
                show putN (lchain 3) 2 s ⟨yl, yn, yt, ysh, yws⟩ = 0
                rw [hxit2]; exact HST.out.1
              rw [hpN]
              clear hpN
              have hga' : Hid (m'.ga = g0) := go.ga.trans hga.out
              have x5 := x.trans (go.below.mono HB.out)
              replace hinv := hinv.put (lev := 2) (lchain 3) (fBs bs k)
              have hkk := go.keeps h
              have hit5 := hit.mods go.mods hitd
              have hitok5 : ∀ z ∈ xs, IvOk wj B z := fun z hz => (hitok z hz).keeps hkk (by decide)
              have hitd5 : ∀ b, (Value.slice (some ad) xs.length co).ownBlock = some b → ¬ IntOwn m' b := fun b hb => (go.free (hit.blk' hb).2 (hitd b hb)).1
              obtain ⟨hnV5, hgV5⟩ := go.free bV.lt hnV
              have bV5 : Blk wj gm 114 (metCs M) := hgV5.trans bV
              have hzd5 : ∀ b, (Value.slice Az zs.length cz).ownBlock = some b → ¬ IntOwn m' b := fun b hb => (go.free (hown.blk' hb).2 (hzd b hb)).1
              have hzok5 : ∀ z ∈ zs, IvOk wj B z := fun z hz => (hzok z hz).keeps hkk (by decide)
              have HO := Lib.hid (hown.mods go.mods hzd)
              have hzl : zs.length = preM M := by rw [← its_length, HM0.out.2.2, List.length_map, List.length_range]
              have hp8 := (preM_spec HM0.out.1).1
              have hbl : zb.length = preM (setM8 M k) - preM M := by rw [← its_length, hitsb, HST.out.2.2.1, List.length_map, List.length_range']
              have hp8' := (preM_spec (setM8_out (k := k) HM0.out.1 hk8)).1
              have hzl8 : zs.length ≤ 8 := by omega
              have hbl8 : zb.length ≤ 8 := by omega
              have HZL := Lib.hid hzl
              have HBL := Lib.hid hbl
              have hRb : RowsIv wj B Ab zb := hownb.rows (B := B)
              have HRb := Lib.hid hRb
              have hVw : V.heap.size ≤ wj.heap.size := Nat.le_trans hVr go.below.size
              clear hzl hbl hp8 hp8' hkk hit hitok hitd bV hnV hgV5 hown hzd hzok h x hga hxok HXIT hRb hownb go
              clear m
              rename IntMem => m
              have hga := hga'
              clear hga'
              go_upto_region 27 with (at_builtin; refine wpList_append elIv rfl _ _ rfl V.heap.size (.slice Az zs.length cz) zs rfl HO.out _ cb zb rfl B HRb.out (by show _ * 56 ≤ _; omega) (by omega) hVw ?_; intro A5 c5 w5 hown5 hg5 hat5)
              have MS : Mods (fun b => (Value.slice Az zs.length cz).ownBlock = some b) wj w5 := Mods.grown hg5
              have hk5 : Keeps B [33] wj w5 := HO.out.keeps hg5 HLT8.out.2.2.1
              have hzb := fun b (hb : (Value.slice Az zs.length cz).ownBlock = some b) => (HO.out.typed hb).1
              have hS5 : Hid (IntAt w5 B A c rs 2 m (putSt (lchain 3) 2 s (fBs bs k)).1 ∧ m.ga = g0 ∧ IntInv (putSt (lchain 3) 2 s (fBs bs k)).1 (q + 1) ∧ OrdInv (fBs bs) (tBs bs) (setM8 M k) (preM (setM8 M k)) (putSt (lchain 3) 2 s (fBs bs k)).1 ∧ Ext w w5) :=
                ⟨h'.mods MS hzd5 hk5 (by decide) (by decide) (by decide), hga.out, hinv, HST.out.2.1, x5.grown hg5 x5.size (fun b hb => by have h1 := hzb b hb; have h2 := HLT8.out.2.2.1; have h3 := HB.out; omega)⟩
              have bV6 : Blk w5 gm 114 (metCs M) := bV5.mods MS (fun e => by have h1 := hzb _ e; have h2 := HLT8.out.1; omega)
              have hI5 : Hid (Own elIv w5 w3.heap.size (.slice (some ad) xs.length co) xs ∧ (∀ z ∈ xs, IvOk w5 B z) ∧ ∀ b, (Value.slice (some ad) xs.length co).ownBlock = some b → ¬ IntOwn m b) :=
                ⟨hit5.mods MS (fun b hb e => by have h1 := hzb b e; have h2 := HLT8.out.2.1 b hb; omega), fun z hz => (hitok5 z hz).keeps hk5 (by decide), hitd5⟩
              have hits6 : its (zs ++ zb) = (List.range (preM (setM8 M k))).map (fBs bs) := by
                rw [its_append, HM0.out.2.2, hitsb, HST.out.2.2.1, ← List.map_append]
                rw [range_cat HST.out.2.2.2]
              have hlen6 : (zs ++ zb).length = preM (setM8 M k) := by rw [← its_length, hits6, List.length_map, List.length_range]
              have hVw5 : V.heap.size ≤ w5.heap.size := Nat.le_trans hVw MS.size
              have hZ5 : Hid ((∀ b, (Value.slice A5 (zs ++ zb).length c5).ownBlock = some b → ¬ IntOwn m b) ∧ ∀ z ∈ zs ++ zb, IvOk w5 B z) := by
                refine ⟨fun b hb => ?_, fun z hz => ?_⟩
                · rcases hat5 with e | e
                  · rw [e] at hb; exact hzd5 b hb
                  · rw [e] at hb
                    injection hb with hb
                    subst hb
                    intro hc
                    exact absurd (h'.own_lt hc).2 (Nat.lt_irrefl _)
                · rcases List.mem_append.1 hz with hz | hz
                  · exact (hzok5 z hz).keeps hk5 (by decide)
                  · exact (hzb2 z hz).keeps hk5 (by decide)
              have HL6 := Lib.hid hlen6
              have HI6 := Lib.hid hits6
              have h86 := Lib.hid (setM8_out (k := k) HM0.out.1 hk8)
              have hp6 := preM_spec h86.out
              have hM6 : ∀ j, j < 8 → ks.length + j < q + 1 → setM8 M k j = true := fun j hj hjq => by
                unfold setM8
                by_cases e : j = k
                · rw [if_pos e]
                · rw [if_neg e]
                  refine HM0.out.2.1 j hj ?_
                  have := HKQ.out
                  omega
              have HM6 := Lib.hid hM6
              have c6 := bV6.cell k
              rw [metCs_get HM0.out.1 (by omega)] at c6
              have fz6 := bV6.frozen
              have b7 : Blk (w5.setCell ⟨gm, k, none⟩ (.bool true)) gm 114 (metCs (setM8 M k)) := by
                have := bV6.set_ k (.bool true)
                rwa [metCs_set hk8] at this
              have k7 := mods_setCell w5 ⟨gm, k, none⟩ (.bool true)
              have kk7 : Keeps B [114] w5 (w5.setCell ⟨gm, k, none⟩ (.bool true)) := Keeps.of_mods k7 fun i hi => by
                have e : i = gm := hi
                subst e
                refine ⟨HLT8.out.2.2.2, fun cs' t fr hk => ?_⟩
                have h2 := bV6
                unfold Blk at h2
                rw [h2] at hk
                injection hk with hk
                injection hk with _ hk
                simp [← hk]
              have hS7 : Hid (IntAt (w5.setCell ⟨gm, k, none⟩ (.bool true)) B A c rs 2 m (putSt (lchain 3) 2 s (fBs bs k)).1 ∧ m.ga = g0 ∧ IntInv (putSt (lchain 3) 2 s (fBs bs k)).1 (q + 1) ∧ OrdInv (fBs bs) (tBs bs) (setM8 M k) (preM (setM8 M k)) (putSt (lchain 3) 2 s (fBs bs k)).1 ∧ Ext w (w5.setCell ⟨gm, k, none⟩ (.bool true))) :=
                ⟨hS5.out.1.mods k7 (fun g e => by have e' : g = gm := e; rw [e']; exact hnV5) kk7 (by decide) (by decide) (by decide), hS5.out.2.1, hS5.out.2.2.1, hS5.out.2.2.2.1, hS5.out.2.2.2.2.setCell (Nat.le_trans HB.out HLT8.out.2.2.2) _⟩
              have hM7 : Hid (Blk (w5.setCell ⟨gm, k, none⟩ (.bool true)) gm 114 (metCs (setM8 M k)) ∧ ¬ IntOwn m gm) := ⟨b7, hnV5⟩
              have hI7 : Hid (Own elIv (w5.setCell ⟨gm, k, none⟩ (.bool true)) w3.heap.size (.slice (some ad) xs.length co) xs ∧ (∀ z ∈ xs, IvOk (w5.setCell ⟨gm, k, none⟩ (.bool true)) B z) ∧ ∀ b, (Value.slice (some ad) xs.length co).ownBlock = some b → ¬ IntOwn m b) :=
                ⟨hI5.out.1.mods k7 (fun b hb e => by
                  have e' : b = gm := e
                  subst e'
                  have h1 := (hI5.out.1.typed hb).2 _ _ _ bV6
                  cases h1), fun z hz => (hI5.out.2.1 z hz).keeps kk7 (by decide), hI5.out.2.2⟩
              have hown7 : Own elIv (w5.setCell ⟨gm, k, none⟩ (.bool true)) V.heap.size (.slice A5 (zs ++ zb).length c5) (zs ++ zb) := hown5.mods k7 (fun b hb e => by
                have e' : b = gm := e
                have h1 := (hown5.typed hb).1
                have h2 := HLT8.out.1
                omega)
              have hZ7 : Hid ((∀ b, (Value.slice A5 (zs ++ zb).length c5).ownBlock = some b → ¬ IntOwn m b) ∧ ∀ z ∈ zs ++ zb, IvOk (w5.setCell ⟨gm, k, none⟩ (.bool true)) B z) :=
                ⟨hZ5.out.1, fun z hz => (hZ5.out.2 z hz).keeps kk7 (by decide)⟩
              have hVw7 : V.heap.size ≤ (w5.setCell ⟨gm, k, none⟩ (.bool true)).heap.size := Nat.le_trans hVw5 k7.size
              obtain ⟨L, hL⟩ : ∃ L, L = zs ++ zb := ⟨_, rfl⟩
              rw [← hL] at hown7 hZ7 HL6 HI6
              have hsl : zs.length + zb.length = L.length := by rw [hL, List.length_append]
              clear hL hS5 hI5 hZ5 hM6 hlen6 hits6 bV5 bV6 hown5 hg5 hat5 MS hk5 hzb h' hinv x5 hit5 hitok5 hitd5 hnV5 hzd5 hzok5 HO HZL HBL HRb hVw hitsb hzb2 hVr HKQ HM0 HRI b7 k7 kk7 hVw5 hga hzl8 hbl8
              go_upto_region 28 with fail
              rw [hsl]
              clear hsl c6 fz6
              obtain ⟨w6, hw6⟩ : ∃ w6, w6 = w5.setCell ⟨gm, k, none⟩ (.bool true) := ⟨_, rfl⟩
              rw [← hw6] at hown7 hS7 hM7 hI7 hZ7 hVw7 ⊢
              clear hw6
              obtain ⟨N, hN⟩ : ∃ N, N = setM8 M k := ⟨_, rfl⟩
              rw [← hN] at hS7 hM7 HL6 HI6 h86 hp6 HM6
              obtain ⟨P, hP⟩ : ∃ P, P = preM N := ⟨_, rfl⟩
              rw [← hP] at hS7 HL6 HI6 hp6
              have HP := Lib.hid hP
              have HP6 := Lib.hid hp6
              have hP8 := hp6.1
              clear hp6 hP hN
              have y : ∀ j, j < 9 → w6.cell? ⟨gm, j, none⟩ = some (.bool (N j)) := fun j hj => by rw [hM7.out.1.cell, metCs_get h86.out hj]
              clear HST
              have hh : Hid (lv6 (putSt (lchain 3) 2 s (fBs bs k)).1.have_ 0 = (P : Int)) := by
                show _ = _
                unfold lv6
                rw [if_pos (by omega)]
                exact hS7.out.2.2.2.1.hav
              have hLP : ((L.length : Int) != (P : Int)) = false := by rw [HL6.out]; simp
              have HLP := Lib.hid hLP
              clear hLP
              have hga : Hid (m.ga = g0) := hS7.out.2.1
              obtain ⟨s7, hs7⟩ : ∃ s7, s7 = (putSt (lchain 3) 2 s (fBs bs k)).1 := ⟨_, rfl⟩
              rw [← hs7] at hS7 hh
              clear hs7
              go_wp2_with fail
              go_loopw [16] (fun v wq => ∃ j : Nat, v = .int .i64 (j : Int) ∧ j ≤ P ∧ w6 = wq) (fun v _ => P - (intOf v).toNat)
              case atStart => exact ⟨0, rfl, Nat.zero_le _, rfl⟩
              case round =>
                obtain ⟨j, rfl, hjP, rfl⟩ := hrel
                by_cases hlj : j < P
                · have pj := y j (by omega)
                  rw [HP6.out.2.1 j hlj] at pj
                  clear y
                  go_wp2_with fail
                  go_roundw
                  case rel => exact ⟨j + 1, by go_num, hlj, trivial⟩
                  case measure => simp [intOf]; omega
                · obtain rfl : j = P := by omega
                  have pj := y j (by omega)
                  rw [HP6.out.2.2] at pj
                  clear y
                  by_cases hj8 : j < 8
                  · go_wp2_with fail
                    have hp := intHave_any hS7.out.1 0
                    rw [hga.out] at hp
                    refine hp.mono ?_
                    clear hp
                    rintro e wk ⟨rfl, rfl⟩
                    rw [hh.out]
                    have hLP := HLP.out
                    go_wp2_with fail
                    go_roundw
                    case rel => exact ⟨q + 1, N, m, s7, L, by go_num, by omega, hVw7, hown7, ⟨h86.out, HM6.out, HI6.out.trans (by rw [HP.out])⟩, (by rw [← HP.out]; exact hS7), hM7, hI7, hZ7⟩
                    case measure => simp [intOf]; omega
                  · go_wp2_with fail
                    have hp := intHave_any hS7.out.1 0
                    rw [hga.out] at hp
                    refine hp.mono ?_
                    clear hp
                    rintro e wk ⟨rfl, rfl⟩
                    rw [hh.out]
                    have hLP := HLP.out
                    go_wp2_with fail
                    go_roundw
                    case rel => exact ⟨q + 1, N, m, s7, L, by go_num, by omega, hVw7, hown7, ⟨h86.out, HM6.out, HI6.out.trans (by rw [HP.out])⟩, (by rw [← HP.out]; exact hS7), hM7, hI7, hZ7⟩
                    case measure => simp [intOf]; omega
          · obtain rfl : q = ks.length + 8 := by omega
            have hp8 : preM M = 8 := by
              obtain ⟨a1, a2, a3⟩ := preM_spec HM0.out.1
              rcases Nat.lt_or_ge (preM M) 8 with hlt8 | hge
              · rw [HM0.out.2.1 _ hlt8 (by omega)] at a3; cases a3
              · omega
            have hsame : Hid (itsSame zs xs = true) := itsSame_eq (by rw [HM0.out.2.2, hp8, HIT0.out])
            have hI := HS.out.2.2.2.1
            rw [hp8] at hI
            have hcnt : Hid (s.cnt = 0) := by
              show _ = _
              rw [hI.cnt]
              unfold cntM
              rw [List.countP_eq_zero]
              intro a ha
              have ha8 : a < 8 := by simpa using ha
              have : ¬ 8 < a := by omega
              simp [this]
            have hov : Hid (lv6 s.over 0 = tBs bs bs.length) := by
              show _ = _
              unfold lv6
              rw [if_pos (by omega), HB8.out]
              exact hI.ovr
            have hrd : Hid (rdy (lchain 3) s.over 2 0 = false) := hI.ready
            have h := HS.out.1
            have x := HS.out.2.2.2.2
            have hga : Hid (m.ga = g0) := HS.out.2.1
            have hzs8 : zs.length ≤ 8 := by rw [← its_length, HM0.out.2.2, hp8, List.length_map, List.length_range]; omega
            have hRz : RowsIv wr B Az zs := hown.rows (B := B)
            have hRx : RowsIv wr B Ao xs := HIT.out.1.rows (B := B)
            have hzok := HZ.out.2
            have hxok := HIT.out.2.1
            clear hI hp8 HS HM0 HMT HIT HZ hown hlt
            go_wp2_with fail
            refine (refSameAll_any Az Ao cz co zs xs wr B B hRz hRx hzok hxok (by omega)).mono ?_
            rintro e wk ⟨rfl, xr⟩
            rw [hsame.out]
            replace h := h.ext xr
            replace x := ext_trans x xr
            clear hRz hRx hzok hxok xr
            go_wp2_with fail
            have hp := intHeld_any h
            rw [hga.out] at hp
            refine hp.mono ?_
            clear hp
            rintro e wk ⟨rfl, rfl⟩
            rw [hcnt.out]
            go_wp2_with fail
            have hp := intOver_any h 0
            rw [hga.out] at hp
            refine hp.mono ?_
            clear hp
            rintro e wk ⟨rfl, rfl⟩
            rw [hov.out]
            go_wp2_with fail
            have hp := intReady_any h 0 HL.out
            rw [hga.out] at hp
            refine hp.mono ?_
            clear hp
            rintro e wk ⟨rfl, xr⟩
            rw [HM.out, hrd.out]
            replace h := h.ext xr
            replace x := ext_trans x xr
            clear xr
            go_wp2_with fail
            go_ret
            exact ⟨rfl, x⟩
  · go_wp2_with fail
    go_ret
    exact ⟨rfl, x1⟩
end Go.Proofs.Ytdknkbpgkkakhaa
