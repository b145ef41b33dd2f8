/- The law LatticeSpoils, walked. -/
import Derived.Test.YtdknkbpgkkakhaaLat14
import Derived.Test.YtdknkbpgkkakhaaPlanF
import Derived.Test.YtdknkbpgkkakhaaLatD
namespace Go.Proofs.Ytdknkbpgkkakhaa
open Go.RowKit

theorem bit_one (x : Bool) : ∀ u ∈ bitCells x, u.oneCell' = true := by intro u hu; simp [bitCells] at hu; subst hu; rfl
def elBit : Elem Bool := ⟨bitCells, 23, 4, 1, 1, _, fun _ => rfl, bit_one, Try.underlying23, info4, rfl, by decide⟩
/-- A row of the call's own is one in a block of its own. -/
theorem row_of_own {w : World} {base : Nat} {A : Option Addr} {c : Nat} {bs : List Bool} (h : Own elBit w base (.slice A bs.length c) bs) (hn : 0 < bs.length) : ∃ q, base ≤ q ∧ (Value.slice A bs.length c).ownBlock = some q ∧ RowBlk w ⟨A, c, bs⟩ q := by
  rcases h.2 with ⟨hv, hx⟩ | ⟨g, cap, cur, hv, hg, hh, hnc, hcm, hsz, htk⟩
  · injection hv with _ h2 _
    omega
  · injection hv with h1 _ _
    subst h1
    refine ⟨g, hg, rfl, rfl, cur, hh, fun b hb => ?_⟩
    have h3 := h.cells (g := g) rfl b (.bool bs[b]) (by rw [show flat elBit.f bs = flat bitCells bs from rfl]; have := flat_get (f := bitCells) (s := 1) (fun _ => rfl) bs b hb 0 (by decide); rw [Nat.mul_one] at this; rw [show b + 0 = b from rfl] at this; rw [this]; rfl)
    have hB : Blk w g 4 cur := hh
    rw [addr_at rfl rfl, hB.cell] at h3
    exact h3

theorem spoil_diag {m : Mat} (h : lchk m = 0) {i : Nat} (hi : i < m.length) : lchk (setM m i i (!at2 m i i)) = 11 := by
  have hs := setM_square (a := i) (b := i) (x := !at2 m i i) (lchk_square h)
  have hr : at2 m i i = true := by have := dom_refl (m := m) (a := i) (by rw [levels_of m h]; exact hi); rwa [ldom_eq (by rw [levels_of m h]; exact hi) (by rw [levels_of m h]; exact hi)] at this
  have hlen : i < (m.getD i []).length := by
    have := lchk_square h
    simp only [squareB, Bool.and_eq_true, List.all_eq_true, decide_eq_true_eq, beq_iff_eq] at this
    have h2 := this.1.1 m[i] (List.getElem_mem hi)
    simp [hi]; omega
  have ho : orderedB (setM m i i (!at2 m i i)) = false := by
    refine ordered_no (a := i) (b := i) (by rw [setM_length]; exact hi) (by rw [setM_length]; exact hi) ?_
    rw [okPair, okTwo, at2_set_same hi hlen, hr]; simp
  simp [lchk, hs, ho]
theorem spoil_back {m : Mat} (h : lchk m = 0) {i j : Nat} (hi : i < m.length) (hj : j < m.length) (hne : i ≠ j) (hb : at2 m j i = true) : lchk (setM m i j (!at2 m i j)) = 11 := by
  have hs := setM_square (a := i) (b := j) (x := !at2 m i j) (lchk_square h)
  have hlv := levels_of m h
  have hr : at2 m i j = false := by
    cases hc : at2 m i j
    · rfl
    · exfalso
      exact hne (dom_anti (m := m) (by rw [ldom_eq (by omega) (by omega)]; exact hc) (by rw [ldom_eq (by omega) (by omega)]; exact hb))
  have hlen : j < (m.getD i []).length := by
    have := lchk_square h
    simp only [squareB, Bool.and_eq_true, List.all_eq_true, decide_eq_true_eq, beq_iff_eq] at this
    have h2 := this.1.1 m[i] (List.getElem_mem hi)
    simp [hi]; omega
  have ho : orderedB (setM m i j (!at2 m i j)) = false := by
    refine ordered_no (a := i) (b := j) (by rw [setM_length]; exact hi) (by rw [setM_length]; exact hj) ?_
    rw [okPair, okTwo, at2_set_same hi hlen, at2_set_ne (.inl hne), hr, hb]
    simp [hne]
  simp [lchk, hs, ho]
theorem spoil_else {m : Mat} (h : lchk m = 0) {i j : Nat} (hi : i < m.length) (hj : j < m.length) : lchk (setM m i j (!at2 m i j)) = 11 ∨ (lchk (setM m i j (!at2 m i j)) = 0 ∧ ldom (setM m i j (!at2 m i j)) i j = !ldom m i j) := by
  have hs := setM_square (a := i) (b := j) (x := !at2 m i j) (lchk_square h)
  have hlv := levels_of m h
  have hlen : j < (m.getD i []).length := by
    have := lchk_square h
    simp only [squareB, Bool.and_eq_true, List.all_eq_true, decide_eq_true_eq, beq_iff_eq] at this
    have h2 := this.1.1 m[i] (List.getElem_mem hi)
    simp [hi]; omega
  by_cases ho : orderedB (setM m i j (!at2 m i j)) = true
  · right
    have h0 : lchk (setM m i j (!at2 m i j)) = 0 := by simp [lchk, hs, ho]
    refine ⟨h0, ?_⟩
    have hl2 := levels_of _ h0
    rw [setM_length] at hl2
    rw [ldom_eq (by omega) (by omega), ldom_eq (by omega) (by omega), at2_set_same hi hlen]
  · left; simp [lchk, hs, ho]

section
variable {ops : Array Oper}
/-- An operation whose guard's own operation was passed by is passed by. -/
theorem wanted_gone {dst : Option Tmp} {op : Op} {ty : TypeId} {pos : String} {after : Array Edge} {j : Nat} {c : Bool} {tmps : Array Value} {oj : Oper} {d : Nat} (hj : ops[j]? = some oj) (hd : oj.dst = some d) (hv : tmps[d]? = some undef) :
    Region.wanted ⟨dst, op, ty, pos, after, some (j, c)⟩ (yielded ops tmps) = false := by
  have : yielded ops tmps j = none := by simp [yielded, hj, hd, hv, undef]
  simp only [Region.wanted, this]
  rfl
end

set_option maxRecDepth 100000 in
set_option maxHeartbeats 8000000 in
theorem latticeSpoils_walk (A : Option Addr) (c : Nat) (rs : List Rw) (a b d : Int) (w : World) (hM : MatAt w w.heap.size A rs) (hl : rs.length ≤ 9223372036854775807) (ha : 0 ≤ a ∧ a ≤ 255) (hb : 0 ≤ b ∧ b ≤ 255) (hd : 0 ≤ d ∧ d ≤ 255) :
    Calls Try.prog 8 #[.agg #[.slice A rs.length c], .int .u8 a, .int .u8 b, .int .u8 d] w fun e w' => e = .returned (.bool true) ∧ Ext w w' := by
  obtain ⟨ha0, ha1⟩ := ha
  obtain ⟨hb0, hb1⟩ := hb
  obtain ⟨hd0, hd1⟩ := hd
  have b0 : Blk (w.alloc (.cells #[.slice A rs.length c] 53)) w.heap.size 53 #[.slice A rs.length c] := Blk.new _ _ _
  have x0 := ext_alloc w (.cells #[.slice A rs.length c] 53)
  have hM0 := hM.ext x0
  clear hM
  go_enter Try.func8, Try.ntmps8
  go_upto_region 1 with fail
  generalize w.alloc (.cells #[.slice A rs.length c] 53) = w0 at b0 x0 hM0 ⊢
  obtain ⟨B, hB⟩ : ∃ B, B = w.heap.size := ⟨_, rfl⟩
  rw [← hB] at b0 hM0 ⊢
  clear hB
  go_wp2_with fail
  refine (known1_any _).mono ?_
  rintro e w1 ⟨rfl, y⟩
  have P : Ext w0 w1 := y
  have ck := (b0.ext P).cell 0
  simp only [List.getElem?_toArray, List.getElem?_cons_zero] at ck
  clear y
  go_wp2_with fail
  refine (few1_any A c rs _ _ (hM0.ext P) hl).mono ?_
  rintro e w2 ⟨rfl, y⟩
  replace P := ext_trans P y
  replace ck := ext_cell y ck
  clear y
  cases hf : fewMat 10 (mat rs)
  · go_wp2
    go_ret
    exact ⟨rfl, ext_trans x0 P⟩
  · clear hf
    go_wp2_with fail
    refine (check_any A c rs _ _ (hM0.ext P) hl).mono ?_
    rintro e w3 ⟨rfl, y⟩
    replace P := ext_trans P y
    replace ck := ext_cell y ck
    clear y
    by_cases hk : lchk (mat rs) = 0
    · have HK := Lib.hid hk
      rw [hk]
      clear hk
      have HLV : Hid (levels (mat rs) = rs.length) := by show _ = _; rw [levels_of _ HK.out, mat_length]
      have hn6 : rs.length ≤ 6 := by have := levels_le (mat rs); rw [HLV.out] at this; exact this
      have hn1 : 1 ≤ rs.length := (sq_of (lchk_square HK.out)).2.1
      have HSQ := Lib.hid (sq_of (lchk_square HK.out)).1
      replace b0 := b0.ext P
      replace hM0 := hM0.ext P
      replace x0 := ext_trans x0 P
      clear P
      go_upto_region 6 with fail
      clear ck
      go_cut [10, 11, 12] (fun s10 s11 s12 wc => (∃ i j k : Nat, i < rs.length ∧ j < rs.length ∧ k < rs.length ∧ s10 = .int .i64 (i : Int) ∧ s11 = .int .i64 (j : Int) ∧ s12 = .int .i64 (k : Int)) ∧ Ext w3 wc)
      case first =>
        go_wp2
        have m1 := Int.emod_nonneg a (b := (rs.length : Int)) (by omega)
        have m2 := Int.emod_lt_of_pos a (b := (rs.length : Int)) (by omega)
        have m3 := Int.emod_nonneg b (b := (rs.length : Int)) (by omega)
        have m4 := Int.emod_lt_of_pos b (b := (rs.length : Int)) (by omega)
        have m5 := Int.emod_nonneg d (b := (rs.length : Int)) (by omega)
        have m6 := Int.emod_lt_of_pos d (b := (rs.length : Int)) (by omega)
        go_quiet (fail)
        go_wp2
        go_meet
        exact ⟨⟨(a % rs.length).toNat, (b % rs.length).toNat, (d % rs.length).toNat, by omega, by omega, by omega, congrArg (Value.int .i64) (by omega), congrArg (Value.int .i64) (by omega), congrArg (Value.int .i64) (by omega)⟩, ext_drewN _ _⟩
      case rest =>
        obtain ⟨⟨i, j, k, hi, hj, hk, rfl, rfl, rfl⟩, P⟩ := hcut
        replace b0 := b0.ext P
        replace hM0 := hM0.ext P
        replace x0 := ext_trans x0 P
        clear P
        have ck := b0.cell 0
        simp only [List.getElem?_toArray, List.getElem?_cons_zero] at ck
        go_upto_region 7 with fail
        go_cut [69] (fun s69 wq => s69 = .bool false ∧ Ext wc wq)
        case first =>
          go_wp2_with fail
          refine (latAbove_any A c rs i j _ _ hM0 hl).mono ?_
          rintro e v1 ⟨rfl, y⟩
          have P : Ext wc v1 := y
          replace ck := ext_cell y ck
          clear y
          cases h1 : labove (mat rs) i j
          · have H1 := Lib.hid h1; clear h1
            go_wp2_with fail
            refine (latAbove_any A c rs i j _ _ (hM0.ext P) hl).mono ?_
            rintro e v2 ⟨rfl, y⟩
            replace P := ext_trans P y
            replace ck := ext_cell y ck
            clear y
            rw [H1.out]
            go_wp2
            go_meet
            exact ⟨rfl, P⟩
          · have H1 := Lib.hid h1; clear h1
            have H2 : Hid (labove (mat rs) j i = false) := by
              show _ = _
              cases hc : labove (mat rs) j i
              · rfl
              · exfalso
                have e1 := dom_anti (above_iff.1 H1.out).2 (above_iff.1 hc).2
                exact (above_iff.1 H1.out).1 (by rw [e1])
            go_wp2_with fail
            refine (latAbove_any A c rs j i _ _ (hM0.ext P) hl).mono ?_
            rintro e v2 ⟨rfl, y⟩
            replace P := ext_trans P y
            replace ck := ext_cell y ck
            clear y
            rw [H2.out]
            go_wp2_with fail
            refine (latAbove_any A c rs i j _ _ (hM0.ext P) hl).mono ?_
            rintro e v3 ⟨rfl, y⟩
            replace P := ext_trans P y
            replace ck := ext_cell y ck
            clear y
            rw [H1.out]
            go_wp2_with fail
            refine (latAbove_any A c rs j k _ _ (hM0.ext P) hl).mono ?_
            rintro e v4 ⟨rfl, y⟩
            replace P := ext_trans P y
            replace ck := ext_cell y ck
            clear y
            cases h3 : labove (mat rs) j k
            · clear h3
              go_wp2
              go_meet
              exact ⟨rfl, P⟩
            · have H4 := Lib.hid (above_trans H1.out h3); clear h3
              go_wp2_with fail
              refine (latAbove_any A c rs i k _ _ (hM0.ext P) hl).mono ?_
              rintro e v5 ⟨rfl, y⟩
              replace P := ext_trans P y
              replace ck := ext_cell y ck
              clear y
              rw [H4.out]
              go_wp2
              go_meet
              exact ⟨rfl, P⟩
        case rest =>
          obtain ⟨rfl, P⟩ := hcut
          replace b0 := b0.ext P
          replace hM0 := hM0.ext P
          replace x0 := ext_trans x0 P
          clear P ck
          obtain ⟨wq, rfl⟩ : ∃ wq : World, wq = wc := ⟨_, rfl⟩
          have M0 : Making2 (wq.alloc (.cells #[.slice none 0 0] 53)) wq.heap.size wq.heap.size [] none 0 [] :=
            ⟨Blk.new _ _ _, Own.nil _ _, Nat.le_refl _, by simp, by simp, rfl⟩
          have x1 := ext_alloc wq (.cells #[.slice none 0 0] 53)
          go_upto_region 10 with fail
          obtain ⟨g, hg⟩ : ∃ g, g = wq.heap.size := ⟨_, rfl⟩
          rw [← hg] at M0 ⊢
          have HG := Lib.hid hg; clear hg
          generalize wq.alloc (.cells #[.slice none 0 0] 53) = w4 at M0 x1 ⊢
          go_wp2
          go_loopw [14] (fun i wr => ∃ r : Nat, r ≤ rs.length ∧ i = .int .i64 r ∧ (∃ A c ts, Making2 wr g g ((mat rs).take r) A c ts) ∧ Ext wq wr) (fun i _ => rs.length - (intOf i).toNat)
          case atStart => exact ⟨0, Nat.zero_le _, rfl, ⟨_, _, _, M0⟩, x1⟩
          case round =>
            obtain ⟨r, hr, rfl, ⟨A2, c2, ts, HM⟩, hx⟩ := hrel
            clear M0 x1
            by_cases hlt : r < rs.length
            · have hlen : ts.length ≤ 5 := by have := HM.len; simp [mat_length] at this; omega
              obtain ⟨adr, rfl, p0⟩ := hM0.row hlt
              have hbl : rs[r].bs.length = rs.length := HSQ.out r hlt
              have HBL := Lib.hid hbl; clear hbl
              have HBR := Lib.hid (hM0.each _ (List.getElem_mem hlt))
              have c0 := b0.cell 0
              have m0 := HM.blk.cell 0
              have hgr : g + 1 ≤ wr.heap.size := HM.blk.lt
              have hgq : wq.heap.size ≤ g + 1 := by rw [HG.out]; omega
              simp only [List.getElem?_toArray, List.getElem?_cons_zero] at c0 m0
              have HXB : Hid (∀ x, Below (g + 1) wr x → Ext wq x) := fun x h => hx.trans (h.mono hgq)
              have y0 := fun x (h : Below (g + 1) wr x) => ext_cell (HXB.out x h) p0
              have y1 := fun x (h : Below (g + 1) wr x) => ext_cell (HXB.out x h) c0
              have y2 := fun x (h : Below (g + 1) wr x) => (h.cell (p := ⟨g, 0, none⟩) (Nat.lt_succ_self g)).trans m0
              clear p0 c0 m0
              go_upto_region 13 with fail
              refine wp_region_planH (.reads 0 (.reads 1 (.reads 2 (.reads 3 (.reads 4 (.reads 5 (.reads 6 (.makes 7 (.makes 8 (.makes 9 (.reads 10 (.turns 11 (.done))))))))))))) (by kernel_rfl) (by kernel_rfl) (fun x => Below (g + 1) wr x) (((ext_drewN wr 1).mono hgr)) (fun ops HOPS => ?_)
              (refine segH_pure _ _ _ _ _ _ (hid_get HOPS 0 _ rfl) rfl wanted_none (fun _ _ _ _ h => h) ?_; intro K hK; go_big_quiet_op; go_big_quiet_on)
              (refine segH_load _ _ _ _ _ _ _ _ _ (hid_get HOPS 1 _ rfl) wanted_none rfl (fun _ _ _ _ h => h) (fun y hy => by go_simp; try with_reducible rfl) ?_; simp only [Act.put, List.setIfInBounds_toArray, List.set_cons_zero, List.set_cons_succ])
              (refine segH_pure _ _ _ _ _ _ (hid_get HOPS 2 _ rfl) rfl wanted_none (fun _ _ _ _ h => h) ?_; intro K hK; go_big_quiet_op; go_big_quiet_on)
              (refine segH_load _ _ _ _ _ _ _ _ _ (hid_get HOPS 3 _ rfl) wanted_none rfl (fun _ _ _ _ h => h) (fun y hy => by go_simp; try with_reducible rfl) ?_; simp only [Act.put, List.setIfInBounds_toArray, List.set_cons_zero, List.set_cons_succ])
              (refine segH_pure _ _ _ _ _ _ (hid_get HOPS 4 _ rfl) rfl wanted_none (fun _ _ _ _ h => h) ?_; intro K hK; go_big_quiet_op; go_big_quiet_on)
              (refine segH_pure _ _ _ _ _ _ (hid_get HOPS 5 _ rfl) rfl wanted_none (fun _ _ _ _ h => h) ?_; intro K hK; go_big_quiet_op; go_big_quiet_on)
              (refine segH_load _ _ _ _ _ _ _ _ _ (hid_get HOPS 6 _ rfl) wanted_none rfl (fun _ _ _ _ h => h) (fun y hy => by go_simp; try with_reducible rfl) ?_; simp only [Act.put, List.setIfInBounds_toArray, List.set_cons_zero, List.set_cons_succ])
              refine segH_makes _ _ _ _ _ _ (hid_get HOPS 7 _ rfl) wanted_none (fun K hK => ?_)
              have P : Ext wr wr.drew := ext_drewN wr 1
              have HLR : Hid (rs[r].bs.length ≤ 6 ∧ 0 < rs[r].bs.length) := by show _ ∧ _; rw [HBL.out]; omega
              refine wp_append elBit _ _ rfl (g + 1) (.slice none 0 0) [] rfl (Own.nil _ _) rs[r].A rs[r].c rs[r].bs rfl B (RowsAt.ext HBR.out (ext_trans hx P)) (by have := HLR.out; show _ * 1 ≤ _; simp; omega) (by have := HLR.out; simp; omega) (Nat.le_trans hgr P.size) ?_
              intro A7 c7 w7 hown7 hg7 hat7
              have e7 : Ext wr.drew w7 := (Mods.grown hg7).below (Nat.le_refl _) (fun k hk => by simp [Value.ownBlock] at hk)
              obtain ⟨q, hq, hoq, hrow⟩ := row_of_own hown7 HLR.out.2
              have hq2 : q = wr.heap.size := by
                rcases hat7 with e | e
                · skip
                  rw [hoq] at e; simp [Value.ownBlock] at e
                · skip
                  rw [hoq] at e; exact Option.some.inj e
              replace P := ext_trans P e7
              refine hK _ _ (fun x => Below (g + 1) wr x) (P.mono hgr) (fun _ h => h) ?_
              clear hK hg7 hat7 e7 hoq
              simp only [Act.put, List.setIfInBounds_toArray, List.set_cons_zero, List.set_cons_succ, List.nil_append]
              refine segH_makes _ _ _ _ _ _ (hid_get HOPS 8 _ rfl) wanted_none (fun K hK => ?_)
              go_big_op
              have e8 := ext_alloc w7 (.cells #[.slice A7 rs[r].bs.length c7] 23)
              have HB := Lib.hid (rows_rw (w := w7) (B := g) ⟨A7, c7, rs[r].bs⟩)
              have HM2 := Lib.hid (HM.ext (ext_trans P e8))
              have HR2 := Lib.hid (hrow.ext e8)
              refine hK _ _ (fun x => Below (g + 1) wr x) ((ext_trans P e8).mono hgr) (fun _ h => h) ?_
              clear hK hrow hown7
              refine segH_makes _ _ _ _ _ _ (hid_get HOPS 9 _ rfl) wanted_none (fun K hK => ?_)
              have P8 := ext_trans P e8
              refine wp_append elRw _ _ rfl (g + 1) (.slice A2 ts.length c2) ts rfl HM2.out.own _ 1 [⟨A7, c7, rs[r].bs⟩] rfl g HB.out (by show _ * 24 ≤ _; simp; omega) (by simp; omega) (Nat.le_trans hgr P8.size) ?_
              intro A9 c9 w9 hown9 hg9 hat9
              have hnA : A7 ∉ ts.map Rw.A := by
                intro hc
                obtain ⟨x, hxm, hxe⟩ := List.mem_map.1 hc
                obtain ⟨q', h1, h2⟩ := HM.each x hxm
                have h3 := HR2.out.1
                rw [← hxe, h2.1] at h3
                have h4 : q' = q := by injection h3 with h3; injection h3
                have := h2.lt
                omega
              obtain ⟨s1, s2, s3, s4⟩ := HM2.out.step (r := ⟨A7, c7, rs[r].bs⟩) (q := q) (by omega) HR2.out hnA hown9 hg9
              have b9 : Below (g + 1) (w7.alloc (.cells #[.slice A7 rs[r].bs.length c7] 23)) w9 := (Mods.grown hg9).below (Nat.le_trans hgr P8.size) (fun b hb => (HM2.out.own.typed hb).1)
              refine hK _ _ (fun x => Below (g + 1) wr x) ((P8.mono hgr).trans b9) (fun _ h => h) ?_
              have HS1 := Lib.hid s1
              have HS2 := Lib.hid s2
              clear hK s1 s2 hown9 hg9 hat9 hnA b9 HM2 HB
              simp only [Act.put, List.setIfInBounds_toArray, List.set_cons_zero, List.set_cons_succ, List.length_append, List.length_cons, List.length_nil]
              (refine segH_pure _ _ _ _ _ _ (hid_get HOPS 10 _ rfl) rfl wanted_none (fun _ _ _ _ h => h) ?_; intro K hK; go_big_quiet_op; go_big_quiet_on)
              refine segH_turns _ _ _ _ _ _ (hid_get HOPS 11 _ rfl) wanted_none (fun K hK => ?_)
              go_big_op
              refine hK _ _ (fun _ => True) trivial ?_
              clear hK
              refine seg_done ?_
              clear HOPS
              clear y0 y1 y2 s3 s4
              go_wp2
              go_roundw
              case rel =>
                refine ⟨r + 1, hlt, by go_num, ⟨A9, c9, ts ++ [⟨A7, c7, rs[r].bs⟩], ?_⟩, hx.trans ?_⟩
                · have := HS1.out
                  rw [show (mat rs).take (r + 1) = (mat rs).take r ++ [rs[r].bs] by rw [List.take_succ_eq_append_getElem (by rw [mat_length]; exact hlt)]; simp [mat]]
                  exact this
                · rw [← HG.out]
                  exact (P8.mono (by omega)).trans HS2.out
              case measure => simp [intOf]; omega
            · obtain rfl : r = rs.length := by omega
              rw [show (mat rs).take rs.length = mat rs by rw [← mat_length, List.take_length]] at HM
              have hlen := HM.len
              rw [mat_length] at hlen
              have hti : i < ts.length := by omega
              have htj : j < ts[i].bs.length := by
                have h1 : ts[i].bs.length = rs[i].bs.length := by
                  have h2 : (mat ts)[i]? = (mat rs)[i]? := by rw [HM.is]
                  rw [mat_get ts hti, mat_get rs hi] at h2
                  rw [Option.some.inj h2]
                rw [h1, HSQ.out i hi]; exact hj
              obtain ⟨x, hxx⟩ : ∃ x, x = at2 (mat rs) i j := ⟨_, rfl⟩
              have htx : ts[i].bs[j] = x := by rw [← at2_of hti htj, HM.is, hxx]
              obtain ⟨q, hqA, hq, hqc, hqf, HM2, hqb⟩ := HM.setBit hti htj (!x)
              rw [htx] at hqc
              obtain ⟨adt, rfl, q0⟩ := (HM.matAt 0).row hti
              rw [hqA] at q0
              have HTL : Hid (ts.length = rs.length) := hlen
              have HTB : Hid (ts[i].bs.length = rs.length) := by
                show _ = _
                have h2 : (mat ts)[i]? = (mat rs)[i]? := by rw [HM.is]
                rw [mat_get ts hti, mat_get rs hi] at h2
                rw [Option.some.inj h2, HSQ.out i hi]
              rw [HTB.out] at q0
              obtain ⟨c9, hc9⟩ : ∃ c9, c9 = ts[i].c := ⟨_, rfl⟩
              rw [← hc9] at q0
              clear hc9
              have HXX := Lib.hid hxx
              have m0 := HM.blk.cell 0
              simp only [List.getElem?_toArray, List.getElem?_cons_zero] at m0
              obtain ⟨adq, hadq⟩ : ∃ adq : Addr, adq = ⟨q, 0, none⟩ := ⟨_, rfl⟩
              rw [← hadq] at hqc hqf HM2 hqb q0
              have HAQ := Lib.hid hadq
              clear hadq hxx htx hqA hlen
              have y0 := fun x (h : Ext wr x) => ext_cell h q0
              have y1 := fun x (h : Ext wr x) => ext_cell h m0
              have y2 := fun x (h : Ext wr x) => ext_cell h hqc
              have hrl : ts.length ≤ 6 := by rw [HTL.out]; exact hn6
              go_upto_region 14 with fail
              clear q0 m0
              refine wp_region_planH (.reads 0 (.reads 1 (.reads 2 (.reads 3 (.reads 4 (.reads 5 (.reads 6 (.reads 7 (.reads 8 (.reads 9 (.reads 10 (.reads 11 (.reads 12 (.reads 13 (.reads 14 (.reads 15 (.turns 16 (.done)))))))))))))))))) (by kernel_rfl) (by kernel_rfl) (fun x => Ext wr x) (ext_drewN wr 1) (fun ops HOPS => ?_)
              (refine segH_pure _ _ _ _ _ _ (hid_get HOPS 0 _ rfl) rfl wanted_none (fun _ _ _ _ h => h) ?_; intro K hK; go_big_quiet_op; go_big_quiet_on)
              (refine segH_load _ _ _ _ _ _ _ _ _ (hid_get HOPS 1 _ rfl) wanted_none rfl (fun _ _ _ _ h => h) (fun y hy => by go_simp; try with_reducible rfl) ?_; simp only [Act.put, List.setIfInBounds_toArray, List.set_cons_zero, List.set_cons_succ])
              (refine segH_pure _ _ _ _ _ _ (hid_get HOPS 2 _ rfl) rfl wanted_none (fun _ _ _ _ h => h) ?_; intro K hK; go_big_quiet_op; go_big_quiet_on)
              (refine segH_pure _ _ _ _ _ _ (hid_get HOPS 3 _ rfl) rfl wanted_none (fun _ _ _ _ h => h) ?_; intro K hK; go_big_quiet_op; go_big_quiet_on)
              (refine segH_load _ _ _ _ _ _ _ _ _ (hid_get HOPS 4 _ rfl) wanted_none rfl (fun _ _ _ _ h => h) (fun y hy => by go_simp; try with_reducible rfl) ?_; simp only [Act.put, List.setIfInBounds_toArray, List.set_cons_zero, List.set_cons_succ])
              (refine segH_pure _ _ _ _ _ _ (hid_get HOPS 5 _ rfl) rfl wanted_none (fun _ _ _ _ h => h) ?_; intro K hK; go_big_quiet_op; go_big_quiet_on)
              (refine segH_pure _ _ _ _ _ _ (hid_get HOPS 6 _ rfl) rfl wanted_none (fun _ _ _ _ h => h) ?_; intro K hK; go_big_quiet_op; go_big_quiet_on)
              (refine segH_load _ _ _ _ _ _ _ _ _ (hid_get HOPS 7 _ rfl) wanted_none rfl (fun _ _ _ _ h => h) (fun y hy => by go_simp; try with_reducible rfl) ?_; simp only [Act.put, List.setIfInBounds_toArray, List.set_cons_zero, List.set_cons_succ])
              (refine segH_pure _ _ _ _ _ _ (hid_get HOPS 8 _ rfl) rfl wanted_none (fun _ _ _ _ h => h) ?_; intro K hK; go_big_quiet_op; go_big_quiet_on)
              (refine segH_pure _ _ _ _ _ _ (hid_get HOPS 9 _ rfl) rfl wanted_none (fun _ _ _ _ h => h) ?_; intro K hK; go_big_quiet_op; go_big_quiet_on)
              (refine segH_load _ _ _ _ _ _ _ _ _ (hid_get HOPS 10 _ rfl) wanted_none rfl (fun _ _ _ _ h => h) (fun y hy => by go_simp; try with_reducible rfl) ?_; simp only [Act.put, List.setIfInBounds_toArray, List.set_cons_zero, List.set_cons_succ])
              (refine segH_pure _ _ _ _ _ _ (hid_get HOPS 11 _ rfl) rfl wanted_none (fun _ _ _ _ h => h) ?_; intro K hK; go_big_quiet_op; go_big_quiet_on)
              (refine segH_pure _ _ _ _ _ _ (hid_get HOPS 12 _ rfl) rfl wanted_none (fun _ _ _ _ h => h) ?_; intro K hK; go_big_quiet_op; go_big_quiet_on)
              (refine segH_load _ _ _ _ _ _ _ _ _ (hid_get HOPS 13 _ rfl) wanted_none rfl (fun _ _ _ _ h => h) (fun y hy => by go_simp; try with_reducible rfl) ?_; simp only [Act.put, List.setIfInBounds_toArray, List.set_cons_zero, List.set_cons_succ])
              (refine segH_pure _ _ _ _ _ _ (hid_get HOPS 14 _ rfl) rfl wanted_none (fun _ _ _ _ h => h) ?_; intro K hK; go_big_quiet_op; go_big_quiet_on)
              (refine segH_pure _ _ _ _ _ _ (hid_get HOPS 15 _ rfl) rfl wanted_none (fun _ _ _ _ h => h) ?_; intro K hK; go_big_quiet_op; go_big_quiet_on)
              refine segH_turns _ _ _ _ _ _ (hid_get HOPS 16 _ rfl) wanted_none (fun K hK => ?_)
              go_big_op
              refine hK _ _ (fun _ => True) trivial ?_
              clear hK
              refine seg_done ?_
              clear HOPS
              clear y0 y1 y2 hqc hqf
              have xw : Below (g + 1) wr (wr.setCell (adq.add j) (.bool !x)).drew := hqb.trans ((ext_drewN _ 1).mono (Nat.le_trans HM.blk.lt hqb.size))
              have xq : Ext wq (wr.setCell (adq.add j) (.bool !x)).drew := hx.trans (xw.mono (by rw [HG.out]; omega))
              have HM3 : Making2 (wr.setCell (adq.add j) (.bool !x)).drew g g (setM (mat rs) i j (!x)) (some adt) c2 (ts.set i (setRow ts[i] j (!x))) := HM2.ext (ext_drewN _ 1)
              clear HM HM2 hx xw hqb
              obtain ⟨ts3, hts3⟩ : ∃ ts3, ts3 = ts.set i (setRow ts[i] j (!x)) := ⟨_, rfl⟩
              rw [← hts3] at HM3
              have hl3 : ts3.length = ts.length := by rw [hts3, List.length_set]
              rw [← hl3]
              have hl36 : ts3.length ≤ 6 := by omega
              clear HTB HTL hts3 hl3 hti htj
              generalize (wr.setCell (adq.add j) (.bool !x)).drew = w5 at HM3 xq ⊢
              have m0 := HM3.blk.cell 0
              simp only [List.getElem?_toArray, List.getElem?_cons_zero] at m0
              go_wp2_with fail
              refine (check_any (some adt) c2 ts3 _ 0 (HM3.matAt 0) (by omega)).mono ?_
              rintro e w6 ⟨rfl, y⟩
              rw [HM3.is]
              replace HM3 := HM3.ext y
              replace xq := ext_trans xq y
              clear y m0
              obtain ⟨L, hL⟩ : ∃ L, L = lchk (setM (mat rs) i j (!x)) := ⟨_, rfl⟩
              rw [← hL]
              have HL := Lib.hid hL
              clear hL
              have HD : Hid ((i = j → L = 11) ∧ (i ≠ j → at2 (mat rs) j i = true → L = 11) ∧ (L = 11 ∨ (L = 0 ∧ ldom (setM (mat rs) i j (!x)) i j = !ldom (mat rs) i j))) := by
                show _ ∧ _ ∧ _
                rw [HL.out, HXX.out]
                refine ⟨fun h => ?_, fun h hb => spoil_back HK.out (by rw [mat_length]; exact hi) (by rw [mat_length]; exact hj) h hb, spoil_else HK.out (by rw [mat_length]; exact hi) (by rw [mat_length]; exact hj)⟩
                subst h
                exact spoil_diag HK.out (by rw [mat_length]; exact hi)
              replace b0 := b0.ext xq
              replace hM0 := hM0.ext xq
              replace x0 := ext_trans x0 xq
              clear xq HG
              go_upto_region 16 with fail
              go_cut [122] (fun s122 wc => (∃ t, s122 = .bool t ∧ Hid (t = true → L = 11)) ∧ w6 = wc)
              case first =>
                by_cases h : i = j
                · have g1 : ((i : Int) == (j : Int)) = true := by simp [h]
                  have HT : Hid (L = 11) := HD.out.1 h
                  clear h
                  go_wp2
                  go_meet
                  exact ⟨⟨true, rfl, fun _ => HT.out⟩, rfl⟩
                · have g1 : ((i : Int) == (j : Int)) = false := by simp; omega
                  have g2 : ((i : Int) != (j : Int)) = true := by simp; omega
                  have HT : Hid (at2 (mat rs) j i = true → L = 11) := HD.out.2.1 h
                  clear h
                  obtain ⟨adr, ra, ca, rfl, HC⟩ := hM0.all HSQ.out (by omega)
                  obtain ⟨q1, q2⟩ := HC j hj
                  replace q2 := q2 i hi
                  clear HC
                  have c0 := b0.cell 0
                  simp only [List.getElem?_toArray, List.getElem?_cons_zero] at c0
                  cases hb : at2 (mat rs) j i
                  · rw [hb] at q2
                    clear hb
                    go_wp2
                    go_meet
                    exact ⟨⟨false, rfl, fun h => absurd h (by decide)⟩, rfl⟩
                  · rw [hb] at q2
                    have HT2 := Lib.hid (HT.out hb)
                    clear hb
                    go_wp2
                    go_meet
                    exact ⟨⟨true, rfl, fun _ => HT2.out⟩, rfl⟩
              case rest =>
                obtain ⟨⟨t, rfl, HT⟩, rfl⟩ := hcut
                cases t
                · have c0 := b0.cell 0
                  simp only [List.getElem?_toArray, List.getElem?_cons_zero] at c0
                  have m0 := HM3.blk.cell 0
                  simp only [List.getElem?_toArray, List.getElem?_cons_zero] at m0
                  have y0 := fun x (hx : Ext w6 x) => ext_cell hx c0
                  have y1 := fun x (hx : Ext w6 x) => ext_cell hx m0
                  clear c0 m0
                  rcases HD.out.2.2 with h | h
                  · clear HT HD HL
                    subst h
                    go_upto_region 18 with fail
                    refine wp_region_planH (.reads 0 (.reads 1 (.reads 2 (.reads 3 (.reads 4 (.reads 5 (.reads 6 (.reads 7 (.reads 8 (.reads 10 (.reads 11 (.reads 12 (.makes 9 (.makes 13 (.reads 14 (.reads 15 (.reads 16 (.reads 17 (.done))))))))))))))))))) (by kernel_rfl) (by kernel_rfl) (fun x => Ext w6 x) (ext_drewN w6 1) (fun ops HOPS => ?_)
                    (refine segH_pure _ _ _ _ _ _ (hid_get HOPS 0 _ rfl) rfl wanted_none (fun _ _ _ _ h => h) ?_; intro K hK; go_big_quiet_op; go_big_quiet_on)
                    (refine segH_pure _ _ _ _ _ _ (hid_get HOPS 1 _ rfl) rfl wanted_none (fun _ _ _ _ h => h) ?_; intro K hK; go_big_quiet_op; go_big_quiet_on)
                    (refine segH_pure _ _ _ _ _ _ (hid_get HOPS 2 _ rfl) rfl wanted_none (fun _ _ _ _ h => h) ?_; intro K hK; go_big_quiet_op; go_big_quiet_on)
                    first | (refine segH_pass _ _ _ _ _ _ (hid_get HOPS 3 _ rfl) (wanted_some (hid_get HOPS 2 _ rfl) rfl rfl rfl) (fun _ _ _ _ h => h) ?_; simp only [Act.put, List.setIfInBounds_toArray, List.set_cons_zero, List.set_cons_succ]) | (refine segH_pure _ _ _ _ _ _ (hid_get HOPS 3 _ rfl) rfl (wanted_some (hid_get HOPS 2 _ rfl) rfl rfl rfl) (fun _ _ _ _ h => h) ?_; intro K hK; go_big_quiet_op; go_big_quiet_on) | (refine segH_pass _ _ _ _ _ _ (hid_get HOPS 3 _ rfl) (wanted_gone (hid_get HOPS 2 _ rfl) rfl rfl) (fun _ _ _ _ h => h) ?_; simp only [Act.put, List.setIfInBounds_toArray, List.set_cons_zero, List.set_cons_succ])
                    first | (refine segH_pass _ _ _ _ _ _ (hid_get HOPS 4 _ rfl) (wanted_some (hid_get HOPS 2 _ rfl) rfl rfl rfl) (fun _ _ _ _ h => h) ?_; simp only [Act.put, List.setIfInBounds_toArray, List.set_cons_zero, List.set_cons_succ]) | (refine segH_pure _ _ _ _ _ _ (hid_get HOPS 4 _ rfl) rfl (wanted_some (hid_get HOPS 2 _ rfl) rfl rfl rfl) (fun _ _ _ _ h => h) ?_; intro K hK; go_big_quiet_op; go_big_quiet_on) | (refine segH_pass _ _ _ _ _ _ (hid_get HOPS 4 _ rfl) (wanted_gone (hid_get HOPS 2 _ rfl) rfl rfl) (fun _ _ _ _ h => h) ?_; simp only [Act.put, List.setIfInBounds_toArray, List.set_cons_zero, List.set_cons_succ])
                    first | (refine segH_pass _ _ _ _ _ _ (hid_get HOPS 5 _ rfl) (wanted_some (hid_get HOPS 2 _ rfl) rfl rfl rfl) (fun _ _ _ _ h => h) ?_; simp only [Act.put, List.setIfInBounds_toArray, List.set_cons_zero, List.set_cons_succ]) | (refine segH_pure _ _ _ _ _ _ (hid_get HOPS 5 _ rfl) rfl (wanted_some (hid_get HOPS 2 _ rfl) rfl rfl rfl) (fun _ _ _ _ h => h) ?_; intro K hK; go_big_quiet_op; go_big_quiet_on) | (refine segH_pass _ _ _ _ _ _ (hid_get HOPS 5 _ rfl) (wanted_gone (hid_get HOPS 2 _ rfl) rfl rfl) (fun _ _ _ _ h => h) ?_; simp only [Act.put, List.setIfInBounds_toArray, List.set_cons_zero, List.set_cons_succ])
                    first | (refine segH_pass _ _ _ _ _ _ (hid_get HOPS 6 _ rfl) (wanted_some (hid_get HOPS 5 _ rfl) rfl rfl rfl) (fun _ _ _ _ h => h) ?_; simp only [Act.put, List.setIfInBounds_toArray, List.set_cons_zero, List.set_cons_succ]) | (refine segH_load _ _ _ _ _ _ _ _ _ (hid_get HOPS 6 _ rfl) (wanted_some (hid_get HOPS 5 _ rfl) rfl rfl rfl) rfl (fun _ _ _ _ h => h) (fun y hy => by go_simp; try with_reducible rfl) ?_; simp only [Act.put, List.setIfInBounds_toArray, List.set_cons_zero, List.set_cons_succ]) | (refine segH_pass _ _ _ _ _ _ (hid_get HOPS 6 _ rfl) (wanted_gone (hid_get HOPS 5 _ rfl) rfl rfl) (fun _ _ _ _ h => h) ?_; simp only [Act.put, List.setIfInBounds_toArray, List.set_cons_zero, List.set_cons_succ])
                    first | (refine segH_pass _ _ _ _ _ _ (hid_get HOPS 7 _ rfl) (wanted_some (hid_get HOPS 5 _ rfl) rfl rfl rfl) (fun _ _ _ _ h => h) ?_; simp only [Act.put, List.setIfInBounds_toArray, List.set_cons_zero, List.set_cons_succ]) | (refine segH_pure _ _ _ _ _ _ (hid_get HOPS 7 _ rfl) rfl (wanted_some (hid_get HOPS 5 _ rfl) rfl rfl rfl) (fun _ _ _ _ h => h) ?_; intro K hK; go_big_quiet_op; go_big_quiet_on) | (refine segH_pass _ _ _ _ _ _ (hid_get HOPS 7 _ rfl) (wanted_gone (hid_get HOPS 5 _ rfl) rfl rfl) (fun _ _ _ _ h => h) ?_; simp only [Act.put, List.setIfInBounds_toArray, List.set_cons_zero, List.set_cons_succ])
                    first | (refine segH_pass _ _ _ _ _ _ (hid_get HOPS 8 _ rfl) (wanted_some (hid_get HOPS 5 _ rfl) rfl rfl rfl) (fun _ _ _ _ h => h) ?_; simp only [Act.put, List.setIfInBounds_toArray, List.set_cons_zero, List.set_cons_succ]) | (refine segH_pure _ _ _ _ _ _ (hid_get HOPS 8 _ rfl) rfl (wanted_some (hid_get HOPS 5 _ rfl) rfl rfl rfl) (fun _ _ _ _ h => h) ?_; intro K hK; go_big_quiet_op; go_big_quiet_on) | (refine segH_pass _ _ _ _ _ _ (hid_get HOPS 8 _ rfl) (wanted_gone (hid_get HOPS 5 _ rfl) rfl rfl) (fun _ _ _ _ h => h) ?_; simp only [Act.put, List.setIfInBounds_toArray, List.set_cons_zero, List.set_cons_succ])
                    first | (refine segH_pass _ _ _ _ _ _ (hid_get HOPS 10 _ rfl) (wanted_some (hid_get HOPS 5 _ rfl) rfl rfl rfl) (fun _ _ _ _ h => h) ?_; simp only [Act.put, List.setIfInBounds_toArray, List.set_cons_zero, List.set_cons_succ]) | (refine segH_load _ _ _ _ _ _ _ _ _ (hid_get HOPS 10 _ rfl) (wanted_some (hid_get HOPS 5 _ rfl) rfl rfl rfl) rfl (fun _ _ _ _ h => h) (fun y hy => by go_simp; try with_reducible rfl) ?_; simp only [Act.put, List.setIfInBounds_toArray, List.set_cons_zero, List.set_cons_succ]) | (refine segH_pass _ _ _ _ _ _ (hid_get HOPS 10 _ rfl) (wanted_gone (hid_get HOPS 5 _ rfl) rfl rfl) (fun _ _ _ _ h => h) ?_; simp only [Act.put, List.setIfInBounds_toArray, List.set_cons_zero, List.set_cons_succ])
                    first | (refine segH_pass _ _ _ _ _ _ (hid_get HOPS 11 _ rfl) (wanted_some (hid_get HOPS 5 _ rfl) rfl rfl rfl) (fun _ _ _ _ h => h) ?_; simp only [Act.put, List.setIfInBounds_toArray, List.set_cons_zero, List.set_cons_succ]) | (refine segH_pure _ _ _ _ _ _ (hid_get HOPS 11 _ rfl) rfl (wanted_some (hid_get HOPS 5 _ rfl) rfl rfl rfl) (fun _ _ _ _ h => h) ?_; intro K hK; go_big_quiet_op; go_big_quiet_on) | (refine segH_pass _ _ _ _ _ _ (hid_get HOPS 11 _ rfl) (wanted_gone (hid_get HOPS 5 _ rfl) rfl rfl) (fun _ _ _ _ h => h) ?_; simp only [Act.put, List.setIfInBounds_toArray, List.set_cons_zero, List.set_cons_succ])
                    first | (refine segH_pass _ _ _ _ _ _ (hid_get HOPS 12 _ rfl) (wanted_some (hid_get HOPS 5 _ rfl) rfl rfl rfl) (fun _ _ _ _ h => h) ?_; simp only [Act.put, List.setIfInBounds_toArray, List.set_cons_zero, List.set_cons_succ]) | (refine segH_pure _ _ _ _ _ _ (hid_get HOPS 12 _ rfl) rfl (wanted_some (hid_get HOPS 5 _ rfl) rfl rfl rfl) (fun _ _ _ _ h => h) ?_; intro K hK; go_big_quiet_op; go_big_quiet_on) | (refine segH_pass _ _ _ _ _ _ (hid_get HOPS 12 _ rfl) (wanted_gone (hid_get HOPS 5 _ rfl) rfl rfl) (fun _ _ _ _ h => h) ?_; simp only [Act.put, List.setIfInBounds_toArray, List.set_cons_zero, List.set_cons_succ])
                    refine segH_makes_pass _ _ _ _ _ _ (hid_get HOPS 9 _ rfl) (by first | exact (wanted_some (hid_get HOPS 5 _ rfl) rfl rfl rfl) | exact (wanted_gone (hid_get HOPS 5 _ rfl) rfl rfl)) (ext_drewN w6 1) ?_; simp only [Act.put, List.setIfInBounds_toArray, List.set_cons_zero, List.set_cons_succ]
                    refine segH_makes_pass _ _ _ _ _ _ (hid_get HOPS 13 _ rfl) (by first | exact (wanted_some (hid_get HOPS 5 _ rfl) rfl rfl rfl) | exact (wanted_gone (hid_get HOPS 5 _ rfl) rfl rfl)) (ext_drewN w6 1) ?_; simp only [Act.put, List.setIfInBounds_toArray, List.set_cons_zero, List.set_cons_succ]
                    first | (refine segH_pass _ _ _ _ _ _ (hid_get HOPS 14 _ rfl) (wanted_some (hid_get HOPS 5 _ rfl) rfl rfl rfl) (fun _ _ _ _ h => h) ?_; simp only [Act.put, List.setIfInBounds_toArray, List.set_cons_zero, List.set_cons_succ]) | (refine segH_pure _ _ _ _ _ _ (hid_get HOPS 14 _ rfl) rfl (wanted_some (hid_get HOPS 5 _ rfl) rfl rfl rfl) (fun _ _ _ _ h => h) ?_; intro K hK; go_big_quiet_op; go_big_quiet_on) | (refine segH_pass _ _ _ _ _ _ (hid_get HOPS 14 _ rfl) (wanted_gone (hid_get HOPS 5 _ rfl) rfl rfl) (fun _ _ _ _ h => h) ?_; simp only [Act.put, List.setIfInBounds_toArray, List.set_cons_zero, List.set_cons_succ])
                    first | (refine segH_pass _ _ _ _ _ _ (hid_get HOPS 15 _ rfl) (wanted_some (hid_get HOPS 2 _ rfl) rfl rfl rfl) (fun _ _ _ _ h => h) ?_; simp only [Act.put, List.setIfInBounds_toArray, List.set_cons_zero, List.set_cons_succ]) | (refine segH_pure _ _ _ _ _ _ (hid_get HOPS 15 _ rfl) rfl (wanted_some (hid_get HOPS 2 _ rfl) rfl rfl rfl) (fun _ _ _ _ h => h) ?_; intro K hK; go_big_quiet_op; go_big_quiet_on) | (refine segH_pass _ _ _ _ _ _ (hid_get HOPS 15 _ rfl) (wanted_gone (hid_get HOPS 2 _ rfl) rfl rfl) (fun _ _ _ _ h => h) ?_; simp only [Act.put, List.setIfInBounds_toArray, List.set_cons_zero, List.set_cons_succ])
                    (refine segH_pure _ _ _ _ _ _ (hid_get HOPS 16 _ rfl) rfl wanted_none (fun _ _ _ _ h => h) ?_; intro K hK; go_big_quiet_op; go_big_quiet_on)
                    (refine segH_pure _ _ _ _ _ _ (hid_get HOPS 17 _ rfl) rfl wanted_none (fun _ _ _ _ h => h) ?_; intro K hK; go_big_quiet_op; go_big_quiet_on)
                    refine seg_done ?_
                    clear HOPS
                    clear y0 y1
                    go_wp2
                    go_ret
                    exact ⟨rfl, ext_trans x0 (ext_drewN w6 1)⟩
                  · obtain ⟨h0, h⟩ := h
                    have HLD := Lib.hid h
                    clear h HT HD HL
                    subst h0
                    go_upto_region 18 with fail
                    refine wp_region_planH (.reads 0 (.reads 1 (.reads 2 (.reads 3 (.reads 4 (.reads 5 (.reads 6 (.reads 7 (.reads 8 (.reads 10 (.reads 11 (.reads 12 (.makes 9 (.makes 13 (.reads 14 (.reads 15 (.reads 16 (.reads 17 (.done))))))))))))))))))) (by kernel_rfl) (by kernel_rfl) (fun x => Ext w6 x) (ext_drewN w6 1) (fun ops HOPS => ?_)
                    (refine segH_pure _ _ _ _ _ _ (hid_get HOPS 0 _ rfl) rfl wanted_none (fun _ _ _ _ h => h) ?_; intro K hK; go_big_quiet_op; go_big_quiet_on)
                    (refine segH_pure _ _ _ _ _ _ (hid_get HOPS 1 _ rfl) rfl wanted_none (fun _ _ _ _ h => h) ?_; intro K hK; go_big_quiet_op; go_big_quiet_on)
                    (refine segH_pure _ _ _ _ _ _ (hid_get HOPS 2 _ rfl) rfl wanted_none (fun _ _ _ _ h => h) ?_; intro K hK; go_big_quiet_op; go_big_quiet_on)
                    first | (refine segH_pass _ _ _ _ _ _ (hid_get HOPS 3 _ rfl) (wanted_some (hid_get HOPS 2 _ rfl) rfl rfl rfl) (fun _ _ _ _ h => h) ?_; simp only [Act.put, List.setIfInBounds_toArray, List.set_cons_zero, List.set_cons_succ]) | (refine segH_pure _ _ _ _ _ _ (hid_get HOPS 3 _ rfl) rfl (wanted_some (hid_get HOPS 2 _ rfl) rfl rfl rfl) (fun _ _ _ _ h => h) ?_; intro K hK; go_big_quiet_op; go_big_quiet_on) | (refine segH_pass _ _ _ _ _ _ (hid_get HOPS 3 _ rfl) (wanted_gone (hid_get HOPS 2 _ rfl) rfl rfl) (fun _ _ _ _ h => h) ?_; simp only [Act.put, List.setIfInBounds_toArray, List.set_cons_zero, List.set_cons_succ])
                    first | (refine segH_pass _ _ _ _ _ _ (hid_get HOPS 4 _ rfl) (wanted_some (hid_get HOPS 2 _ rfl) rfl rfl rfl) (fun _ _ _ _ h => h) ?_; simp only [Act.put, List.setIfInBounds_toArray, List.set_cons_zero, List.set_cons_succ]) | (refine segH_pure _ _ _ _ _ _ (hid_get HOPS 4 _ rfl) rfl (wanted_some (hid_get HOPS 2 _ rfl) rfl rfl rfl) (fun _ _ _ _ h => h) ?_; intro K hK; go_big_quiet_op; go_big_quiet_on) | (refine segH_pass _ _ _ _ _ _ (hid_get HOPS 4 _ rfl) (wanted_gone (hid_get HOPS 2 _ rfl) rfl rfl) (fun _ _ _ _ h => h) ?_; simp only [Act.put, List.setIfInBounds_toArray, List.set_cons_zero, List.set_cons_succ])
                    first | (refine segH_pass _ _ _ _ _ _ (hid_get HOPS 5 _ rfl) (wanted_some (hid_get HOPS 2 _ rfl) rfl rfl rfl) (fun _ _ _ _ h => h) ?_; simp only [Act.put, List.setIfInBounds_toArray, List.set_cons_zero, List.set_cons_succ]) | (refine segH_pure _ _ _ _ _ _ (hid_get HOPS 5 _ rfl) rfl (wanted_some (hid_get HOPS 2 _ rfl) rfl rfl rfl) (fun _ _ _ _ h => h) ?_; intro K hK; go_big_quiet_op; go_big_quiet_on) | (refine segH_pass _ _ _ _ _ _ (hid_get HOPS 5 _ rfl) (wanted_gone (hid_get HOPS 2 _ rfl) rfl rfl) (fun _ _ _ _ h => h) ?_; simp only [Act.put, List.setIfInBounds_toArray, List.set_cons_zero, List.set_cons_succ])
                    first | (refine segH_pass _ _ _ _ _ _ (hid_get HOPS 6 _ rfl) (wanted_some (hid_get HOPS 5 _ rfl) rfl rfl rfl) (fun _ _ _ _ h => h) ?_; simp only [Act.put, List.setIfInBounds_toArray, List.set_cons_zero, List.set_cons_succ]) | (refine segH_load _ _ _ _ _ _ _ _ _ (hid_get HOPS 6 _ rfl) (wanted_some (hid_get HOPS 5 _ rfl) rfl rfl rfl) rfl (fun _ _ _ _ h => h) (fun y hy => by go_simp; try with_reducible rfl) ?_; simp only [Act.put, List.setIfInBounds_toArray, List.set_cons_zero, List.set_cons_succ]) | (refine segH_pass _ _ _ _ _ _ (hid_get HOPS 6 _ rfl) (wanted_gone (hid_get HOPS 5 _ rfl) rfl rfl) (fun _ _ _ _ h => h) ?_; simp only [Act.put, List.setIfInBounds_toArray, List.set_cons_zero, List.set_cons_succ])
                    first | (refine segH_pass _ _ _ _ _ _ (hid_get HOPS 7 _ rfl) (wanted_some (hid_get HOPS 5 _ rfl) rfl rfl rfl) (fun _ _ _ _ h => h) ?_; simp only [Act.put, List.setIfInBounds_toArray, List.set_cons_zero, List.set_cons_succ]) | (refine segH_pure _ _ _ _ _ _ (hid_get HOPS 7 _ rfl) rfl (wanted_some (hid_get HOPS 5 _ rfl) rfl rfl rfl) (fun _ _ _ _ h => h) ?_; intro K hK; go_big_quiet_op; go_big_quiet_on) | (refine segH_pass _ _ _ _ _ _ (hid_get HOPS 7 _ rfl) (wanted_gone (hid_get HOPS 5 _ rfl) rfl rfl) (fun _ _ _ _ h => h) ?_; simp only [Act.put, List.setIfInBounds_toArray, List.set_cons_zero, List.set_cons_succ])
                    first | (refine segH_pass _ _ _ _ _ _ (hid_get HOPS 8 _ rfl) (wanted_some (hid_get HOPS 5 _ rfl) rfl rfl rfl) (fun _ _ _ _ h => h) ?_; simp only [Act.put, List.setIfInBounds_toArray, List.set_cons_zero, List.set_cons_succ]) | (refine segH_pure _ _ _ _ _ _ (hid_get HOPS 8 _ rfl) rfl (wanted_some (hid_get HOPS 5 _ rfl) rfl rfl rfl) (fun _ _ _ _ h => h) ?_; intro K hK; go_big_quiet_op; go_big_quiet_on) | (refine segH_pass _ _ _ _ _ _ (hid_get HOPS 8 _ rfl) (wanted_gone (hid_get HOPS 5 _ rfl) rfl rfl) (fun _ _ _ _ h => h) ?_; simp only [Act.put, List.setIfInBounds_toArray, List.set_cons_zero, List.set_cons_succ])
                    first | (refine segH_pass _ _ _ _ _ _ (hid_get HOPS 10 _ rfl) (wanted_some (hid_get HOPS 5 _ rfl) rfl rfl rfl) (fun _ _ _ _ h => h) ?_; simp only [Act.put, List.setIfInBounds_toArray, List.set_cons_zero, List.set_cons_succ]) | (refine segH_load _ _ _ _ _ _ _ _ _ (hid_get HOPS 10 _ rfl) (wanted_some (hid_get HOPS 5 _ rfl) rfl rfl rfl) rfl (fun _ _ _ _ h => h) (fun y hy => by go_simp; try with_reducible rfl) ?_; simp only [Act.put, List.setIfInBounds_toArray, List.set_cons_zero, List.set_cons_succ]) | (refine segH_pass _ _ _ _ _ _ (hid_get HOPS 10 _ rfl) (wanted_gone (hid_get HOPS 5 _ rfl) rfl rfl) (fun _ _ _ _ h => h) ?_; simp only [Act.put, List.setIfInBounds_toArray, List.set_cons_zero, List.set_cons_succ])
                    first | (refine segH_pass _ _ _ _ _ _ (hid_get HOPS 11 _ rfl) (wanted_some (hid_get HOPS 5 _ rfl) rfl rfl rfl) (fun _ _ _ _ h => h) ?_; simp only [Act.put, List.setIfInBounds_toArray, List.set_cons_zero, List.set_cons_succ]) | (refine segH_pure _ _ _ _ _ _ (hid_get HOPS 11 _ rfl) rfl (wanted_some (hid_get HOPS 5 _ rfl) rfl rfl rfl) (fun _ _ _ _ h => h) ?_; intro K hK; go_big_quiet_op; go_big_quiet_on) | (refine segH_pass _ _ _ _ _ _ (hid_get HOPS 11 _ rfl) (wanted_gone (hid_get HOPS 5 _ rfl) rfl rfl) (fun _ _ _ _ h => h) ?_; simp only [Act.put, List.setIfInBounds_toArray, List.set_cons_zero, List.set_cons_succ])
                    first | (refine segH_pass _ _ _ _ _ _ (hid_get HOPS 12 _ rfl) (wanted_some (hid_get HOPS 5 _ rfl) rfl rfl rfl) (fun _ _ _ _ h => h) ?_; simp only [Act.put, List.setIfInBounds_toArray, List.set_cons_zero, List.set_cons_succ]) | (refine segH_pure _ _ _ _ _ _ (hid_get HOPS 12 _ rfl) rfl (wanted_some (hid_get HOPS 5 _ rfl) rfl rfl rfl) (fun _ _ _ _ h => h) ?_; intro K hK; go_big_quiet_op; go_big_quiet_on) | (refine segH_pass _ _ _ _ _ _ (hid_get HOPS 12 _ rfl) (wanted_gone (hid_get HOPS 5 _ rfl) rfl rfl) (fun _ _ _ _ h => h) ?_; simp only [Act.put, List.setIfInBounds_toArray, List.set_cons_zero, List.set_cons_succ])
                    refine segH_makes _ _ _ _ _ _ (hid_get HOPS 9 _ rfl) (wanted_some (hid_get HOPS 5 _ rfl) rfl rfl rfl) (fun K hK => ?_)
                    go_big_op
                    refine (latDom_any _ _ ts3 i j _ _ ((HM3.ext (ext_drewN w6 1)).matAt 0) (by omega)).mono ?_
                    rintro e w7 ⟨rfl, y⟩
                    have P := ext_trans (ext_drewN w6 1) y
                    refine hK _ _ (fun x => Ext w6 x) P (fun _ h => h) ?_
                    clear hK y
                    refine segH_makes _ _ _ _ _ _ (hid_get HOPS 13 _ rfl) (wanted_some (hid_get HOPS 5 _ rfl) rfl rfl rfl) (fun K hK => ?_)
                    go_big_op
                    refine (latDom_any _ c rs i j _ _ (hM0.ext P) hl).mono ?_
                    rintro e w8 ⟨rfl, y⟩
                    replace P := ext_trans P y
                    refine hK _ _ (fun x => Ext w6 x) P (fun _ h => h) ?_
                    clear hK y
                    rw [HM3.is, HLD.out]
                    first | (refine segH_pass _ _ _ _ _ _ (hid_get HOPS 14 _ rfl) (wanted_some (hid_get HOPS 5 _ rfl) rfl rfl rfl) (fun _ _ _ _ h => h) ?_; simp only [Act.put, List.setIfInBounds_toArray, List.set_cons_zero, List.set_cons_succ]) | (refine segH_pure _ _ _ _ _ _ (hid_get HOPS 14 _ rfl) rfl (wanted_some (hid_get HOPS 5 _ rfl) rfl rfl rfl) (fun _ _ _ _ h => h) ?_; intro K hK; go_big_quiet_op; go_big_quiet_on) | (refine segH_pass _ _ _ _ _ _ (hid_get HOPS 14 _ rfl) (wanted_gone (hid_get HOPS 5 _ rfl) rfl rfl) (fun _ _ _ _ h => h) ?_; simp only [Act.put, List.setIfInBounds_toArray, List.set_cons_zero, List.set_cons_succ])
                    first | (refine segH_pass _ _ _ _ _ _ (hid_get HOPS 15 _ rfl) (wanted_some (hid_get HOPS 2 _ rfl) rfl rfl rfl) (fun _ _ _ _ h => h) ?_; simp only [Act.put, List.setIfInBounds_toArray, List.set_cons_zero, List.set_cons_succ]) | (refine segH_pure _ _ _ _ _ _ (hid_get HOPS 15 _ rfl) rfl (wanted_some (hid_get HOPS 2 _ rfl) rfl rfl rfl) (fun _ _ _ _ h => h) ?_; intro K hK; go_big_quiet_op; go_big_quiet_on) | (refine segH_pass _ _ _ _ _ _ (hid_get HOPS 15 _ rfl) (wanted_gone (hid_get HOPS 2 _ rfl) rfl rfl) (fun _ _ _ _ h => h) ?_; simp only [Act.put, List.setIfInBounds_toArray, List.set_cons_zero, List.set_cons_succ])
                    (refine segH_pure _ _ _ _ _ _ (hid_get HOPS 16 _ rfl) rfl wanted_none (fun _ _ _ _ h => h) ?_; intro K hK; go_big_quiet_op; go_big_quiet_on)
                    (refine segH_pure _ _ _ _ _ _ (hid_get HOPS 17 _ rfl) rfl wanted_none (fun _ _ _ _ h => h) ?_; intro K hK; go_big_quiet_op; go_big_quiet_on)
                    refine seg_done ?_
                    clear HOPS
                    clear y0 y1
                    go_wp2
                    go_ret
                    exact ⟨rfl, ext_trans x0 P⟩
                · obtain rfl : L = 11 := HT.out rfl
                  go_wp2
                  go_ret
                  exact ⟨rfl, x0⟩
    · have hb : (((lchk (mat rs) : Nat) : Int) != 0) = true := by simp; omega
      clear hk
      go_wp2
      go_ret
      exact ⟨rfl, ext_trans x0 P⟩
end Go.Proofs.Ytdknkbpgkkakhaa
