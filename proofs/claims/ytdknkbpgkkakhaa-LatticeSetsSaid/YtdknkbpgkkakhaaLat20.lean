/- The law LatticeSets, walked. -/
import Derived.Test.YtdknkbpgkkakhaaLat14
import Derived.Test.YtdknkbpgkkakhaaPlanF
import Derived.Test.YtdknkbpgkkakhaaLatD
namespace Go.Proofs.Ytdknkbpgkkakhaa
open Go.RowKit

def svN (i : Nat) : Nat := [0, 1, 2, 4, 3, 7].getD i 0
def sle (r l : Nat) : Bool := bits .and .i64 (svN r : Int) (svN l : Int) == (svN l : Int)
def SMrow (r : Nat) : List Bool := (List.range 6).map (sle r)
def SMup (k : Nat) : Mat := (List.range k).map SMrow
theorem SMup_succ (k : Nat) : SMup (k + 1) = SMup k ++ [SMrow k] := by simp [SMup, List.range_succ]
theorem SMup_length (k : Nat) : (SMup k).length = k := by simp [SMup]
theorem SMrow_length (k : Nat) : (SMrow k).length = 6 := by simp [SMrow]
def svCells : Array Value := #[.int .i64 0, .int .i64 1, .int .i64 2, .int .i64 4, .int .i64 3, .int .i64 7]
theorem svCells_get {i : Nat} (h : i < 6) : svCells[i]? = some (.int .i64 (svN i : Int)) := by
  match i, h with
  | 0, _ => rfl
  | 1, _ => rfl
  | 2, _ => rfl
  | 3, _ => rfl
  | 4, _ => rfl
  | 5, _ => rfl

def wantV (i j : Nat) : Int := bits .or .i64 (svN i : Int) (svN j : Int)
/-- The best upper bound among the first k sets. -/
def bestUp (i j : Nat) : Nat → Nat
  | 0 => 5
  | k + 1 => if (bits .and .i64 (svN k : Int) (wantV i j) == wantV i j && bits .and .i64 (svN (bestUp i j k) : Int) (svN k : Int) == (svN k : Int)) = true then k else bestUp i j k
def SMlit : Mat := [[true, false, false, false, false, false], [true, true, false, false, false, false], [true, false, true, false, false, false], [true, false, false, true, false, false], [true, true, true, false, true, false], [true, true, true, true, true, true]]
theorem SM_eq : SMup 6 = SMlit := by decide +kernel
theorem SM_check : lchk (SMup 6) = 0 := by rw [SM_eq]; decide +kernel
theorem SM_turned (x : Bool) : (((lchk (setM (SMup 6) 0 5 x) : Nat) : Int) == 0) = !x := by
  rw [SM_eq]
  cases x <;> decide +kernel
theorem SM_bit : at2 (SMup 6) 0 5 = false := by rw [SM_eq]; decide +kernel
def joinGo (m : Mat) (a b : Nat) : Option Nat := (List.range 6).find? fun c => at2 m c a && at2 m c b && (List.range 6).all fun d => !at2 m d a || !at2 m d b || at2 m d c
theorem find_congr {p q : Nat → Bool} : ∀ {l : List Nat}, (∀ x ∈ l, p x = q x) → l.find? p = l.find? q
  | [], _ => rfl
  | x :: l, h => by
    rw [List.find?_cons, List.find?_cons, h x (by simp), find_congr (l := l) fun y hy => h y (by simp [hy])]
theorem all_congr {p q : Nat → Bool} : ∀ {l : List Nat}, (∀ x ∈ l, p x = q x) → l.all p = l.all q
  | [], _ => rfl
  | x :: l, h => by
    rw [List.all_cons, List.all_cons, h x (by simp), all_congr (l := l) fun y hy => h y (by simp [hy])]
theorem join_go {m : Mat} (h : levels m = 6) {a b : Nat} (ha : a < 6) (hb : b < 6) : ljoin m a b = joinGo m a b := by
  unfold ljoin joinGo
  rw [h]
  refine find_congr fun c hc => ?_
  have hc6 := List.mem_range.1 hc
  rw [ltop, ldom_eq (by omega) (by omega), ldom_eq (by omega) (by omega), h]
  congr 1
  refine all_congr fun d hd => ?_
  have hd6 := List.mem_range.1 hd
  rw [ldom_eq (by omega) (by omega), ldom_eq (by omega) (by omega), ldom_eq (by omega) (by omega)]
def bestAll : Bool := (List.range 6).all fun i => (List.range 6).all fun j => joinGo SMlit i j == some (bestUp i j 6)
theorem bestAll_true : bestAll = true := by decide +kernel
theorem SM_join {i j : Nat} (hi : i < 6) (hj : j < 6) : ljoin (SMup 6) i j = some (bestUp i j 6) := by
  rw [join_go (by rw [levels_of _ SM_check]; exact SMup_length 6) hi hj, SM_eq]
  have := bestAll_true
  simp only [bestAll, List.all_eq_true, List.mem_range, beq_iff_eq] at this
  exact this i hi j hj
theorem SM_joinN {i j : Nat} (hi : i < 6) (hj : j < 6) : joinN (SMup 6) i j = bestUp i j 6 := by rw [joinN, SM_join hi hj]; rfl
theorem SM_joinB {i j : Nat} (hi : i < 6) (hj : j < 6) : joinB (SMup 6) i j = true := by rw [joinB, SM_join hi hj]; rfl

/-- A row of bools in the making: what f says, up to l. -/
def RowF (w : World) (q N l : Nat) (f : Nat → Bool) : Prop :=
  ∃ cs, Blk w q 4 cs ∧ cs.size = N ∧ ∀ b, b < N → cs[b]? = some (.bool (decide (b < l) && f b))
theorem RowF.new (w : World) (N : Nat) (f : Nat → Bool) : RowF (w.alloc (.cells (madeCells #[.bool false] N) 4)) w.heap.size N 0 f :=
  ⟨_, Blk.new w 4 _, size_madeCells _ _, fun b hb => by simp [madeCells, hb, Nat.mod_one]⟩
theorem RowF.cell {w : World} {q N l : Nat} {f : Nat → Bool} (h : RowF w q N l f) {b : Nat} (hb : b < N) : w.cell? ⟨q, b, none⟩ = some (.bool (decide (b < l) && f b)) := by
  obtain ⟨cs, h1, h2, h3⟩ := h
  rw [h1.cell, h3 b hb]
theorem RowF.free {w : World} {q N l : Nat} {f : Nat → Bool} (h : RowF w q N l f) (b : Nat) : w.frozen? ⟨q, b, none⟩ = false := by
  obtain ⟨cs, h1, h2, h3⟩ := h
  exact h1.frozen b
theorem RowF.ext {w w' : World} {q N l : Nat} {f : Nat → Bool} (h : RowF w q N l f) (x : Ext w w') : RowF w' q N l f := by
  obtain ⟨cs, h1, h2, h3⟩ := h
  exact ⟨cs, h1.ext x, h2, h3⟩
theorem RowF.set {w : World} {q N l : Nat} {f : Nat → Bool} (h : RowF w q N l f) (hl : l < N) : RowF (w.setCell ⟨q, l, none⟩ (.bool (f l))) q N (l + 1) f := by
  obtain ⟨cs, h1, h2, h3⟩ := h
  refine ⟨_, h1.set_ l _, by simpa using h2, fun b hb => ?_⟩
  rw [Array.getElem?_setIfInBounds]
  by_cases hab : l = b
  · subst hab
    rw [if_pos rfl, if_pos (by omega)]
    simp
  · rw [if_neg hab, h3 b hb]
    have : (b < l + 1) = (b < l) := by rw [eq_iff_iff]; omega
    simp only [this]
theorem RowF.row {w : World} {q N : Nat} {f : Nat → Bool} (h : RowF w q N N f) : RowBlk w ⟨some ⟨q, 0, none⟩, N, (List.range N).map f⟩ q := by
  obtain ⟨cs, h1, h2, h3⟩ := h
  refine ⟨rfl, cs, h1, fun b hb => ?_⟩
  have hb' : b < N := by simpa using hb
  rw [h3 b hb']
  simp [hb']

set_option maxRecDepth 100000 in
set_option maxHeartbeats 8000000 in
theorem latticeSets_walk (a b d : Int) (w : World) (ha : 0 ≤ a ∧ a ≤ 255) (hb : 0 ≤ b ∧ b ≤ 255) (hd : 0 ≤ d ∧ d ≤ 255) :
    Calls Try.prog 10 #[.int .u8 a, .int .u8 b, .int .u8 d] w fun e w' => e = .returned (.bool true) ∧ Ext w w' := by
  have HA := Lib.hid ha
  have HB := Lib.hid hb
  have HD := Lib.hid hd
  clear ha hb hd
  go_enter Try.func10, Try.ntmps10
  go_wp2_with fail
  refine (known1_any _).mono ?_
  rintro e w1 ⟨rfl, x0⟩
  replace x0 : Ext w w1 := x0
  have b1 : Blk (w1.alloc (.cells svCells 69)) w1.heap.size 69 svCells := Blk.new _ _ _
  have x1 := ext_trans x0 (ext_alloc w1 (.cells svCells 69))
  clear x0
  go_upto_region 4 with fail
  rw [show (#[Value.int IntKind.i64 0, Value.int IntKind.i64 1, Value.int IntKind.i64 2, Value.int IntKind.i64 4, Value.int IntKind.i64 3, Value.int IntKind.i64 7] : Array Value) = svCells from rfl]
  obtain ⟨p, hp⟩ : ∃ p, p = w1.heap.size := ⟨_, rfl⟩
  rw [← hp] at b1 ⊢
  clear hp
  generalize w1.alloc (.cells svCells 69) = w2 at b1 x1 ⊢
  have HS : Hid (∀ x, Ext w2 x → ∀ i, i < 6 → x.cell? ⟨p, i, none⟩ = some (.int .i64 (svN i : Int))) := by
    show ∀ x, _
    intro x hx i hi
    exact ((b1.ext hx).cell i).trans (svCells_get hi)
  clear b1
  have M0 : Making2 (w2.alloc (.cells #[.slice none 0 0] 53)) w2.heap.size w2.heap.size (SMup 0) none 0 [] :=
    ⟨Blk.new _ _ _, Own.nil _ _, Nat.le_refl _, by simp, by simp, rfl⟩
  have x2 := ext_alloc w2 (.cells #[.slice none 0 0] 53)
  have hmk := run_make_row' (P := Try.prog) 23 4 (.bool false) 1 Try.underlying23 info4 rfl .i64 .i64 6 (by omega) (by omega)
  rw [show ((6 : Nat) : Int) = 6 from rfl] at hmk
  go_upto_region 5 with fail
  obtain ⟨g, hg⟩ : ∃ g, g = w2.heap.size := ⟨_, rfl⟩
  rw [← hg] at M0 ⊢
  have HG := Lib.hid hg; clear hg
  generalize w2.alloc (.cells #[.slice none 0 0] 53) = w3 at M0 x2 ⊢
  go_wp2
  go_loopw [9] (fun i wr => ∃ k : Nat, k ≤ 6 ∧ i = .int .i64 k ∧ (∃ A c rs, Making2 wr g g (SMup k) A c rs) ∧ Ext w2 wr) (fun i _ => 6 - (intOf i).toNat)
  case atStart => exact ⟨0, Nat.zero_le _, rfl, ⟨_, _, _, M0⟩, x2⟩
  case round =>
    obtain ⟨k, hk, rfl, ⟨A, c, rs, HM⟩, hx⟩ := hrel
    obtain ⟨wo, rfl⟩ : ∃ wo : World, wo = wr := ⟨_, rfl⟩
    clear M0 x2
    by_cases hlt : k < 6
    · go_upto_region 9 with fail
      have R0 := RowF.new wo 6 (sle k)
      have hx3 := ext_alloc wo (.cells (madeCells #[.bool false] 6) 4)
      obtain ⟨q, hq⟩ : ∃ q, q = wo.heap.size := ⟨_, rfl⟩
      rw [← hq] at R0 ⊢
      have HQ := Lib.hid hq; clear hq
      generalize wo.alloc (.cells (madeCells #[.bool false] 6) 4) = w4 at R0 hx3 ⊢
      go_wp2
      go_loopw [11] (fun i wi => ∃ l : Nat, l ≤ 6 ∧ i = .int .i64 l ∧ RowF wi q 6 l (sle k) ∧ Ext wo wi) (fun i _ => 6 - (intOf i).toNat)
      case atStart => exact ⟨0, Nat.zero_le _, rfl, R0, hx3⟩
      case round =>
        obtain ⟨l, hl, rfl, R, hxi⟩ := hrel
        obtain ⟨wi, rfl⟩ : ∃ wi : World, wi = wr := ⟨_, rfl⟩
        clear R0 hx3
        by_cases hl6 : l < 6
        · have p0 := R.cell hl6
          have f0 := R.free l
          have p1 := HS.out _ (ext_trans hx hxi) k hlt
          have p2 := HS.out _ (ext_trans hx hxi) l hl6
          have R2 := (R.set hl6).ext (ext_drewN _ 1)
          have hs1 : Below wo.heap.size wi (wi.setCell ⟨q, l, none⟩ (.bool (sle k l))) := (Below.refl _ _).setCell (Nat.le_of_eq HQ.out.symm) _
          have hs2 : Below wo.heap.size wi (wi.setCell ⟨q, l, none⟩ (.bool (sle k l))).drew := hs1.trans ((ext_drewN _ 1).mono (Nat.le_trans hxi.size hs1.size))
          clear hs1
          have y0 := fun x (h : Ext wi x) => ext_cell h p0
          have y1 := fun x (h : Ext wi x) => ext_cell h p1
          have y2 := fun x (h : Ext wi x) => ext_cell h p2
          clear p1 p2 R
          go_upto_region 12 with fail
          refine wp_region_planH (.reads 0 (.reads 1 (.reads 2 (.reads 3 (.reads 4 (.reads 5 (.reads 6 (.reads 7 (.reads 8 (.reads 9 (.reads 10 (.reads 11 (.reads 12 (.reads 13 (.turns 14 (.done)))))))))))))))) (by kernel_rfl) (by kernel_rfl) (fun x => Ext wi x) (ext_drewN wi 1) (fun ops HOPS => ?_)
          (refine segH_pure _ _ _ _ _ _ (hid_get HOPS 0 _ rfl) rfl wanted_none (fun _ _ _ _ h => h) ?_; intro K hK; go_big_quiet_op; go_big_quiet_on)
          (refine segH_pure _ _ _ _ _ _ (hid_get HOPS 1 _ rfl) rfl wanted_none (fun _ _ _ _ h => h) ?_; intro K hK; go_big_quiet_op; go_big_quiet_on)
          (refine segH_pure _ _ _ _ _ _ (hid_get HOPS 2 _ rfl) rfl wanted_none (fun _ _ _ _ h => h) ?_; intro K hK; go_big_quiet_op; go_big_quiet_on)
          (refine segH_pure _ _ _ _ _ _ (hid_get HOPS 3 _ rfl) rfl wanted_none (fun _ _ _ _ h => h) ?_; intro K hK; go_big_quiet_op; go_big_quiet_on)
          (refine segH_load _ _ _ _ _ _ _ _ _ (hid_get HOPS 4 _ rfl) wanted_none rfl (fun _ _ _ _ h => h) (fun y hy => by go_simp; try with_reducible rfl) ?_; simp only [Act.put, List.setIfInBounds_toArray, List.set_cons_zero, List.set_cons_succ])
          (refine segH_pure _ _ _ _ _ _ (hid_get HOPS 5 _ rfl) rfl wanted_none (fun _ _ _ _ h => h) ?_; intro K hK; go_big_quiet_op; go_big_quiet_on)
          (refine segH_pure _ _ _ _ _ _ (hid_get HOPS 6 _ rfl) rfl wanted_none (fun _ _ _ _ h => h) ?_; intro K hK; go_big_quiet_op; go_big_quiet_on)
          (refine segH_load _ _ _ _ _ _ _ _ _ (hid_get HOPS 7 _ rfl) wanted_none rfl (fun _ _ _ _ h => h) (fun y hy => by go_simp; try with_reducible rfl) ?_; simp only [Act.put, List.setIfInBounds_toArray, List.set_cons_zero, List.set_cons_succ])
          (refine segH_pure _ _ _ _ _ _ (hid_get HOPS 8 _ rfl) rfl wanted_none (fun _ _ _ _ h => h) ?_; intro K hK; go_big_quiet_op; go_big_quiet_on)
          (refine segH_pure _ _ _ _ _ _ (hid_get HOPS 9 _ rfl) rfl wanted_none (fun _ _ _ _ h => h) ?_; intro K hK; go_big_quiet_op; go_big_quiet_on)
          (refine segH_pure _ _ _ _ _ _ (hid_get HOPS 10 _ rfl) rfl wanted_none (fun _ _ _ _ h => h) ?_; intro K hK; go_big_quiet_op; go_big_quiet_on)
          (refine segH_load _ _ _ _ _ _ _ _ _ (hid_get HOPS 11 _ rfl) wanted_none rfl (fun _ _ _ _ h => h) (fun y hy => by go_simp; try with_reducible rfl) ?_; simp only [Act.put, List.setIfInBounds_toArray, List.set_cons_zero, List.set_cons_succ])
          (refine segH_pure _ _ _ _ _ _ (hid_get HOPS 12 _ rfl) rfl wanted_none (fun _ _ _ _ h => h) ?_; intro K hK; go_big_quiet_op; go_big_quiet_on)
          (refine segH_pure _ _ _ _ _ _ (hid_get HOPS 13 _ rfl) rfl wanted_none (fun _ _ _ _ h => h) ?_; intro K hK; go_big_quiet_op; go_big_quiet_on)
          refine segH_turns _ _ _ _ _ _ (hid_get HOPS 14 _ rfl) wanted_none (fun K hK => ?_)
          go_big_op
          rw [show (bits BinOp.and IntKind.i64 (svN k : Int) (svN l : Int) == (svN l : Int)) = sle k l from rfl]
          refine hK _ _ (fun _ => True) trivial ?_
          clear hK
          refine seg_done ?_
          clear HOPS
          clear y0 y1 y2 p0 f0
          go_wp2
          go_roundw
          case rel => exact ⟨l + 1, hl6, by go_num, R2, hxi.trans hs2⟩
          case measure => simp [intOf]; omega
        · obtain rfl : l = 6 := by omega
          have HMI := HM.ext hxi
          have HRB := R.row
          have hqg : g < q := by have := HM.blk.lt; rw [HQ.out]; exact this
          have hqn : some (⟨q, 0, none⟩ : Addr) ∉ rs.map Rw.A := by
            intro hc
            obtain ⟨x, hxm, hxe⟩ := List.mem_map.1 hc
            obtain ⟨q', h1, h2⟩ := HM.each x hxm
            rw [h2.1] at hxe
            have h4 : q' = q := by injection hxe with hxe; injection hxe
            have := h2.lt
            rw [h4, HQ.out] at this
            exact Nat.lt_irrefl _ this
          have HQN := Lib.hid hqn
          have HQG := Lib.hid hqg
          clear hqn hqg
          have HM2 := Lib.hid (HMI.ext (ext_alloc wi (.cells #[.slice (some ⟨q, 0, none⟩) 6 6] 23)))
          have HRB2 := Lib.hid (HRB.ext (ext_alloc wi (.cells #[.slice (some ⟨q, 0, none⟩) 6 6] 23)))
          have HB : Hid (RowsAt (wi.alloc (.cells #[.slice (some ⟨q, 0, none⟩) 6 6] 23)) g 23 1 Rw.cells (some ⟨wi.heap.size, 0, none⟩) [⟨some ⟨q, 0, none⟩, 6, SMrow k⟩]) := by
            have := rows_rw (w := wi) (B := g) ⟨some ⟨q, 0, none⟩, 6, SMrow k⟩
            simp only [SMrow_length] at this
            exact this
          have c0 := HMI.blk.cell 0
          simp only [List.getElem?_toArray, List.getElem?_cons_zero] at c0
          have hgz : g + 1 ≤ wi.heap.size := HMI.blk.lt
          have hrl : rs.length ≤ 5 := by have := HM.len; rw [SMup_length] at this; omega
          have hext2 := ext_trans hx hxi
          clear R HMI HM hx hxi HRB
          go_wp2_with (at_builtin; refine wpList_append elRw rfl _ _ rfl (g + 1) (.slice A rs.length c) rs rfl HM2.out.own _ 1 [⟨some ⟨q, 0, none⟩, 6, SMrow k⟩] rfl g HB.out (by show _ * 24 ≤ _; simp; omega) (by simp; omega) (by simp; omega) ?_; intro A2 c2 w5 hown5 hg5 hat5; obtain ⟨s1, s2, s3, s4⟩ := HM2.out.step (r := ⟨some ⟨q, 0, none⟩, 6, SMrow k⟩) (q := q) HQG.out HRB2.out HQN.out hown5 hg5; have HS1 := Lib.hid s1; have HS2 := Lib.hid s2; clear s1 s2 hown5 hg5 hat5)
          go_roundw
          case rel => exact ⟨k + 1, hlt, by go_num, ⟨_, _, _, by rw [SMup_succ]; exact HS1.out⟩, (hext2.alloc hext2.size _).trans (by rw [← HG.out]; exact HS2.out)⟩
          case measure => simp [intOf]; omega
    · obtain rfl : k = 6 := by omega
      clear hlt hk hmk
      go_upto_region 14 with fail
      go_cut [12, 13] (fun s12 s13 wc => (∃ i j : Nat, i < 6 ∧ j < 6 ∧ s12 = .int .i64 (i : Int) ∧ s13 = .int .i64 (j : Int)) ∧ wo = wc)
      case first =>
        obtain ⟨ha0, ha1⟩ := HA.out
        obtain ⟨hb0, hb1⟩ := HB.out
        have m1 := Int.emod_nonneg a (b := 6) (by omega)
        have m2 := Int.emod_lt_of_pos a (b := 6) (by omega)
        have m3 := Int.emod_nonneg b (b := 6) (by omega)
        have m4 := Int.emod_lt_of_pos b (b := 6) (by omega)
        go_wp2
        go_meet
        exact ⟨⟨(a % 6).toNat, (b % 6).toNat, by omega, by omega, congrArg (Value.int .i64) (by omega), congrArg (Value.int .i64) (by omega)⟩, rfl⟩
      case rest =>
        obtain ⟨⟨i, j, hi, hj, rfl, rfl⟩, rfl⟩ := hcut
        clear HA HB
        have c0 := HM.blk.cell 0
        simp only [List.getElem?_toArray, List.getElem?_cons_zero] at c0
        have hrl : rs.length = 6 := by have := HM.len; rw [SMup_length] at this; exact this
        have HRL := Lib.hid hrl
        clear hrl
        go_wp2_with fail
        refine (latJoin_any A c rs i j _ _ (HM.matAt 0) (by rw [HRL.out]; decide)).mono ?_
        rintro e v1 ⟨rfl, y⟩
        rw [HM.is, SM_joinN hi hj, SM_joinB hi hj]
        replace HM := HM.ext y
        replace hx := ext_trans hx y
        clear y c0
        obtain ⟨J, hJ⟩ : ∃ J, J = bestUp i j 6 := ⟨_, rfl⟩
        rw [← hJ]
        have HJ := Lib.hid hJ
        clear hJ
        go_upto_region 16 with fail
        go_cut [16] (fun s16 wc => s16 = .int .i64 (wantV i j) ∧ Ext v1 wc)
        case first =>
          have p1 := HS.out _ hx i hi
          have p2 := HS.out _ hx j hj
          go_wp2
          go_quiet (fail)
          go_wp2
          go_meet
          exact ⟨rfl, ext_drewN _ _⟩
        case rest =>
          obtain ⟨rfl, P⟩ := hcut
          replace HM := HM.ext P
          replace hx := ext_trans hx P
          clear P
          obtain ⟨wz, rfl⟩ : ∃ wz : World, wz = wc := ⟨_, rfl⟩
          obtain ⟨Z, hZ⟩ : ∃ Z, Z = wantV i j := ⟨_, rfl⟩
          rw [← hZ]
          have HZ := Lib.hid hZ
          clear hZ
          go_wp2
          go_loopw [17, 18] (fun s n wr => ∃ k : Nat, k ≤ 6 ∧ n = .int .i64 (k : Int) ∧ (∃ t : Nat, s = .int .i64 (t : Int) ∧ Hid (t = bestUp i j k) ∧ t < 6) ∧ Ext wz wr) (fun _ n _ => 6 - (intOf n).toNat)
          case atStart => exact ⟨0, Nat.zero_le _, rfl, ⟨5, rfl, rfl, by decide⟩, Below.refl _ _⟩
          case round =>
            obtain ⟨k, hk, rfl, ⟨t, rfl, HT, ht⟩, hxr⟩ := hrel
            by_cases hlt : k < 6
            · have p1 := HS.out _ (ext_trans hx hxr) k hlt
              have p2 := HS.out _ (ext_trans hx hxr) t ht
              cases h1 : (bits .and .i64 (svN k : Int) Z == Z)
              · have HB : Hid (t = bestUp i j (k + 1)) := by
                  show _ = _
                  rw [bestUp, ← HT.out, ← HZ.out, h1]
                  simp
                go_wp2
                go_quiet (fail)
                go_wp2
                go_roundw
                case rel => exact ⟨k + 1, hlt, by go_num, ⟨t, rfl, HB, ht⟩, ext_trans hxr (ext_drewN _ _)⟩
                case measure => simp [intOf]; omega
              · cases h2 : (bits .and .i64 (svN t : Int) (svN k : Int) == (svN k : Int))
                · have HB : Hid (t = bestUp i j (k + 1)) := by
                    show _ = _
                    rw [bestUp, ← HT.out, ← HZ.out, h1, h2]
                    simp
                  go_wp2
                  go_quiet (fail)
                  go_wp2
                  go_roundw
                  case rel => exact ⟨k + 1, hlt, by go_num, ⟨t, rfl, HB, ht⟩, ext_trans hxr (ext_drewN _ _)⟩
                  case measure => simp [intOf]; omega
                · have HB : Hid (k = bestUp i j (k + 1)) := by
                    show _ = _
                    rw [bestUp, ← HT.out, ← HZ.out, h1, h2]
                    simp
                  go_wp2
                  go_quiet (fail)
                  go_wp2
                  go_roundw
                  case rel => exact ⟨k + 1, hlt, by go_num, ⟨k, rfl, HB, hlt⟩, ext_trans hxr (ext_drewN _ _)⟩
                  case measure => simp [intOf]; omega
            · obtain rfl : k = 6 := by omega
              obtain rfl : J = t := by rw [HJ.out, HT.out]
              clear hlt hk HJ HT ht HS HZ
              replace HM := HM.ext hxr
              replace hx := ext_trans hx hxr
              clear hxr
              obtain ⟨hd0, hd1⟩ := HD.out
              obtain ⟨x, g1, g2⟩ : ∃ x : Bool, (d % 2 == 1) = x ∧ (d % 2 == 0) = !x := by
                rcases Int.emod_two_eq d with h | h <;> rw [h]
                · exact ⟨false, rfl, rfl⟩
                · exact ⟨true, rfl, rfl⟩
              have m1 := Int.emod_nonneg d (b := 2) (by omega)
              have m2 := Int.emod_lt_of_pos d (b := 2) (by omega)
              have hti : 0 < rs.length := by rw [HRL.out]; decide
              have hr0 : rs[0].bs = SMrow 0 := by
                have h2 : (mat rs)[0]? = (SMup 6)[0]? := by rw [HM.is]
                rw [mat_get rs hti] at h2
                exact Option.some.inj h2
              have hr6 : rs[0].bs.length = 6 := by rw [hr0]; exact SMrow_length 0
              have htj : 5 < rs[0].bs.length := by rw [hr6]; decide
              obtain ⟨q, hqA, hq, hqc, hqf, HM2, hqb⟩ := HM.setBit hti htj x
              obtain ⟨adt, rfl, q0⟩ := (HM.matAt 0).row hti
              rw [hqA, hr6, add_zero] at q0
              rw [show (⟨q, 0, none⟩ : Addr).add 5 = ⟨q, 5, none⟩ from addr_at rfl rfl 5] at hqc hqf HM2 hqb
              have c0 := HM.blk.cell 0
              simp only [List.getElem?_toArray, List.getElem?_cons_zero] at c0
              rw [HRL.out] at c0
              obtain ⟨c9, hc9⟩ : ∃ c9, c9 = rs[0].c := ⟨_, rfl⟩
              rw [← hc9] at q0
              clear hc9
              obtain ⟨ts, hts⟩ : ∃ ts, ts = rs.set 0 (setRow rs[0] 5 x) := ⟨_, rfl⟩
              rw [← hts] at HM2
              obtain ⟨xo, hxo⟩ : ∃ xo, xo = rs[0].bs[5] := ⟨_, rfl⟩
              rw [← hxo] at hqc
              clear hxo
              have hl6 : ts.length ≤ 9223372036854775807 := by rw [hts, List.length_set, HRL.out]; decide
              have xw : Ext w2 (wr.setCell ⟨q, 5, none⟩ (.bool x)) := hx.trans (hqb.mono (by rw [HG.out]; omega))
              clear hts HM hx hqb hr0 hr6 htj hti hqA HRL HG hq HD
              go_upto_region 24 with fail
              clear q0 c0 hqc hqf
              generalize wr.setCell ⟨q, 5, none⟩ (.bool x) = w7 at HM2 xw ⊢
              have m0 := HM2.blk.cell 0
              simp only [List.getElem?_toArray, List.getElem?_cons_zero] at m0
              have HC := SM_turned x
              go_wp2_with fail
              refine (check_any (some adt) c ts _ 0 (HM2.matAt 0) hl6).mono ?_
              rintro e w8 ⟨rfl, y⟩
              rw [HM2.is]
              obtain ⟨L, hL⟩ : ∃ L, L = lchk (setM (SMup 6) 0 5 x) := ⟨_, rfl⟩
              rw [← hL] at HC ⊢
              clear hL
              go_wp2
              go_ret
              exact ⟨rfl, ext_trans x1 (ext_trans xw y)⟩
end Go.Proofs.Ytdknkbpgkkakhaa
