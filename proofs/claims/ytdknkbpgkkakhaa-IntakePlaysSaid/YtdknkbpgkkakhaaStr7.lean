/- The law file's own few and known, over streams. -/
import Derived.Test.YtdknkbpgkkakhaaStr6
namespace Go.Proofs.Ytdknkbpgkkakhaa
open Go.RowKit

def fewIts (k : Nat) (xs : List Iv) : Bool := xs.all (fun x => decide (x.it.ws.length ≤ 10)) && decide (xs.length ≤ k)

set_option maxHeartbeats 1000000 in
theorem few19_any (A : Option Addr) (c : Nat) (xs : List Iv) (w : World) (B : Nat) (hA : RowsIv w B A xs) (hl : xs.length ≤ 9223372036854775807) :
    Calls Try.prog 22 #[.slice A xs.length c] w fun e w' => e = .returned (.bool (fewIts 30 xs)) ∧ w = w' := by
  go_enter Try.func22, Try.ntmps22
  go_wp2
  go_loop [3] (fun i => ∃ k : Nat, k ≤ xs.length ∧ i = .int .i64 k ∧ (xs.all fun x => decide (x.it.ws.length ≤ 10)) = ((xs.drop k).all fun x => decide (x.it.ws.length ≤ 10))) (fun i => xs.length - (intOf i).toNat)
  case atStart => exact ⟨0, Nat.zero_le _, rfl, rfl⟩
  case round =>
    obtain ⟨k, hk, rfl, hgo⟩ := hrel
    have HG := Lib.hid hgo; clear hgo
    by_cases hlt : k < xs.length
    · obtain ⟨ad, rfl, h0, h1, h2, h3, h4⟩ := RowsIv.get hA hlt
      have hdrop : ((xs.drop k).all fun x => decide (x.it.ws.length ≤ 10)) = (decide (xs[k].it.ws.length ≤ 10) && ((xs.drop (k + 1)).all fun x => decide (x.it.ws.length ≤ 10))) := by rw [List.drop_eq_getElem_cons hlt]; rfl
      have HD := Lib.hid hdrop; clear hdrop hA
      by_cases h10 : xs[k].it.ws.length ≤ 10
      · go_wp2
        go_round
        case rel => exact ⟨k + 1, hlt, by go_num, by rw [HG.out, HD.out]; simp [h10]⟩
        case measure => simp [intOf]; omega
      · go_wp2
        go_ret
        exact ⟨ret_bool (by unfold fewIts; rw [HG.out, HD.out]; simp [h10]), rfl⟩
    · obtain rfl : k = xs.length := by omega
      go_wp2
      go_ret
      refine ⟨ret_bool ?_, rfl⟩
      unfold fewIts; rw [HG.out, List.drop_length]
      rw [Bool.eq_iff_iff]; simp; omega

/-- What Add may turn: the stream's own blocks. -/
theorem StrAt.keeps_of {w w' : World} {B : Nat} {T : TypeId} {g : Nat} {lev turn : Int} {xs : List Iv} {v : Value} (h : StrAt w B T g lev turn xs v) (m : Mods (fun k => k = g ∨ RowOf v k) w w') : Keeps B [T, 33] w w' :=
  Keeps.of_mods m fun k hk => by
    rcases hk with rfl | hk
    · refine ⟨h.base, fun cs t fr hb => ?_⟩
      have := h.blk
      unfold Blk at this
      rw [this] at hb
      injection hb with hb
      injection hb with _ hb
      simp [hb]
    · obtain ⟨h1, h2⟩ := own_typed h.own hk
      exact ⟨h1, fun cs t fr hb => by rw [h2 cs t fr hb]; simp⟩
theorem StrAt.below_of {w w' : World} {B : Nat} {T : TypeId} {g : Nat} {lev turn : Int} {xs : List Iv} {v : Value} (h : StrAt w B T g lev turn xs v) (m : Mods (fun k => k = g ∨ RowOf v k) w w') : Below B w w' :=
  m.below (by have := h.base; have := h.blk.lt; omega) fun k hk => by
    rcases hk with rfl | hk
    · exact h.base
    · exact (own_typed h.own hk).1
/-- Another stream is not touched. -/
theorem StrAt.apart {w w' : World} {B : Nat} {T T' : TypeId} {g g' : Nat} {lev turn lev' turn' : Int} {xs xs' : List Iv} {v v' : Value} (h : StrAt w B T g lev turn xs v) (h' : StrAt w B T' g' lev' turn' xs' v') (m : Mods (fun k => k = g ∨ RowOf v k) w w')
    (h1 : g' ≠ g) (h2 : ∀ b, RowOf v' b → ¬ RowOf v b) (ht : T ≠ 33) (ht' : T' ≠ 33) (ht3 : T ≠ 47) : StrAt w' B T' g' lev' turn' xs' v' := by
  refine ⟨h'.blk.mods m ?_, h'.base, own_mods h'.own m ?_, fun x hx => (h'.ok x hx).keeps (h.keeps_of m) (by simp; exact fun e => ht3 e.symm), h'.len⟩
  · rintro (e | e)
    · exact h1 e
    · exact h'.blk.ne_own h.own (fun e => ht' e.symm) e
  · rintro b hb (e | e)
    · subst e; exact h.blk.ne_own h'.own (fun e => ht e.symm) hb
    · exact h2 b hb e

theorem StrAt.le {w : World} {B : Nat} {T : TypeId} {g : Nat} {lev turn : Int} {xs : List Iv} {v : Value} (h : StrAt w B T g lev turn xs v) : B ≤ w.heap.size := by have := h.base; have := h.blk.lt; omega
theorem below_then {B : Nat} {w w1 w2 : World} (h : Below B w w1) (hB : B ≤ w1.heap.size) (k : Ext w1 w2) : Below B w w2 := h.trans (k.mono hB)

abbrev wAB : Wr := ⟨⟨#[97]⟩, false, ⟨#[98]⟩⟩
theorem wAB_ok : ∀ y ∈ [wAB], y.ok := by intro y hy; simp at hy; subst hy; exact ⟨by decide, by decide⟩

set_option maxRecDepth 100000 in
set_option maxHeartbeats 4000000 in
theorem known19_any (w : World) : Calls Try.prog 21 #[] w fun e w' => e = .returned (.bool true) ∧ Ext w w' := by
  go_enter Try.func21, Try.ntmps21
  go_wp2_with fail
  refine (strNew_any 2 _ w.heap.size (Nat.le_refl _)).mono ?_
  rintro e w1 ⟨rfl, s1, x1⟩
  obtain ⟨g, hg⟩ : ∃ g, w.heap.size = g := ⟨_, rfl⟩
  rw [hg] at s1 ⊢
  have HG := Lib.hid hg; clear hg
  go_wp2_with fail
  have hR : RowsAt (w1.alloc (.cells (Wr.cells wAB).toArray 47)) g 47 3 Wr.cells (some ⟨w1.heap.size, 0, none⟩) [wAB] := rows_block (E := elWr) wAB (Blk.new w1 47 (Wr.cells wAB).toArray)
  replace s1 := s1.ext (ext_alloc w1 (.cells (Wr.cells wAB).toArray 47))
  have x2 : Below g w (w1.alloc (.cells (Wr.cells wAB).toArray 47)) := HG.out ▸ (ext_trans x1 (ext_alloc _ _))
  clear x1
  refine (strNext_any s1 0 _ _ [wAB] g hR (by decide)).mono ?_
  rintro e w2 ⟨A2, c2, rfl, hW2, e2⟩
  replace s1 := s1.ext e2
  replace hR := hR.ext e2
  replace x2 := x2.trans (e2.mono (by have := s1.base; have := x2.size; have := HG.out; omega))
  clear e2
  go_wp2_with fail
  refine (strAdd_ok s1 ⟨2, 1, 0, false, [wAB]⟩ A2 c2 hW2 wAB_ok (by decide) (by decide +kernel)).mono ?_
  rintro e w3 ⟨y1, v1, rfl, hy1, s3, m3, -⟩
  replace hR := hR.keeps (s1.keeps_of m3) (by decide)
  replace x2 := x2.trans (s1.below_of m3)
  replace s3 : StrAt w3 g 121 g 2 0 [y1] v1 := s3
  clear m3 hW2 s1
  have HY1 := Lib.hid hy1; clear hy1
  go_wp2_with fail
  refine (strAdd_err s3 ⟨2, 1, 0, false, [wAB]⟩ _ _ g hR wAB_ok (by decide) (by decide +kernel : addErr 2 0 1 ⟨2, 1, 0, false, [wAB]⟩ ≠ 0)).mono ?_
  rintro e w4 ⟨rfl, e4⟩
  rw [show addErr 2 0 [y1].length ⟨2, 1, 0, false, [wAB]⟩ = 23 from (by decide +kernel : addErr 2 0 1 ⟨2, 1, 0, false, [wAB]⟩ = 23)]
  replace x2 := below_then x2 s3.le e4
  replace s3 := s3.ext e4
  replace hR := hR.ext e4
  clear e4
  go_wp2_with fail
  refine (strAdd_err s3 ⟨1, 2, 0, false, [wAB]⟩ _ _ g hR wAB_ok (by decide) (by decide +kernel : addErr 2 0 1 ⟨1, 2, 0, false, [wAB]⟩ ≠ 0)).mono ?_
  rintro e w5 ⟨rfl, e5⟩
  rw [show addErr 2 0 [y1].length ⟨1, 2, 0, false, [wAB]⟩ = 20 from (by decide +kernel : addErr 2 0 1 ⟨1, 2, 0, false, [wAB]⟩ = 20)]
  replace x2 := below_then x2 s3.le e5
  replace s3 := s3.ext e5
  clear e5 hR
  go_wp2_with fail
  refine (strNext_any s3 1 none 0 [] g RowsAt.nil (by decide)).mono ?_
  rintro e w6 ⟨A6, c6, rfl, hW6, e6⟩
  replace x2 := below_then x2 s3.le e6
  replace s3 := s3.ext e6
  clear e6
  go_wp2_with fail
  refine (strAdd_err s3 ⟨2, 2, 1, true, []⟩ A6 c6 g hW6 (by simp) (by decide) (by decide +kernel : addErr 2 0 1 ⟨2, 2, 1, true, []⟩ ≠ 0)).mono ?_
  rintro e w7 ⟨rfl, e7⟩
  rw [show addErr 2 0 [y1].length ⟨2, 2, 1, true, []⟩ = 22 from (by decide +kernel : addErr 2 0 1 ⟨2, 2, 1, true, []⟩ = 22)]
  replace x2 := below_then x2 s3.le e7
  replace s3 := s3.ext e7
  clear e7 hW6
  go_wp2_with fail
  refine (strCopy_any s3).mono ?_
  rintro e w8 ⟨g', v', rfl, t8, hg', hv', e8⟩
  have hgg : g < g' := by have := s3.blk.lt; omega
  have hvv : ∀ b, RowOf v' b → ¬ RowOf v1 b := fun b h1 h2 => by
    have := hv' b h1
    have := (World.ownsRow.lt s3.own b h2).2
    omega
  replace x2 := below_then x2 s3.le e8
  replace s3 := s3.ext e8
  clear e8 hg' hv'
  go_wp2_with fail
  refine (strNext_any s3 0 none 0 [] g RowsAt.nil (by decide)).mono ?_
  rintro e w9 ⟨A9, c9, rfl, hW9, e9⟩
  replace x2 := below_then x2 s3.le e9
  replace s3 := s3.ext e9
  replace t8 := t8.ext e9
  clear e9
  go_wp2_with fail
  refine (strAdd_ok s3 ⟨2, 2, 0, true, []⟩ A9 c9 hW9 (by simp) (by decide) (by decide +kernel : addErr 2 0 1 ⟨2, 2, 0, true, []⟩ = 0)).mono ?_
  rintro e w10 ⟨y2, v2, rfl, hy2, s4, m4, -⟩
  replace x2 := x2.trans (s3.below_of m4)
  replace t8 := s3.apart t8 m4 (by omega) hvv (by decide) (by decide) (by decide)
  replace s4 : StrAt w10 g 121 g 2 1 [y1, y2] v2 := s4
  have HY2 := Lib.hid hy2; clear hy2
  clear m4 hW9 s3 hvv
  go_wp2_with fail
  refine (strItem_some s4 2 (by decide) (by simp)).mono ?_
  rintro e w11 ⟨z, A11, c11, hz, rfl, -, e11⟩
  have hz' : z = y2 := by simpa using hz.symm
  subst hz'
  have hsh : z.it.shut = true := by rw [HY2.out]
  replace x2 := below_then x2 s4.le e11
  replace s4 := s4.ext e11
  replace t8 := t8.ext e11
  clear e11 hz
  go_wp2_with fail
  replace x2 := below_then x2 s4.le (ext_alloc w11 (.cells #[.int .i64 z.it.level, .int .i64 z.it.n, .int .i64 z.it.turn, .bool true, .slice A11 z.it.ws.length c11] 33))
  replace s4 := s4.ext (ext_alloc w11 (.cells #[.int .i64 z.it.level, .int .i64 z.it.n, .int .i64 z.it.turn, .bool true, .slice A11 z.it.ws.length c11] 33))
  replace t8 := t8.ext (ext_alloc w11 (.cells #[.int .i64 z.it.level, .int .i64 z.it.n, .int .i64 z.it.turn, .bool true, .slice A11 z.it.ws.length c11] 33))
  refine (strItem_none t8 2 (.inr (by simp))).mono ?_
  rintro e w12 ⟨rfl, e12⟩
  have k3 : w12.cell? ⟨w11.heap.size, 3, none⟩ = some (.bool true) := by
    refine ext_cell e12 ?_
    exact (Blk.new w11 33 #[.int .i64 z.it.level, .int .i64 z.it.n, .int .i64 z.it.turn, .bool true, .slice A11 z.it.ws.length c11]).cell 3
  have hz12 : w11.heap.size < w12.heap.size := by have := e12.size; simp at this; omega
  replace x2 := below_then x2 s4.le e12
  replace s4 := s4.ext e12
  replace t8 := t8.ext e12
  clear e12
  go_wp2_with fail
  replace x2 := below_then x2 s4.le (ext_alloc w12 zero33)
  replace s4 := s4.ext (ext_alloc w12 zero33)
  replace t8 := t8.ext (ext_alloc w12 zero33)
  refine (strTurn_any s4).mono ?_
  rintro e w13 ⟨rfl, rfl⟩
  go_wp2_with fail
  refine (strTurn_any t8).mono ?_
  rintro e w13 ⟨rfl, rfl⟩
  go_wp2_with fail
  refine (strLen_any s4).mono ?_
  rintro e w13 ⟨rfl, rfl⟩
  go_wp2_with fail
  refine (strFrom_any s4 2 9 (by decide)).mono ?_
  rintro e w14 ⟨v14, ys, rfl, o14, -, hys, e14⟩
  have hl : ys.length = 1 := by
    have := congrArg List.length hys
    rw [its_length] at this
    rw [this]; rfl
  obtain ⟨A14, c14, rfl⟩ := o14.form
  rw [hl]
  go_wp2
  go_ret
  refine ⟨rfl, ?_⟩
  show Below w.heap.size w _
  rw [HG.out]
  exact below_then x2 s4.le e14
end Go.Proofs.Ytdknkbpgkkakhaa
