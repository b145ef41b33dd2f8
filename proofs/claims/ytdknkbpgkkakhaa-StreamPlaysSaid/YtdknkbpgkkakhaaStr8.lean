/- The law StreamTurns, walked. -/
import Derived.Test.YtdknkbpgkkakhaaStr7
namespace Go.Proofs.Ytdknkbpgkkakhaa
open Go.RowKit

def boolCells (b : Bool) : List Value := [.bool b]
abbrev BoolsAt (w : World) (B : Nat) (A : Option Addr) (ks : List Bool) : Prop := RowsAt w B 4 1 boolCells A ks
theorem BoolsAt.get {w : World} {B : Nat} {A : Option Addr} {ks : List Bool} (h : BoolsAt w B A ks) {k : Nat} (hk : k < ks.length) : ∃ ad, A = some ad ∧ w.cell? (ad.add k) = some (.bool ks[k]) := by
  obtain ⟨ad, e, _, hc⟩ := h k hk
  exact ⟨ad, e, by simpa [add_zero] using hc 0 _ rfl⟩

abbrev wKV : Wr := ⟨⟨#[107]⟩, false, ⟨#[118]⟩⟩
theorem wKV_ok : ∀ y ∈ [wKV], y.ok := by intro y hy; simp at hy; subst hy; exact ⟨by decide, by decide⟩
theorem is_kv (l : Int) (k : Nat) (t : Int) (hl : 0 ≤ l) (hl' : l ≤ 5) (hk : k ≤ 100) (ht : 0 ≤ t) (ht' : t ≤ 100) : It.is ⟨l, (k : Int) + 1, t, false, [wKV]⟩ = true := by
  have h1 : (shortKeys [wKV] && batchIs [wKV]) = true := by decide +kernel
  simp only [It.is, betw, h1]; simp; omega
theorem is_sh (l : Int) (k : Nat) (t : Int) (hl : 0 ≤ l) (hl' : l ≤ 5) (hk : k ≤ 100) (ht : 0 ≤ t) (ht' : t ≤ 100) : It.is ⟨l, (k : Int) + 1, t, true, []⟩ = true := by
  simp only [It.is, betw]; simp; omega

set_option maxRecDepth 100000 in
set_option maxHeartbeats 4000000 in
theorem streamTurns_walk (A : Option Addr) (c : Nat) (ks : List Bool) (w : World) (hA : BoolsAt w w.heap.size A ks) (hl : ks.length ≤ 9223372036854775807) :
    Calls Try.prog 4 #[.slice A ks.length c] w fun e w' => e = .returned (.bool true) ∧ Ext w w' := by
  by_cases h40 : ks.length ≤ 40
  · go_enter Try.func4, Try.ntmps4
    go_wp2_with fail
    refine (known19_any _).mono ?_
    rintro e w1 ⟨rfl, x1⟩
    go_wp2_with fail
    refine (strNew_any 0 _ w.heap.size x1.size).mono ?_
    rintro e w2 ⟨rfl, s1, x2⟩
    obtain ⟨g, hg⟩ : ∃ g, g = w1.heap.size := ⟨_, rfl⟩
    rw [← hg] at s1 ⊢
    have hw2 : Ext w w2 := ext_trans x1 x2
    clear x1 x2 hg
    go_wp2
    go_loopw [5, 4] (fun i tu wr => ∃ (k : Nat) (t : Nat) (xs : List Iv) (v : Value), k ≤ ks.length ∧ i = .int .i64 k ∧ tu = .int .i64 t ∧ (xs.length = k ∧ t ≤ k) ∧ StrAt wr w.heap.size 121 g 0 t xs v ∧ Ext w wr) (fun i _ _ => ks.length - (intOf i).toNat)
    case atStart => exact ⟨0, 0, [], _, Nat.zero_le _, rfl, rfl, ⟨rfl, Nat.le_refl _⟩, s1, hw2⟩
    case round =>
      obtain ⟨k, t, xs, v, hk, rfl, rfl, ⟨hx, htk⟩, s, hext⟩ := hrel
      have HX := Lib.hid hx; clear hx
      clear s1 hw2
      by_cases hlt : k < ks.length
      · obtain ⟨ad, hA0, h0⟩ := BoolsAt.get (RowsAt.ext hA hext) hlt
        subst hA0
        cases hb : ks[k]
        · rw [hb] at h0
          go_wp2_with fail
          have hR : RowsAt wr w.heap.size 47 3 Wr.cells none ([] : List Wr) := RowsAt.nil
          refine (strNext_any s ((t : Int) + 1) _ _ [] _ hR (by decide)).mono ?_
          rintro e w3 ⟨A3, c3, rfl, hW3, e3⟩
          rw [HX.out]
          replace hext := ext_trans hext e3
          replace s := s.ext e3
          replace hR := RowsAt.ext hR e3
          have a22 : addErr 0 t xs.length ⟨0, (k : Int) + 1, (t : Int) + 1, true, []⟩ = 22 := by
            have h1 := is_sh 0 k ((t : Int) + 1) (by decide) (by decide) (by omega) (by omega) (by omega)
            simp only [addErr, h1, HX.out]; simp; omega
          clear e3
          go_wp2_with fail
          refine (strAdd_err s ⟨0, (k : Int) + 1, (t : Int) + 1, true, []⟩ A3 c3 _ hW3 (by simp) (by simp) (by rw [a22]; decide)).mono ?_
          rw [a22]
          rintro e w4 ⟨rfl, e4⟩
          replace hext := ext_trans hext e4
          replace s := s.ext e4
          replace hR := RowsAt.ext hR e4
          clear e4 hW3 a22
          go_wp2_with fail
          refine (strNext_any s (t : Int) _ _ [] _ hR (by decide)).mono ?_
          rintro e w5 ⟨A5, c5, rfl, hW5, e5⟩
          rw [HX.out]
          replace hext := ext_trans hext e5
          replace s := s.ext e5
          have a0 : addErr 0 t xs.length ⟨0, (k : Int) + 1, (t : Int), true, []⟩ = 0 := by
            have h1 := is_sh 0 k (t : Int) (by decide) (by decide) (by omega) (by omega) (by omega)
            simp only [addErr, h1, HX.out]; simp
          clear e5 hR
          go_wp2_with fail
          refine (strAdd_ok s ⟨0, (k : Int) + 1, (t : Int), true, []⟩ A5 c5 hW5 (by simp) (by simp) a0).mono ?_
          rintro e w6 ⟨y, v6, rfl, hy, s6, m6, -⟩
          replace hext : Below w.heap.size w w6 := hext.trans (s.below_of m6)
          have HY := Lib.hid hy; clear hy m6 hW5 a0 s
          have HL : Hid ((xs ++ [y]).length = k + 1) := by show _ = _; simp [HX.out]
          go_wp2_with fail
          refine (strItem_some s6 ((k : Int) + 1) (by omega) (by rw [HL.out]; omega)).mono ?_
          rintro e w7 ⟨z, A7, c7, hz, rfl, -, e7⟩
          have hz' : z = y := by
            rw [show ((k : Int) + 1).toNat - 1 = xs.length by rw [HX.out]; omega] at hz
            simpa using hz.symm
          subst hz'
          rw [HY.out]
          replace hext := ext_trans hext e7
          replace s6 := s6.ext e7
          obtain ⟨adz, eA, h0z⟩ := BoolsAt.get (RowsAt.ext hA hext) hlt
          have eA' : ad = adz := Option.some.inj eA
          subst eA'
          rw [hb] at h0z
          replace h0z := ext_cell (ext_alloc w7 (.cells #[.int .i64 0, .int .i64 ((k : Int) + 1), .int .i64 t, .bool true, .slice A7 0 c7] 33)) h0z
          replace hext := ext_trans hext (ext_alloc w7 (.cells #[.int .i64 0, .int .i64 ((k : Int) + 1), .int .i64 t, .bool true, .slice A7 0 c7] 33))
          replace s6 := s6.ext (ext_alloc w7 (.cells #[.int .i64 0, .int .i64 ((k : Int) + 1), .int .i64 t, .bool true, .slice A7 0 c7] 33))
          have hwk : IntKind.i64.wrap ((k : Int) + 1) = (k : Int) + 1 := IntWalk.i64_in _ (by omega)
          clear h0 e7 eA hz
          go_wp2
          go_quiet (fail)
          go_wp2_with fail
          refine (strTurn_any (s6.ext (ext_drewN _ nq))).mono ?_
          rintro e w8 ⟨rfl, rfl⟩
          go_wp2
          go_roundw
          case rel => exact ⟨k + 1, t + 1, xs ++ [z], v6, hlt, by go_num, by go_num, ⟨HL.out, by omega⟩, s6.ext (ext_drewN _ nq), ext_trans hext (ext_drewN _ nq)⟩
          case measure => simp [intOf]; omega
        · rw [hb] at h0
          go_wp2_with fail
          have hR : RowsAt (wr.alloc (.cells (Wr.cells wKV).toArray 47)) w.heap.size 47 3 Wr.cells (some ⟨wr.heap.size, 0, none⟩) [wKV] := rows_block (E := elWr) wKV (Blk.new wr 47 (Wr.cells wKV).toArray)
          replace hext := ext_trans hext (ext_alloc wr (.cells (Wr.cells wKV).toArray 47))
          replace s := s.ext (ext_alloc wr (.cells (Wr.cells wKV).toArray 47))
          refine (strNext_any s ((t : Int) + 1) _ _ [wKV] _ hR (by decide)).mono ?_
          rintro e w3 ⟨A3, c3, rfl, hW3, e3⟩
          rw [HX.out]
          replace hext := ext_trans hext e3
          replace s := s.ext e3
          replace hR := RowsAt.ext hR e3
          have a22 : addErr 0 t xs.length ⟨0, (k : Int) + 1, (t : Int) + 1, false, [wKV]⟩ = 22 := by
            have h1 := is_kv 0 k ((t : Int) + 1) (by decide) (by decide) (by omega) (by omega) (by omega)
            simp only [addErr, h1, HX.out]; simp; omega
          clear e3
          go_wp2_with fail
          refine (strAdd_err s ⟨0, (k : Int) + 1, (t : Int) + 1, false, [wKV]⟩ A3 c3 _ hW3 wKV_ok (by simp) (by rw [a22]; decide)).mono ?_
          rw [a22]
          rintro e w4 ⟨rfl, e4⟩
          replace hext := ext_trans hext e4
          replace s := s.ext e4
          replace hR := RowsAt.ext hR e4
          clear e4 hW3 a22
          go_wp2_with fail
          refine (strNext_any s (t : Int) _ _ [wKV] _ hR (by decide)).mono ?_
          rintro e w5 ⟨A5, c5, rfl, hW5, e5⟩
          rw [HX.out]
          replace hext := ext_trans hext e5
          replace s := s.ext e5
          have a0 : addErr 0 t xs.length ⟨0, (k : Int) + 1, (t : Int), false, [wKV]⟩ = 0 := by
            have h1 := is_kv 0 k (t : Int) (by decide) (by decide) (by omega) (by omega) (by omega)
            simp only [addErr, h1, HX.out]; simp
          clear e5 hR
          go_wp2_with fail
          refine (strAdd_ok s ⟨0, (k : Int) + 1, (t : Int), false, [wKV]⟩ A5 c5 hW5 wKV_ok (by simp) a0).mono ?_
          rintro e w6 ⟨y, v6, rfl, hy, s6, m6, -⟩
          replace hext : Below w.heap.size w w6 := hext.trans (s.below_of m6)
          have HY := Lib.hid hy; clear hy m6 hW5 a0 s
          have HL : Hid ((xs ++ [y]).length = k + 1) := by show _ = _; simp [HX.out]
          go_wp2_with fail
          refine (strItem_some s6 ((k : Int) + 1) (by omega) (by rw [HL.out]; omega)).mono ?_
          rintro e w7 ⟨z, A7, c7, hz, rfl, -, e7⟩
          have hz' : z = y := by
            rw [show ((k : Int) + 1).toNat - 1 = xs.length by rw [HX.out]; omega] at hz
            simpa using hz.symm
          subst hz'
          rw [HY.out]
          replace hext := ext_trans hext e7
          replace s6 := s6.ext e7
          obtain ⟨adz, eA, h0z⟩ := BoolsAt.get (RowsAt.ext hA hext) hlt
          have eA' : ad = adz := Option.some.inj eA
          subst eA'
          rw [hb] at h0z
          replace h0z := ext_cell (ext_alloc w7 (.cells #[.int .i64 0, .int .i64 ((k : Int) + 1), .int .i64 t, .bool false, .slice A7 1 c7] 33)) h0z
          replace hext := ext_trans hext (ext_alloc w7 (.cells #[.int .i64 0, .int .i64 ((k : Int) + 1), .int .i64 t, .bool false, .slice A7 1 c7] 33))
          replace s6 := s6.ext (ext_alloc w7 (.cells #[.int .i64 0, .int .i64 ((k : Int) + 1), .int .i64 t, .bool false, .slice A7 1 c7] 33))
          have hwk : IntKind.i64.wrap ((k : Int) + 1) = (k : Int) + 1 := IntWalk.i64_in _ (by omega)
          clear h0 e7 eA hz
          go_wp2
          go_quiet (fail)
          go_wp2_with fail
          refine (strTurn_any (s6.ext (ext_drewN _ nq))).mono ?_
          rintro e w8 ⟨rfl, rfl⟩
          go_wp2
          go_roundw
          case rel => exact ⟨k + 1, t, xs ++ [z], v6, hlt, by go_num, rfl, ⟨HL.out, by omega⟩, s6.ext (ext_drewN _ nq), ext_trans hext (ext_drewN _ nq)⟩
          case measure => simp [intOf]; omega
      · obtain rfl : k = ks.length := by omega
        go_wp2_with fail
        refine (strLen_any s).mono ?_
        rintro e w8 ⟨rfl, rfl⟩
        rw [HX.out]
        go_wp2
        go_ret
        exact ⟨rfl, hext⟩
  · go_enter Try.func4, Try.ntmps4
    go_wp2_with fail
    refine (known19_any _).mono ?_
    rintro e w1 ⟨rfl, x1⟩
    go_wp2
    go_ret
    exact ⟨rfl, x1⟩
end Go.Proofs.Ytdknkbpgkkakhaa
