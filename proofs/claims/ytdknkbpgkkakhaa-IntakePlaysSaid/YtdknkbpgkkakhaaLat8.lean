/- Layer 1: Order, of the document. -/
import Derived.Test.YtdknkbpgkkakhaaLat7
namespace Go.Proofs.Ytdknkbpgkkakhaa
open Go.RowKit

def freeUp (m : Mat) (out : List Nat) (j : Nat) (l : Nat) : Bool := !out.contains j && (List.range l).all fun b => out.contains b || !labove m j b
theorem freeUp_zero (m : Mat) (out : List Nat) (j : Nat) : freeUp m out j 0 = !out.contains j := by simp [freeUp]
theorem freeUp_succ (m : Mat) (out : List Nat) (j l : Nat) : freeUp m out j (l + 1) = (freeUp m out j l && (out.contains l || !labove m j l)) := by
  simp [freeUp, List.range_succ, List.all_append, Bool.and_assoc]
theorem freeUp_all (m : Mat) (out : List Nat) (j : Nat) : freeUp m out j (levels m) = lfree m out j := by
  unfold freeUp lfree
  congr 1
  rw [Bool.eq_iff_iff, List.all_eq_true, List.all_eq_true]
  constructor
  · intro h b hb
    have h1 := h b (List.mem_range.2 (below_lt hb))
    rw [mem_below.1 hb] at h1
    simpa using h1
  · intro h b _
    cases hab : labove m j b
    · simp
    · have := h b (mem_below.2 hab); rw [this]; rfl

set_option maxRecDepth 100000 in
set_option maxHeartbeats 4000000 in
theorem refOrder_any (A : Option Addr) (c : Nat) (rs : List Rw) (w : World) (B : Nat) (hA : MatAt w B A rs) (hl : rs.length ≤ 9223372036854775807) :
    Calls Try.prog 54 #[.agg #[.slice A rs.length c]] w (NatsPost w (lorder (mat rs))) := by
  have h6 := levels_le (mat rs)
  have b0 : Blk (w.alloc (.cells #[.slice A rs.length c] 53)) w.heap.size 53 #[.slice A rs.length c] := Blk.new w 53 #[.slice A rs.length c]
  have hx := ext_alloc w (.cells #[.slice A rs.length c] 53)
  go_enter Try.func54, Try.ntmps54
  go_upto_region 1 with fail
  generalize w.alloc (.cells #[.slice A rs.length c] 53) = w1 at b0 hx ⊢
  obtain ⟨N, hN⟩ : ∃ N, N = levels (mat rs) := ⟨_, rfl⟩
  rw [← hN] at h6
  have HN := Lib.hid hN; clear hN
  go_wp2
  have D0 : DoneBlk (w1.alloc (.cells #[.bool false, .bool false, .bool false, .bool false, .bool false, .bool false] 129)) ⟨w1.heap.size, 0, none⟩ 6 [] :=
    ⟨⟨_, _, Blk.new w1 129 _, rfl, fun b hb => by
      have : b = 0 ∨ b = 1 ∨ b = 2 ∨ b = 3 ∨ b = 4 ∨ b = 5 := by omega
      rcases this with rfl | rfl | rfl | rfl | rfl | rfl <;> rfl⟩, rfl, rfl⟩
  have hx2 := ext_alloc w1 (.cells #[.bool false, .bool false, .bool false, .bool false, .bool false, .bool false] 129)
  have hg : w1.heap.size + 1 ≤ (w1.alloc (.cells #[.bool false, .bool false, .bool false, .bool false, .bool false, .bool false] 129)).heap.size := by simp
  obtain ⟨ad, had, hab⟩ : ∃ ad : Addr, ad = ⟨w1.heap.size, 0, none⟩ ∧ ad.block = w1.heap.size := ⟨_, rfl, rfl⟩
  rw [← had] at D0 ⊢
  generalize w1.alloc (.cells #[.bool false, .bool false, .bool false, .bool false, .bool false, .bool false] 129) = w2 at D0 hx2 hg ⊢
  have HAB := Lib.hid hab
  clear had hab
  go_loopw [3] (fun v wr => ∃ (out : List Nat), out.length ≤ N ∧ Hid (Taken (mat rs) out) ∧ Hid (orderGo (mat rs) (N - out.length) out = lorder (mat rs)) ∧ Own elNat wr (w1.heap.size + 1) v out ∧ DoneBlk wr ad 6 out ∧ Ext w1 wr ∧ w1.heap.size + 1 ≤ wr.heap.size) (fun v _ => N - lenOf v)
  case atStart => exact ⟨[], Nat.zero_le _, Taken.nil _, by show _ = _; rw [HN.out]; rfl, Own.nil _ _, D0, hx2, hg⟩
  case round =>
    obtain ⟨out, hk, HT, HG, hown, hD, hext, hz⟩ := hrel
    clear D0 hx2 hg
    obtain ⟨Ao, co, rfl⟩ := hown.form
    have c0 := (b0.ext hext).cell 0
    simp only [List.getElem?_toArray, List.getElem?_cons_zero] at c0
    go_wp2_with fail
    refine (refLevels_any A c rs _ B (hA.ext (ext_trans hx hext)) hl).mono ?_
    rintro e wo ⟨rfl, xo⟩
    rw [← HN.out]
    replace hown := hown.ext xo
    replace hD := hD.ext xo
    replace hext := ext_trans hext xo
    replace hz := Nat.le_trans hz xo.size
    clear xo c0
    by_cases hlt : out.length < N
    · obtain ⟨k, hkk⟩ : ∃ k, N = out.length + (k + 1) := ⟨N - out.length - 1, by omega⟩
      obtain ⟨a, hfind, hgo, ha, hf⟩ := order_step (k := k) HT.out (by rw [← HN.out]; omega)
      have hfirst := find_first hfind
      rw [← HN.out] at ha
      have HF := Lib.hid (And.intro hfirst.2.1 hfirst.2.2)
      have HG2 : Hid (orderGo (mat rs) (N - (out ++ [a]).length) (out ++ [a]) = lorder (mat rs)) := by
        show _ = _
        rw [← HG.out, show N - out.length = k + 1 by omega, hgo]; simp; rw [show N - (out.length + 1) = k by omega]
      clear hfind hgo hf hfirst hkk
      go_wp2
      go_loopw [3, 5] (fun v i wi => v = .slice Ao out.length co ∧ ∃ j : Nat, j ≤ a ∧ i = .int .i64 j ∧ Ext wo wi) (fun _ i _ => N - (intOf i).toNat)
      case atStart => exact ⟨rfl, 0, Nat.zero_le _, rfl, Below.refl _ _⟩
      case round =>
        obtain ⟨rfl, j, hj, rfl, hxi⟩ := hrel
        have hjN : j < N := by omega
        have c0 := (b0.ext (ext_trans hext hxi)).cell 0
        simp only [List.getElem?_toArray, List.getElem?_cons_zero] at c0
        go_wp2_with fail
        refine (refLevels_any A c rs _ B (hA.ext (ext_trans hx (ext_trans hext hxi))) hl).mono ?_
        rintro e w3 ⟨rfl, x3⟩
        rw [← HN.out]
        replace hxi := ext_trans hxi x3
        clear x3 c0
        have hj6 : j < 6 := by omega
        have hD3 := hD.ext hxi
        have p0 := hD3.cell hj6
        obtain ⟨bb, hbb⟩ : ∃ bb, bb = out.contains j := ⟨_, rfl⟩
        rw [← hbb] at p0
        have HBB := Lib.hid hbb; clear hbb
        go_wp2
        go_loopw [6, 7] (fun o i wl => ∃ l : Nat, l ≤ N ∧ i = .int .i64 l ∧ (∃ b, o = .bool b ∧ Hid (b = freeUp (mat rs) out j l)) ∧ Ext wo wl) (fun _ i _ => N - (intOf i).toNat)
        case atStart => exact ⟨0, Nat.zero_le _, rfl, ⟨_, rfl, by show _ = _; rw [freeUp_zero, HBB.out]⟩, hxi⟩
        case round =>
          obtain ⟨l, hll, rfl, ⟨ok, rfl, HK⟩, hxl⟩ := hrel
          clear p0 hD3
          have c0 := (b0.ext (ext_trans hext hxl)).cell 0
          simp only [List.getElem?_toArray, List.getElem?_cons_zero] at c0
          go_wp2_with fail
          refine (refLevels_any A c rs _ B (hA.ext (ext_trans hx (ext_trans hext hxl))) hl).mono ?_
          rintro e w4 ⟨rfl, x4⟩
          rw [← HN.out]
          replace hxl := ext_trans hxl x4
          replace c0 := ext_cell x4 c0
          clear x4
          by_cases hlN : l < N
          · have hl6 : l < 6 := by omega
            cases ok
            · go_wp2
              go_roundw
              case rel => exact ⟨l + 1, hlN, by go_num, ⟨_, rfl, by show _ = _; rw [freeUp_succ, ← HK.out]; rfl⟩, hxl⟩
              case measure => simp [intOf]; omega
            · have p0 := (hD.ext hxl).cell hl6
              obtain ⟨bl, hbl⟩ : ∃ bl, bl = out.contains l := ⟨_, rfl⟩
              rw [← hbl] at p0
              have HBL := Lib.hid hbl; clear hbl
              cases bl
              · go_wp2_with fail
                refine (refAbove_any A c rs j l _ B (hA.ext (ext_trans hx (ext_trans hext hxl))) hl).mono ?_
                rintro e w5 ⟨rfl, x5⟩
                replace hxl := ext_trans hxl x5
                clear x5 c0 p0
                go_wp2
                go_roundw
                case rel => exact ⟨l + 1, hlN, by go_num, ⟨_, rfl, by show _ = _; rw [freeUp_succ, ← HK.out, ← HBL.out]; rfl⟩, hxl⟩
                case measure => simp [intOf]; omega
              · go_wp2
                go_roundw
                case rel => exact ⟨l + 1, hlN, by go_num, ⟨_, rfl, by show _ = _; rw [freeUp_succ, ← HK.out, ← HBL.out]; rfl⟩, hxl⟩
                case measure => simp [intOf]; omega
          · obtain rfl : l = N := by omega
            have HK2 : Hid (ok = lfree (mat rs) out j) := by show _ = _; rw [HK.out, HN.out, freeUp_all]
            clear HK
            cases ok
            · go_wp2
              go_roundw
              case rel => exact ⟨by trivial, j + 1, by
                have h1 : j ≠ a := by
                  intro e
                  subst e
                  have := HF.out.1
                  rw [← HK2.out] at this; cases this
                omega, by go_num, hxl⟩
              case measure => simp [intOf]; omega
            · have hja : j = a := by
                by_cases h : j = a
                · exact h
                · exfalso
                  have h1 := HF.out.2 j (by omega)
                  rw [← HK2.out] at h1; cases h1
              subst hja
              have hD4 := hD.ext hxl
              have f1 := hD4.free j
              have p1 := hD4.cell hj6
              have hDs := hD4.set hj6
              have hBs : Below (w1.heap.size) w4 (w4.setCell (ad.add j) (.bool true)) := set_below (Nat.le_of_eq HAB.out.symm)
              have hownW : Own elNat (w4.setCell (ad.add j) (.bool true)) (w1.heap.size + 1) (.slice Ao out.length co) out :=
                (hown.ext hxl).mods (mods_setCell _ _ _) (fun b hb e => by
                  have h1 := ((hown.ext hxl).typed hb).1
                  rw [block_of_add, HAB.out] at e
                  omega)
              go_upto_region 14 with fail
              have hzW : w1.heap.size + 1 ≤ (w4.setCell (ad.add j) (.bool true)).heap.size := Nat.le_trans hz (Nat.le_trans hxl.size (set_below (B := 0) (Nat.zero_le _)).size)
              have hextW : Ext w1 (w4.setCell (ad.add j) (.bool true)) := hext.trans ((hxl.mono hext.size).trans hBs)
              generalize w4.setCell (ad.add j) (.bool true) = W at hDs hownW hzW hextW ⊢
              clear hBs f1 hD4 p1
              have HO := Lib.hid (hownW.ext (ext_alloc W (.cells #[.int .i64 (j : Int)] 3)))
              have HB := Lib.hid (rows_nat (w := W) (B := B) j)
              go_wp2_with (at_builtin; refine wpList_append elNat rfl _ _ rfl (w1.heap.size + 1) (.slice Ao out.length co) out rfl HO.out _ 1 [j] rfl B HB.out (by show _ * 8 ≤ _; simp; omega) (by simp; omega) (by simp; omega) ?_; intro A2 c2 w5 hown5 hg5 hat5)
              have hw5 : Below (w1.heap.size + 1) W w5 := ((Below.refl _ _).alloc hzW _).grown hg5 (by simp; omega) (fun j hj => (HO.out.typed hj).1)
              go_roundw
              case rel => exact ⟨out ++ [j], by simp; omega, HT.out.snoc (by rw [← HN.out]; exact ha) HF.out.1, HG2.out, by simpa using hown5, hDs.below hw5 (by rw [HAB.out]; exact Nat.lt_succ_self _), hextW.trans (hw5.mono (by omega)), Nat.le_trans hzW hw5.size⟩
              case measure => simp [lenOf]; omega
    · have he : N - out.length = 0 := by omega
      have HE : Hid (out = lorder (mat rs)) := by show _ = _; rw [← HG.out, he]; rfl
      clear he
      go_wp2
      go_ret
      exact ⟨_, rfl, by rw [← HE.out]; exact hown.le (by have := hx.size; omega), ext_trans hx hext⟩
end Go.Proofs.Ytdknkbpgkkakhaa
