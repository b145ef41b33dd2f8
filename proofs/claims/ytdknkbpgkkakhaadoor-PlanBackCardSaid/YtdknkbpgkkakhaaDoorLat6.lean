/- Layer 1: Covers, of the program and of the document. -/
import Derived.Test.YtdknkbpgkkakhaaDoorLat5
namespace Go.Proofs.YtdknkbpgkkakhaaDoor
open Go.RowKit

def isTop (m : Mat) (ls : List Nat) (b : Nat) (k : Nat) : Bool := (ls.take k).all fun c => !labove m c b
theorem isTop_zero (m : Mat) (ls : List Nat) (b : Nat) : isTop m ls b 0 = true := rfl
theorem take_snoc_nat {ls : List Nat} {k : Nat} (hk : k < ls.length) : ls.take (k + 1) = ls.take k ++ [ls[k]] := by
  rw [List.take_succ_eq_append_getElem hk]
theorem isTop_succ {m : Mat} {ls : List Nat} {b k : Nat} (hk : k < ls.length) : isTop m ls b (k + 1) = (isTop m ls b k && !labove m ls[k] b) := by
  rw [isTop, take_snoc_nat hk, List.all_append]; simp [isTop]
theorem isTop_no {m : Mat} {ls : List Nat} {b k : Nat} (hk : k < ls.length) (h : labove m ls[k] b = true) : isTop m ls b ls.length = false := by
  simp only [isTop, List.take_length, List.all_eq_false]
  exact ⟨ls[k], List.getElem_mem hk, by simp [h]⟩
def coversUp (m : Mat) (ls : List Nat) (k : Nat) : List Nat := (ls.take k).filter fun b => isTop m ls b ls.length
theorem coversUp_zero (m : Mat) (ls : List Nat) : coversUp m ls 0 = [] := rfl
theorem coversUp_yes {m : Mat} {ls : List Nat} {k : Nat} (hk : k < ls.length) (h : isTop m ls ls[k] ls.length = true) : coversUp m ls (k + 1) = coversUp m ls k ++ [ls[k]] := by
  rw [coversUp, take_snoc_nat hk, List.filter_append]; simp [h, coversUp]
theorem coversUp_no {m : Mat} {ls : List Nat} {k : Nat} (hk : k < ls.length) (h : isTop m ls ls[k] ls.length = false) : coversUp m ls (k + 1) = coversUp m ls k := by
  rw [coversUp, take_snoc_nat hk, List.filter_append]; simp [h, coversUp]
theorem coversUp_all (m : Mat) (a : Int) : coversUp m (lbelow m a) (lbelow m a).length = lcovers m a := by
  simp [coversUp, isTop, lcovers]
theorem coversUp_le (m : Mat) (ls : List Nat) (k : Nat) : (coversUp m ls k).length ≤ ls.length := by
  have h1 := List.length_filter_le (fun b => isTop m ls b ls.length) (ls.take k)
  have h2 : (ls.take k).length ≤ ls.length := by simp; omega
  exact Nat.le_trans h1 h2
theorem below_le (m : Mat) (a : Int) : (lbelow m a).length ≤ 6 := by
  have h1 := List.length_filter_le (fun (b : Nat) => labove m a b) (List.range (levels m))
  have h2 := levels_le m
  simp at h1; unfold lbelow; omega

set_option maxRecDepth 100000 in
set_option maxHeartbeats 4000000 in
theorem latCovers_any (A : Option Addr) (c : Nat) (rs : List Rw) (a : Int) (w : World) (B : Nat) (hA : MatAt w B A rs) (hl : rs.length ≤ 9223372036854775807) :
    Calls Tryd.prog 29 #[.agg #[.slice A rs.length c], .int .i64 a] w (NatsPost w (lcovers (mat rs) a)) := by
  go_enter Tryd.func29, Tryd.ntmps29
  go_wp2
  go_step3
  go_wp2_with fail
  refine (latBelow_any A c rs a _ B (hA.ext (ext_alloc _ _)) hl).mono ?_
  rintro e w1 ⟨v, rfl, hown, x1⟩
  obtain ⟨ls, hls⟩ : ∃ ls, ls = lbelow (mat rs) a := ⟨_, rfl⟩
  rw [← hls] at hown
  have h6 : ls.length ≤ 6 := by rw [hls]; exact below_le _ _
  have HL := Lib.hid hls; clear hls
  obtain ⟨Ab, cb, rfl⟩ := hown.form
  have hR : NatsAt w1 w1.heap.size Ab ls := hown.rows
  have b0 : Blk w1 w.heap.size 24 #[.slice A rs.length c] := (Blk.new w 24 #[.slice A rs.length c]).ext x1
  have hx : Ext w w1 := ext_trans (ext_alloc _ _) x1
  clear x1 hown
  go_wp2
  go_step3
  go_wp2
  go_loopw [5, 16] (fun v i wr => ∃ (k : Nat) (xs : List Nat), k ≤ ls.length ∧ i = .int .i64 k ∧ Hid (xs = coversUp (mat rs) ls k) ∧ Own elNat wr w1.heap.size v xs ∧ Ext w1 wr) (fun _ i _ => ls.length - (intOf i).toNat)
  case atStart => exact ⟨0, [], Nat.zero_le _, rfl, rfl, Own.nil _ _, Below.refl _ _⟩
  case round =>
    obtain ⟨k, xs, hk, rfl, HX, hown, hext⟩ := hrel
    obtain ⟨wo, rfl⟩ : ∃ wo : World, wo = wr := ⟨_, rfl⟩
    have hxl : xs.length ≤ 6 := by rw [HX.out]; have := coversUp_le (mat rs) ls k; omega
    obtain ⟨Ao, co, rfl⟩ := hown.form
    by_cases hlt : k < ls.length
    · obtain ⟨ad, rfl, p0⟩ := NatsAt.get (hR.ext hext) hlt
      go_wp2
      go_loopw [22] (fun i wi => ∃ j : Nat, j ≤ ls.length ∧ i = .int .i64 j ∧ Hid (isTop (mat rs) ls ls[k] j = true) ∧ Ext wo wi) (fun i _ => ls.length - (intOf i).toNat)
      case atStart => exact ⟨0, Nat.zero_le _, rfl, rfl, Below.refl _ _⟩
      case round =>
        obtain ⟨j, hj, rfl, HT, hxi⟩ := hrel
        by_cases hjt : j < ls.length
        · obtain ⟨ad', e', p1⟩ := NatsAt.get (hR.ext (ext_trans hext hxi)) hjt
          obtain rfl : ad = ad' := Option.some.inj e'
          clear e'
          have c0 := (b0.ext (ext_trans hext hxi)).cell 0
          simp only [List.getElem?_toArray, List.getElem?_cons_zero] at c0
          go_wp2_with fail
          refine (latAbove_any A c rs ls[j] ls[k] _ B (hA.ext (ext_trans hx (ext_trans hext hxi))) hl).mono ?_
          rintro e w3 ⟨rfl, x3⟩
          replace hxi := ext_trans hxi x3
          clear x3 c0 p1
          cases hab : labove (mat rs) (ls[j] : Nat) (ls[k] : Nat)
          · have HAB := Lib.hid hab; clear hab
            go_wp2
            go_roundw
            case rel => exact ⟨j + 1, hjt, by go_num, by show _ = _; rw [isTop_succ hjt, HT.out, HAB.out]; rfl, hxi⟩
            case measure => simp [intOf]; omega
          · have HAB := Lib.hid hab; clear hab
            go_wp2
            go_roundw
            case rel => exact ⟨k + 1, xs, hlt, by go_num, by show _ = _; rw [HX.out, coversUp_no hlt (isTop_no hjt HAB.out)], hown.ext hxi, ext_trans hext hxi⟩
            case measure => simp [intOf]; omega
        · obtain rfl : j = ls.length := by omega
          replace hown := hown.ext hxi
          replace hext := ext_trans hext hxi
          clear hxi p0
          have HO := Lib.hid (hown.ext (ext_alloc wr (.cells #[.int .i64 (ls[k] : Int)] 3)))
          have HB := Lib.hid (rows_nat (w := wr) (B := B) ls[k])
          have hsz := hext.size
          go_wp2_with (at_builtin; refine wpList_append elNat rfl _ _ rfl w1.heap.size (.slice Ao xs.length co) xs rfl HO.out _ 1 [ls[k]] rfl B HB.out (by show _ * 8 ≤ _; simp; omega) (by simp; omega) (by simp; omega) ?_; intro A2 c2 w4 hown4 hg4 hat4)
          go_roundw
          case rel => exact ⟨k + 1, xs ++ [ls[k]], hlt, by go_num, by show _ = _; rw [HX.out, coversUp_yes hlt HT.out], by simpa using hown4, app_ext hext HO.out hg4⟩
          case measure => simp [intOf]; omega
    · obtain rfl : k = ls.length := by omega
      go_wp2
      go_ret
      exact ⟨_, rfl, by rw [← coversUp_all, ← HL.out, ← HX.out]; exact hown.le hx.size, ext_trans hx hext⟩

set_option maxRecDepth 100000 in
set_option maxHeartbeats 4000000 in
theorem refCovers_any (A : Option Addr) (c : Nat) (rs : List Rw) (a : Int) (w : World) (B : Nat) (hA : MatAt w B A rs) (hl : rs.length ≤ 9223372036854775807) :
    Calls Tryd.prog 19 #[.agg #[.slice A rs.length c], .int .i64 a] w (NatsPost w (lcovers (mat rs) a)) := by
  go_enter Tryd.func19, Tryd.ntmps19
  go_wp2_with fail
  refine (refBelow_any A c rs a _ B (hA.ext (ext_alloc _ _)) hl).mono ?_
  rintro e w1 ⟨v, rfl, hown, x1⟩
  obtain ⟨ls, hls⟩ : ∃ ls, ls = lbelow (mat rs) a := ⟨_, rfl⟩
  rw [← hls] at hown
  have h6 : ls.length ≤ 6 := by rw [hls]; exact below_le _ _
  have HL := Lib.hid hls; clear hls
  obtain ⟨Ab, cb, rfl⟩ := hown.form
  have hR : NatsAt w1 w1.heap.size Ab ls := hown.rows
  have b0 : Blk w1 w.heap.size 24 #[.slice A rs.length c] := (Blk.new w 24 #[.slice A rs.length c]).ext x1
  have hx : Ext w w1 := ext_trans (ext_alloc _ _) x1
  clear x1 hown
  go_wp2
  go_loopw [6, 7] (fun v i wr => ∃ (k : Nat) (xs : List Nat), k ≤ ls.length ∧ i = .int .i64 k ∧ Hid (xs = coversUp (mat rs) ls k) ∧ Own elNat wr w1.heap.size v xs ∧ Ext w1 wr) (fun _ i _ => ls.length - (intOf i).toNat)
  case atStart => exact ⟨0, [], Nat.zero_le _, rfl, rfl, Own.nil _ _, Below.refl _ _⟩
  case round =>
    obtain ⟨k, xs, hk, rfl, HX, hown, hext⟩ := hrel
    obtain ⟨wo, rfl⟩ : ∃ wo : World, wo = wr := ⟨_, rfl⟩
    have hxl : xs.length ≤ 6 := by rw [HX.out]; have := coversUp_le (mat rs) ls k; omega
    obtain ⟨Ao, co, rfl⟩ := hown.form
    by_cases hlt : k < ls.length
    · obtain ⟨ad, rfl, p0⟩ := NatsAt.get (hR.ext hext) hlt
      go_wp2
      go_loopw [8, 9] (fun o i wi => ∃ j : Nat, j ≤ ls.length ∧ i = .int .i64 j ∧ (∃ b, o = .bool b ∧ Hid (b = isTop (mat rs) ls ls[k] j)) ∧ Ext wo wi) (fun _ i _ => ls.length - (intOf i).toNat)
      case atStart => exact ⟨0, Nat.zero_le _, rfl, ⟨_, rfl, rfl⟩, Below.refl _ _⟩
      case round =>
        obtain ⟨j, hj, rfl, ⟨ok, rfl, HT⟩, hxi⟩ := hrel
        by_cases hjt : j < ls.length
        · cases ok
          · go_wp2
            go_quiet (fail)
            go_wp2
            go_roundw
            case rel => exact ⟨j + 1, hjt, by go_num, ⟨_, rfl, by show _ = _; rw [isTop_succ hjt, ← HT.out]; rfl⟩, ext_trans hxi (ext_drewN _ _)⟩
            case measure => simp [intOf]; omega
          · obtain ⟨ad', e', p1⟩ := NatsAt.get (hR.ext (ext_trans hext hxi)) hjt
            obtain rfl : ad = ad' := Option.some.inj e'
            clear e'
            have p2 := ext_cell hxi p0
            have c0 := (b0.ext (ext_trans hext hxi)).cell 0
            simp only [List.getElem?_toArray, List.getElem?_cons_zero] at c0
            have y0 := fun x (hx : Ext wr x) => ext_cell hx c0
            have y1 := fun x (hx : Ext wr x) => ext_cell hx p1
            have y2 := fun x (hx : Ext wr x) => ext_cell hx p2
            clear p2 p1 c0
            go_wp2
            refine wp_region_plan (.reads 0 (.reads 1 (.reads 2 (.reads 3 (.reads 4 (.reads 5 (.reads 6 (.reads 7 (.reads 8 (.reads 9 (.reads 10 (.makes 11 (.reads 12 (.reads 13 (.reads 14 (.done)))))))))))))))) (by kernel_rfl) (by kernel_rfl) (fun x => Ext wr x) (ext_drewN wr 1) ?_
            iterate 2 (refine seg_take0 ⟨_, _, _, _, _, _⟩ _ rfl rfl (fun x hx => by go_simp; try with_reducible rfl) (fun _ _ _ h => h) ?_; simp only [Act.put, List.setIfInBounds_toArray, List.set_cons_zero, List.set_cons_succ])
            iterate 9 (first | (refine seg_pass1 ⟨_, _, _, _, _, _⟩ rfl rfl rfl rfl (fun _ _ _ h => h) ?_; simp only [Act.put, List.setIfInBounds_toArray, List.set_cons_zero, List.set_cons_succ]) | (refine seg_take1 ⟨_, _, _, _, _, _⟩ _ rfl rfl rfl (fun x hx => by go_simp; try with_reducible rfl) (fun _ _ _ h => h) ?_; simp only [Act.put, List.setIfInBounds_toArray, List.set_cons_zero, List.set_cons_succ]))
            refine seg_makes ⟨_, _, _, _, _, _⟩ rfl (fun K hK => ?_)
            go_simp
            refine (refAbove_any A c rs ls[j] ls[k] _ B (hA.ext (ext_trans (ext_trans hx (ext_trans hext hxi)) (ext_drewN wr 1))) hl).mono ?_
            rintro e w3 ⟨rfl, x3⟩
            replace hxi := ext_trans hxi (ext_trans (ext_drewN wr 1) x3)
            refine hK _ _ (fun x => Ext w3 x) (Below.refl _ _) (fun x hx => ext_trans ((ext_trans (ext_drewN wr 1) x3)) hx) ?_
            clear hK
            (first | (refine seg_pass1 ⟨_, _, _, _, _, _⟩ rfl rfl rfl rfl (fun _ _ _ h => h) ?_; simp only [Act.put, List.setIfInBounds_toArray, List.set_cons_zero, List.set_cons_succ]) | (refine seg_take1 ⟨_, _, _, _, _, _⟩ _ rfl rfl rfl (fun x hx => by go_simp; try with_reducible rfl) (fun _ _ _ h => h) ?_; simp only [Act.put, List.setIfInBounds_toArray, List.set_cons_zero, List.set_cons_succ]))
            iterate 2 (refine seg_take0 ⟨_, _, _, _, _, _⟩ _ rfl rfl (fun x hx => by go_simp; try with_reducible rfl) (fun _ _ _ h => h) ?_; simp only [Act.put, List.setIfInBounds_toArray, List.set_cons_zero, List.set_cons_succ])
            refine seg_done ?_
            clear x3 y0 y1 y2
            go_wp2
            go_roundw
            case rel => exact ⟨j + 1, hjt, by go_num, ⟨_, rfl, by show _ = _; rw [isTop_succ hjt, ← HT.out]; rfl⟩, hxi⟩
            case measure => simp [intOf]; omega
        · obtain rfl : j = ls.length := by omega
          replace hown := hown.ext hxi
          replace p0 := ext_cell hxi p0
          replace hext := ext_trans hext hxi
          clear hxi
          cases ok
          · go_wp2
            go_roundw
            case rel => exact ⟨k + 1, xs, hlt, by go_num, by show _ = _; rw [HX.out, coversUp_no hlt HT.out.symm], hown, hext⟩
            case measure => simp [intOf]; omega
          · have HO := Lib.hid (hown.ext (ext_alloc wr (.cells #[.int .i64 (ls[k] : Int)] 3)))
            have HB := Lib.hid (rows_nat (w := wr) (B := B) ls[k])
            have hsz := hext.size
            go_wp2_with (at_builtin; refine wpList_append elNat rfl _ _ rfl w1.heap.size (.slice Ao xs.length co) xs rfl HO.out _ 1 [ls[k]] rfl B HB.out (by show _ * 8 ≤ _; simp; omega) (by simp; omega) (by simp; omega) ?_; intro A2 c2 w4 hown4 hg4 hat4)
            go_roundw
            case rel => exact ⟨k + 1, xs ++ [ls[k]], hlt, by go_num, by show _ = _; rw [HX.out, coversUp_yes hlt HT.out.symm], by simpa using hown4, app_ext hext HO.out hg4⟩
            case measure => simp [intOf]; omega
    · obtain rfl : k = ls.length := by omega
      go_wp2
      go_ret
      exact ⟨_, rfl, by rw [← coversUp_all, ← HL.out, ← HX.out]; exact hown.le hx.size, ext_trans hx hext⟩
end Go.Proofs.YtdknkbpgkkakhaaDoor
