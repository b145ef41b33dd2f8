/- Layer 1: Below, of the program and of the document. -/
import Derived.Test.YtdknkbpgkkakhaaDoorLat4
import Derived.Test.YtdknkbpgkkakhaaDoorApp
namespace Go.Proofs.YtdknkbpgkkakhaaDoor
open Go.RowKit

def natCells (n : Nat) : List Value := [.int .i64 (n : Int)]
theorem info3 : (Tryd.prog.info? 3).map (fun i => (i.zero, i.size, i.bytes)) = some (some (.int .i64 0), 1, 8) := by kernel_rfl
theorem natCells_one (x : Nat) : ∀ u ∈ natCells x, u.oneCell' = true := by intro u hu; simp [natCells] at hu; subst hu; rfl
def elNat : Elem Nat := ⟨natCells, 40, 3, 1, 8, _, fun _ => rfl, natCells_one, Tryd.underlying40, info3, rfl, by decide⟩
abbrev NatsAt (w : World) (B : Nat) (A : Option Addr) (ks : List Nat) : Prop := RowsAt w B 3 1 natCells A ks
theorem NatsAt.get {w : World} {B : Nat} {A : Option Addr} {ks : List Nat} (h : NatsAt w B A ks) {k : Nat} (hk : k < ks.length) : ∃ ad, A = some ad ∧ w.cell? (ad.add k) = some (.int .i64 ks[k]) := by
  obtain ⟨ad, e, _, hc⟩ := h k hk
  exact ⟨ad, e, by simpa [add_zero] using hc 0 _ rfl⟩
theorem rows_nat {w : World} {B : Nat} (k : Nat) : NatsAt (w.alloc (.cells #[.int .i64 (k : Int)] 3)) B (some ⟨w.heap.size, 0, none⟩) [k] :=
  rows_block (E := elNat) k (Blk.new w 3 #[.int .i64 (k : Int)])

def NatsPost (w : World) (l : List Nat) (e : Ending) (w' : World) : Prop := ∃ v, e = .returned v ∧ Own elNat w' w.heap.size v l ∧ Ext w w'

def belowUp (m : Mat) (a : Int) (k : Nat) : List Nat := (List.range k).filter fun b => labove m a b
theorem belowUp_zero (m : Mat) (a : Int) : belowUp m a 0 = [] := rfl
theorem belowUp_yes {m : Mat} {a : Int} {k : Nat} (h : labove m a k = true) : belowUp m a (k + 1) = belowUp m a k ++ [k] := by simp [belowUp, List.range_succ, List.filter_append, h]
theorem belowUp_no {m : Mat} {a : Int} {k : Nat} (h : labove m a k = false) : belowUp m a (k + 1) = belowUp m a k := by simp [belowUp, List.range_succ, List.filter_append, h]
theorem belowUp_all (m : Mat) (a : Int) : belowUp m a (levels m) = lbelow m a := rfl
theorem belowUp_le (m : Mat) (a : Int) (k : Nat) : (belowUp m a k).length ≤ k := by
  have := List.length_filter_le (fun (b : Nat) => labove m a b) (List.range k); simpa [belowUp] using this

set_option maxRecDepth 100000 in
set_option maxHeartbeats 4000000 in
theorem latBelow_any (A : Option Addr) (c : Nat) (rs : List Rw) (a : Int) (w : World) (B : Nat) (hA : MatAt w B A rs) (hl : rs.length ≤ 9223372036854775807) :
    Calls Tryd.prog 39 #[.agg #[.slice A rs.length c], .int .i64 a] w (NatsPost w (lbelow (mat rs) a)) := by
  have h6 := levels_le (mat rs)
  go_enter Tryd.func39, Tryd.ntmps39
  go_wp2_with fail
  refine (latLevels_any A c rs _ B (hA.ext (ext_alloc _ _)) hl).mono ?_
  rintro e w1 ⟨rfl, x1⟩
  have b0 : Blk w1 w.heap.size 24 #[.slice A rs.length c] := (Blk.new w 24 #[.slice A rs.length c]).ext x1
  have hz : w.heap.size + 1 ≤ w1.heap.size := by have := x1.size; simpa using this
  have hx : Ext w w1 := ext_trans (ext_alloc _ _) x1
  clear x1
  obtain ⟨N, hN⟩ : ∃ N, N = levels (mat rs) := ⟨_, rfl⟩
  rw [← hN] at h6 ⊢
  have HN := Lib.hid hN; clear hN
  go_wp2
  go_loopw [5, 9] (fun v i wr => ∃ (k : Nat) (xs : List Nat), k ≤ N ∧ i = .int .i64 k ∧ Hid (xs = belowUp (mat rs) a k) ∧ Own elNat wr (w.heap.size + 1) v xs ∧ Blk wr w.heap.size 24 #[.slice A rs.length c] ∧ Ext w wr ∧ w.heap.size + 1 ≤ wr.heap.size) (fun _ i _ => N - (intOf i).toNat)
  case atStart => exact ⟨0, [], Nat.zero_le _, rfl, rfl, Own.nil _ _, b0, hx, hz⟩
  case round =>
    obtain ⟨k, xs, hk, rfl, HX, hown, hb, hext, hz1⟩ := hrel
    clear b0 hx hz
    have hxl : xs.length ≤ 6 := by rw [HX.out]; have := belowUp_le (mat rs) a k; omega
    obtain ⟨Ao, co, rfl⟩ := hown.form
    have c0 := hb.cell 0
    simp only [List.getElem?_toArray, List.getElem?_cons_zero] at c0
    by_cases hlt : k < N
    · go_wp2_with fail
      refine (latAbove_any A c rs a k _ B (hA.ext hext) hl).mono ?_
      rintro e w2 ⟨rfl, x2⟩
      replace hown := hown.ext x2
      replace hb := hb.ext x2
      replace hext := ext_trans hext x2
      have hz2 : w.heap.size + 1 ≤ w2.heap.size := Nat.le_trans hz1 x2.size
      clear x2 c0
      cases hab : labove (mat rs) a k
      · have HAB := Lib.hid hab; clear hab
        go_wp2
        go_roundw
        case rel => exact ⟨k + 1, xs, hlt, by go_num, by show _ = _; rw [HX.out, belowUp_no HAB.out], hown, hb, hext, hz2⟩
        case measure => simp [intOf]; omega
      · have HAB := Lib.hid hab; clear hab
        have HO := Lib.hid (hown.ext (ext_alloc w2 (.cells #[.int .i64 (k : Int)] 3)))
        have HB := Lib.hid (rows_nat (w := w2) (B := B) k)
        go_wp2_with (at_builtin; refine wpList_append elNat rfl _ _ rfl (w.heap.size + 1) (.slice Ao xs.length co) xs rfl HO.out _ 1 [k] rfl B HB.out (by show _ * 8 ≤ _; simp; omega) (by simp; omega) (by simp; omega) ?_; intro A2 c2 w3 hown3 hg3 hat3)
        have hlen : xs.length + 1 = (xs ++ [k]).length := by simp
        have hw3 : Below (w.heap.size + 1) w2 w3 := ((Below.refl _ _).alloc hz2 _).grown hg3 (by simp; omega) (fun j hj => (HO.out.typed hj).1)
        go_roundw
        case rel =>
          refine ⟨k + 1, xs ++ [k], hlt, by go_num, by show _ = _; rw [HX.out, belowUp_yes HAB.out], by simpa using hown3, ?_, ?_, ?_⟩
          · exact (hw3.block _ (Nat.lt_succ_self _)).trans hb
          · exact hext.trans (hw3.mono (by omega))
          · exact Nat.le_trans hz2 hw3.size
        case measure => simp [intOf]; omega
    · obtain rfl : k = N := by omega
      go_wp2
      go_ret
      exact ⟨_, rfl, by rw [← belowUp_all, ← HN.out, ← HX.out]; exact hown.le (by omega), hext⟩

/-- Behind an append onto a row of the call's own: what was there at w1 is there still. -/
theorem app_ext {α : Type} {E : Elem α} {w1 wr w3 : World} {o : Obj} {v : Value} {xs : List α} (h : Ext w1 wr) (ho : Own E (wr.alloc o) w1.heap.size v xs) (hg : (wr.alloc o).grownBy w3 v.ownBlock) : Ext w1 w3 :=
  (h.alloc h.size o).grown hg (by have := h.size; simp; omega) (fun _ hj => (ho.typed hj).1)

set_option maxRecDepth 100000 in
set_option maxHeartbeats 4000000 in
theorem refBelow_any (A : Option Addr) (c : Nat) (rs : List Rw) (a : Int) (w : World) (B : Nat) (hA : MatAt w B A rs) (hl : rs.length ≤ 9223372036854775807) :
    Calls Tryd.prog 32 #[.agg #[.slice A rs.length c], .int .i64 a] w (NatsPost w (lbelow (mat rs) a)) := by
  have h6 := levels_le (mat rs)
  have b0 : Blk (w.alloc (.cells #[.slice A rs.length c] 24)) w.heap.size 24 #[.slice A rs.length c] := Blk.new w 24 #[.slice A rs.length c]
  have hx := ext_alloc w (.cells #[.slice A rs.length c] 24)
  have hz : w.heap.size + 1 ≤ (w.alloc (.cells #[.slice A rs.length c] 24)).heap.size := by simp
  go_enter Tryd.func32, Tryd.ntmps32
  go_wp2_with fail
  generalize w.alloc (.cells #[.slice A rs.length c] 24) = w1 at b0 hx hz ⊢
  go_loopw [5, 6] (fun v i wr => ∃ (k : Nat) (xs : List Nat), k ≤ levels (mat rs) ∧ i = .int .i64 k ∧ Hid (xs = belowUp (mat rs) a k) ∧ Own elNat wr w1.heap.size v xs ∧ Ext w1 wr) (fun _ i _ => levels (mat rs) - (intOf i).toNat)
  case atStart => exact ⟨0, [], Nat.zero_le _, rfl, rfl, Own.nil _ _, Below.refl _ _⟩
  case round =>
    obtain ⟨k, xs, hk, rfl, HX, hown, hext⟩ := hrel
    have hxl : xs.length ≤ 6 := by rw [HX.out]; have := belowUp_le (mat rs) a k; omega
    obtain ⟨Ao, co, rfl⟩ := hown.form
    have hb := b0.ext hext
    have c0 := hb.cell 0
    simp only [List.getElem?_toArray, List.getElem?_cons_zero] at c0
    go_wp2_with fail
    refine (refLevels_any A c rs _ B (hA.ext (ext_trans hx hext)) hl).mono ?_
    rintro e w2 ⟨rfl, x2⟩
    replace c0 := ext_cell x2 c0
    replace hown := hown.ext x2
    replace hext := ext_trans hext x2
    clear x2 hb
    by_cases hlt : k < levels (mat rs)
    · go_wp2_with fail
      refine (refAbove_any A c rs a k _ B (hA.ext (ext_trans hx hext)) hl).mono ?_
      rintro e w3 ⟨rfl, x3⟩
      replace hown := hown.ext x3
      replace hext := ext_trans hext x3
      clear x3 c0
      cases hab : labove (mat rs) a k
      · have HAB := Lib.hid hab; clear hab
        go_wp2
        go_roundw
        case rel => exact ⟨k + 1, xs, hlt, by go_num, by show _ = _; rw [HX.out, belowUp_no HAB.out], hown, hext⟩
        case measure => simp [intOf]; omega
      · have HAB := Lib.hid hab; clear hab
        have HO := Lib.hid (hown.ext (ext_alloc w3 (.cells #[.int .i64 (k : Int)] 3)))
        have HB := Lib.hid (rows_nat (w := w3) (B := B) k)
        have hsz := hext.size
        go_wp2_with (at_builtin; refine wpList_append elNat rfl _ _ rfl w1.heap.size (.slice Ao xs.length co) xs rfl HO.out _ 1 [k] rfl B HB.out (by show _ * 8 ≤ _; simp; omega) (by simp; omega) (by simp; omega) ?_; intro A2 c2 w4 hown4 hg4 hat4)
        go_roundw
        case rel => exact ⟨k + 1, xs ++ [k], hlt, by go_num, by show _ = _; rw [HX.out, belowUp_yes HAB.out], by simpa using hown4, app_ext hext HO.out hg4⟩
        case measure => simp [intOf]; omega
    · obtain rfl : k = levels (mat rs) := by omega
      go_wp2
      go_ret
      exact ⟨_, rfl, by rw [← belowUp_all, ← HX.out]; exact hown.le (by have := hx.size; omega), ext_trans hx hext⟩
end Go.Proofs.YtdknkbpgkkakhaaDoor
