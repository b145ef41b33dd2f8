/- Layer 20: the law file's own it, few, fewLattice. -/
import Derived.Test.YtdknkbpgkkakhaaIntB
import Derived.Test.YtdknkbpgkkakhaaStr7
import Derived.Test.YtdknkbpgkkakhaaLat12
namespace Go.Proofs.Ytdknkbpgkkakhaa
open Go.RowKit Go.Maps

def kvWr : Wr := ⟨⟨#[107]⟩, false, ⟨#[118]⟩⟩
def itIt (level n turn : Int) (shut : Bool) : It := ⟨level, n, turn, shut, if shut = true then [] else [kvWr]⟩
def ItPost (w : World) (level n turn : Int) (shut : Bool) (e : Ending) (w' : World) : Prop :=
  ∃ (A : Option Addr) (c : Nat), e = .returned (.agg #[.int .i64 level, .int .i64 n, .int .i64 turn, .bool shut, .slice A (itIt level n turn shut).ws.length c]) ∧ (∀ B, IvOk w' B ⟨itIt level n turn shut, A, c⟩) ∧ Ext w w'
theorem zeroWr47 (w : World) : (zeroValue 47).run Try.prog w = .ok (.agg #[.string ByteArray.empty, .bool false, .string ByteArray.empty]) w := by kernel_rfl
set_option maxRecDepth 100000 in
set_option maxHeartbeats 4000000 in
theorem it20_any (w : World) (level n turn : Int) (shut : Bool) : Calls Try.prog 78 #[.int .i64 level, .int .i64 n, .int .i64 turn, .bool shut] w (ItPost w level n turn shut) := by
  obtain ⟨W, hW⟩ : ∃ W, W = w.alloc (.cells #[.int .i64 0, .int .i64 0, .int .i64 0, .bool false, .slice none 0 0] 33) := ⟨_, rfl⟩
  have x0 : Ext w W := by rw [hW]; exact ext_alloc _ _
  have b0 : Blk W w.heap.size 33 #[.int .i64 0, .int .i64 0, .int .i64 0, .bool false, .slice none 0 0] := by rw [hW]; exact Blk.new _ _ _
  have HW : Hid (w.alloc (.cells #[.int .i64 0, .int .i64 0, .int .i64 0, .bool false, .slice none 0 0] 33) = W) := hW.symm
  clear hW
  go_enter Try.func78, Try.ntmps78
  go_upto_region 1 with fail
  rw [HW.out]
  clear HW
  obtain ⟨g, hg⟩ : ∃ g, g = w.heap.size := ⟨_, rfl⟩
  rw [← hg] at b0 ⊢
  have HG : Hid (w.heap.size ≤ g) := Nat.le_of_eq hg.symm
  clear hg
  go_upto_region 2 with fail
  obtain ⟨V, hV⟩ : ∃ V, V = W.alloc (.cells #[.int .i64 level, .int .i64 n, .int .i64 turn, .bool shut, .slice none 0 0] 33) := ⟨_, rfl⟩
  have x1 : Ext W V := by rw [hV]; exact ext_alloc _ _
  have b1 : Blk V W.heap.size 33 #[.int .i64 level, .int .i64 n, .int .i64 turn, .bool shut, .slice none 0 0] := by rw [hV]; exact Blk.new _ _ _
  rw [← hV]
  clear hV
  have b0' := b0.ext x1
  obtain ⟨g1, hg1⟩ : ∃ g1, g1 = W.heap.size := ⟨_, rfl⟩
  rw [← hg1] at b1 ⊢
  have hne : g ≠ g1 := by have := b0.lt; omega
  have HG1 : Hid (w.heap.size ≤ g1) := by have := x0.size; show _ ≤ _; omega
  clear hg1 b0
  cases shut
  · obtain ⟨U, hU⟩ : ∃ U, U = V.alloc (.cells #[.string ⟨#[107]⟩, .bool false, .string ⟨#[118]⟩] 47) := ⟨_, rfl⟩
    have xU : Ext V U := by rw [hU]; exact ext_alloc _ _
    have bU : Blk U V.heap.size 47 #[.string ⟨#[107]⟩, .bool false, .string ⟨#[118]⟩] := by rw [hU]; exact Blk.new _ _ _
    have b1U := b1.ext xU
    have f4 := b1U.cell 4
    have fz := b1U.frozen
    simp only [List.getElem?_toArray, List.getElem?_cons_zero, List.getElem?_cons_succ] at f4
    rw [hU] at f4 fz
    go_upto_region 4 with fail
    rw [← hU]
    clear f4 fz hU
    have hnk : V.heap.size ≠ g1 := by have := b1.lt; omega
    have hng : V.heap.size ≠ g := by have := b0'.lt; omega
    have k1 := mods_setCell U ⟨g1, 4, none⟩ (.slice (some ⟨V.heap.size, 0, none⟩) 1 1)
    have b1s : Blk (U.setCell ⟨g1, 4, none⟩ (.slice (some ⟨V.heap.size, 0, none⟩) 1 1)) g1 33 #[.int .i64 level, .int .i64 n, .int .i64 turn, .bool false, .slice (some ⟨V.heap.size, 0, none⟩) 1 1] := by
      have := b1U.set_ 4 (.slice (some ⟨V.heap.size, 0, none⟩) 1 1)
      simpa using this
    have b0s := (b0'.ext xU).mods k1 (fun e => hne e)
    have bUs := bU.mods k1 (fun e => hnk e)
    have XU : Ext w (U.setCell ⟨g1, 4, none⟩ (.slice (some ⟨V.heap.size, 0, none⟩) 1 1)) := (ext_trans (ext_trans x0 x1) xU).trans (k1.below (ext_trans (ext_trans x0 x1) xU).size (fun k e => by rw [e]; exact HG1.out))
    obtain ⟨Y, hY⟩ : ∃ Y, Y = U.setCell ⟨g1, 4, none⟩ (.slice (some ⟨V.heap.size, 0, none⟩) 1 1) := ⟨_, rfl⟩
    rw [← hY] at b1s b0s bUs XU ⊢
    obtain ⟨gk, hgk⟩ : ∃ gk, gk = V.heap.size := ⟨_, rfl⟩
    rw [← hgk] at b1s bUs hng ⊢
    clear hgk hY k1 b1U xU bU hnk
    have q0 := b1s.cell 0
    have q1 := b1s.cell 1
    have q2 := b1s.cell 2
    have q3 := b1s.cell 3
    have q4 := b1s.cell 4
    have t0 := b0s.cell 0
    have t1 := b0s.cell 1
    have t2 := b0s.cell 2
    have t3 := b0s.cell 3
    have t4 := b0s.cell 4
    have fz := b0s.frozen
    simp only [List.getElem?_toArray, List.getElem?_cons_zero, List.getElem?_cons_succ] at q0 q1 q2 q3 q4 t0 t1 t2 t3 t4
    go_wp2
    have gb := blk_set5 b0s (.int .i64 level) (.int .i64 n) (.int .i64 turn) (.bool false) (.slice (some ⟨gk, 0, none⟩) 1 1)
    have km := mods_set5 Y g (.int .i64 level) (.int .i64 n) (.int .i64 turn) (.bool false) (.slice (some ⟨gk, 0, none⟩) 1 1)
    clear q0 q1 q2 q3 q4 t0 t1 t2 t3 t4 fz
    generalize (((((Y.setCell ⟨g, 0, none⟩ (.int .i64 level)).setCell ⟨g, 1, none⟩ (.int .i64 n)).setCell ⟨g, 2, none⟩ (.int .i64 turn)).setCell ⟨g, 3, none⟩ (.bool false)).setCell ⟨g, 4, none⟩ (.slice (some ⟨gk, 0, none⟩) 1 1)) = X at gb km ⊢
    have q0 := gb.cell 0
    have q1 := gb.cell 1
    have q2 := gb.cell 2
    have q3 := gb.cell 3
    have q4 := gb.cell 4
    simp only [List.getElem?_toArray, List.getElem?_cons_zero, List.getElem?_cons_succ] at q0 q1 q2 q3 q4
    refine bodyPost_ret (v := .agg #[.int .i64 level, .int .i64 n, .int .i64 turn, .bool false, .slice (some ⟨gk, 0, none⟩) 1 1]) ?_ rfl ?_
    · simp [results, Try.results78, go_sem, Addr.add, q0, q1, q2, q3, q4, Result.andThen]
    · have bk := bUs.mods km (fun e => hng e)
      have hRw : ∀ B, RowsAt X B 47 3 Wr.cells (some ⟨gk, 0, none⟩) [kvWr] := fun B => by
        intro i hi
        have h0 : i = 0 := by simpa using hi
        subst h0
        refine ⟨_, rfl, .inr ⟨_, _, bk⟩, fun j v hj => ?_⟩
        rw [Nat.zero_mul, add_zero, Addr.add_lit, bk.cell]
        simpa [Wr.cells, kvWr] using hj
      exact ⟨_, _, rfl, fun B => ⟨hRw B, fun y hy => by
        have e1 : y = kvWr := by simpa [itIt] using hy
        rw [e1]
        exact ⟨by decide, by decide⟩, by simp [itIt]⟩, XU.trans (km.below XU.size (fun k e => by rw [e]; exact HG.out))⟩
  · go_upto_region 4 with fail
    have q0 := b1.cell 0
    have q1 := b1.cell 1
    have q2 := b1.cell 2
    have q3 := b1.cell 3
    have q4 := b1.cell 4
    have t0 := b0'.cell 0
    have t1 := b0'.cell 1
    have t2 := b0'.cell 2
    have t3 := b0'.cell 3
    have t4 := b0'.cell 4
    have fz := b0'.frozen
    simp only [List.getElem?_toArray, List.getElem?_cons_zero, List.getElem?_cons_succ] at q0 q1 q2 q3 q4 t0 t1 t2 t3 t4
    go_wp2
    have gb := blk_set5 b0' (.int .i64 level) (.int .i64 n) (.int .i64 turn) (.bool true) (.slice none 0 0)
    have km := mods_set5 V g (.int .i64 level) (.int .i64 n) (.int .i64 turn) (.bool true) (.slice none 0 0)
    clear q0 q1 q2 q3 q4 t0 t1 t2 t3 t4 fz
    generalize (((((V.setCell ⟨g, 0, none⟩ (.int .i64 level)).setCell ⟨g, 1, none⟩ (.int .i64 n)).setCell ⟨g, 2, none⟩ (.int .i64 turn)).setCell ⟨g, 3, none⟩ (.bool true)).setCell ⟨g, 4, none⟩ (.slice none 0 0)) = X at gb km ⊢
    have q0 := gb.cell 0
    have q1 := gb.cell 1
    have q2 := gb.cell 2
    have q3 := gb.cell 3
    have q4 := gb.cell 4
    simp only [List.getElem?_toArray, List.getElem?_cons_zero, List.getElem?_cons_succ] at q0 q1 q2 q3 q4
    refine bodyPost_ret (v := .agg #[.int .i64 level, .int .i64 n, .int .i64 turn, .bool true, .slice none 0 0]) ?_ rfl ?_
    · simp [results, Try.results78, go_sem, Addr.add, q0, q1, q2, q3, q4, Result.andThen]
    · have XV := ext_trans x0 x1
      exact ⟨none, 0, rfl, fun B => ⟨RowsAt.nil, by simp [itIt], by simp [itIt]⟩, XV.trans (km.below XV.size (fun k e => by rw [e]; exact HG.out))⟩

set_option maxHeartbeats 1000000 in
theorem few20_any (A : Option Addr) (c : Nat) (xs : List Iv) (w : World) (B : Nat) (hA : RowsIv w B A xs) (hl : xs.length ≤ 9223372036854775807) :
    Calls Try.prog 72 #[.slice A xs.length c] w fun e w' => e = .returned (.bool (fewIts 60 xs)) ∧ w = w' := by
  go_enter Try.func72, Try.ntmps72
  go_wp2
  go_loop [3] (fun i => ∃ k : Nat, k ≤ xs.length ∧ i = .int .i64 k ∧ (xs.all fun x => decide (x.it.ws.length ≤ 10)) = ((xs.drop k).all fun x => decide (x.it.ws.length ≤ 10))) (fun i => xs.length - (intOf i).toNat)
  case atStart => exact ⟨0, Nat.zero_le _, rfl, rfl⟩
  case round =>
    obtain ⟨k, hk, rfl, hgo⟩ := hrel
    have HG := Lib.hid hgo; clear hgo
    by_cases hlt : k < xs.length
    · obtain ⟨ad, rfl, h0, h1, h2, h3, h4⟩ := RowsIv.get hA hlt
      have hdrop : ((xs.drop k).all fun x => decide (x.it.ws.length ≤ 10)) = (decide (xs[k].it.ws.length ≤ 10) && ((xs.drop (k + 1)).all fun x => decide (x.it.ws.length ≤ 10))) := by rw [List.drop_eq_getElem_cons hlt]; rfl
      have HD := Lib.hid hdrop; clear hdrop hA
      by_cases h10 : xs[k].it.ws.length ≤ 10
      · go_wp2
        go_round
        case rel => exact ⟨k + 1, hlt, by go_num, by rw [HG.out, HD.out]; simp [h10]⟩
        case measure => simp [intOf]; omega
      · go_wp2
        go_ret
        exact ⟨ret_bool (by unfold fewIts; rw [HG.out, HD.out]; simp [h10]), rfl⟩
    · obtain rfl : k = xs.length := by omega
      go_wp2
      go_ret
      refine ⟨ret_bool ?_, rfl⟩
      unfold fewIts; rw [HG.out, List.drop_length]
      rw [Bool.eq_iff_iff]; simp; omega
set_option maxHeartbeats 1000000 in
theorem fewLat20_any (A : Option Addr) (c : Nat) (rs : List Rw) (w : World) (B : Nat) (hA : MatAt w B A rs) (hl : rs.length ≤ 9223372036854775807) :
    Calls Try.prog 73 #[.agg #[.slice A rs.length c]] w fun e w' => e = .returned (.bool (fewMat 8 (mat rs))) ∧ Ext w w' := by
  have hA1 := hA.ext (ext_alloc w (.cells #[.slice A rs.length c] 53))
  go_enter Try.func73, Try.ntmps73
  go_wp2
  go_loop [3] (fun i => ∃ k : Nat, k ≤ rs.length ∧ i = .int .i64 k ∧ Hid (∀ a, (h : a < rs.length) → a < k → rs[a].bs.length ≤ 8)) (fun i => rs.length - (intOf i).toNat)
  case atStart => exact ⟨0, Nat.zero_le _, rfl, fun a h ha => by omega⟩
  case round =>
    obtain ⟨k, hk, rfl, HS⟩ := hrel
    by_cases hlt : k < rs.length
    · obtain ⟨ad, rfl, p1⟩ := hA1.row hlt
      by_cases he : rs[k].bs.length ≤ 8
      · go_wp2
        go_round
        case rel => exact ⟨k + 1, hlt, by go_num, fun a h ha => by
          by_cases hak : a = k
          · subst hak; exact he
          · exact HS.out a h (by omega)⟩
        case measure => simp [intOf]; omega
      · go_wp2
        go_ret
        exact ⟨ret_bool (fewMat_no hlt (by omega)).symm, ext_alloc _ _⟩
    · obtain rfl : k = rs.length := by omega
      have HF := Lib.hid (fewMat_end HS.out)
      go_wp2
      go_ret
      refine ⟨ret_bool ?_, ext_alloc _ _⟩
      rw [HF.out, Bool.eq_iff_iff]; simp; try omega
end Go.Proofs.Ytdknkbpgkkakhaa
