/- item.Copy; the small methods of stream.Stream. -/
import Derived.Test.YtdknkbpgkkakhaaClone
namespace Go.Proofs.Ytdknkbpgkkakhaa
open Go.RowKit

theorem own_le {w : World} {base base' : Nat} {e : TypeId} {size n : Nat} {v : Value} {xs : List Value} (h : w.ownsRow base e size v n xs) (hb : base' ≤ base) : w.ownsRow base' e size v n xs := by
  refine ⟨h.1, ?_⟩
  rcases h.2 with h2 | ⟨g, cap, cur, hv, hg, r⟩
  · exact .inl h2
  · exact .inr ⟨g, cap, cur, hv, by omega, r⟩

set_option maxHeartbeats 1000000 in
theorem itemCopy_any (x : It) (A : Option Addr) (c : Nat) (w : World) (B : Nat) (hA : WrsAt w B A x.ws) (hl : x.ws.length * 40 ≤ 140737488351232) :
    Calls Try.prog 94 #[.agg #[.int .i64 x.level, .int .i64 x.n, .int .i64 x.turn, .bool x.shut, .slice A x.ws.length c]] w
      fun e w' => ∃ A' c', e = .returned (.agg #[.int .i64 x.level, .int .i64 x.n, .int .i64 x.turn, .bool x.shut, .slice A' x.ws.length c']) ∧ WrsAt w' B A' x.ws ∧ Ext w w' := by
  obtain ⟨level, n, turn, shut, ws⟩ := x
  dsimp only at hA hl ⊢
  go_enter Try.func94, Try.ntmps94
  go_wp2_with fail
  refine (cloneWrs_any A c ws _ B ((hA.ext (ext_alloc _ _)).ext (ext_alloc _ _)) hl).mono ?_
  rintro e w1 ⟨v, rfl, hown, hext⟩
  obtain ⟨A', c', rfl⟩ := own_form hown
  have hown' : w1.ownsRow (w.heap.size + 2) 47 3 (.slice A' ws.length c') ws.length (flat Wr.cells ws) := by simpa using hown
  clear hA hown
  have b0 : Blk w1 w.heap.size 33 #[.int .i64 level, .int .i64 n, .int .i64 turn, .bool shut, .slice A ws.length c] := ((Blk.new _ _ _).ext (ext_alloc _ _)).ext hext
  have b1 : Blk w1 (w.heap.size + 1) 33 #[.int .i64 0, .int .i64 0, .int .i64 0, .bool false, .slice none 0 0] := by
    have := (Blk.new (w.alloc (.cells #[.int .i64 level, .int .i64 n, .int .i64 turn, .bool shut, .slice A ws.length c] 33)) 33 #[.int .i64 0, .int .i64 0, .int .i64 0, .bool false, .slice none 0 0]).ext hext
    simpa using this
  have hb : Below w.heap.size w w1 := ext_trans (ext_trans (ext_alloc _ _) (ext_alloc _ _)) hext
  have hz : w.heap.size + 1 < w1.heap.size := b1.lt
  have c0 := b0.cell 0
  have c1 := b0.cell 1
  have c2 := b0.cell 2
  have c3 := b0.cell 3
  have c4 := b0.cell 4
  have d0 := b1.cell 0
  have d1 := b1.cell 1
  have d2 := b1.cell 2
  have d3 := b1.cell 3
  have d4 := b1.cell 4
  have f0 := b0.frozen
  have f1 := b1.frozen
  simp only [List.getElem?_toArray, List.getElem?_cons_zero, List.getElem?_cons_succ] at c0 c1 c2 c3 c4 d0 d1 d2 d3 d4
  clear b0 b1 hext
  go_wp2
  refine bodyPost_ret (v := .agg #[.int .i64 level, .int .i64 n, .int .i64 turn, .bool shut, .slice A' ws.length c']) (by simp [results, Try.results94, go_sem, c0, c1, c2, c3, c4, d0, d1, d2, d3, d4]) rfl ⟨A', c', rfl, ?_, ?_⟩
  · refine RowsAt.of_own (base := w.heap.size + 2) (n := ws.length) (c := c') ?_ Wr.cells_len rfl
    iterate 6 (refine ownsRow_setCell_below ?_ (by simp) _)
    exact hown'
  · iterate 6 (refine Below.setCell ?_ (by simp) _)
    exact hb

/-- A stream (of the program: T = 121; of the reference: T = 30) at block g: its level, its turn, its items, the slice that holds them. -/
structure StrAt (w : World) (B : Nat) (T : TypeId) (g : Nat) (lev turn : Int) (xs : List Iv) (v : Value) : Prop where
  blk : Blk w g T #[.int .i64 lev, .int .i64 turn, v]
  base : B ≤ g
  own : w.ownsRow B 33 5 v xs.length (flat Iv.cells xs)
  ok : ∀ x ∈ xs, IvOk w B x
  len : xs.length ≤ 1000000
theorem StrAt.ext {w w' : World} {B : Nat} {T : TypeId} {g : Nat} {lev turn : Int} {xs : List Iv} {v : Value} (h : StrAt w B T g lev turn xs v) (k : Ext w w') : StrAt w' B T g lev turn xs v :=
  ⟨h.blk.ext k, h.base, own_ext h.own k, fun x hx => (h.ok x hx).ext k, h.len⟩
theorem StrAt.form {w : World} {B : Nat} {T : TypeId} {g : Nat} {lev turn : Int} {xs : List Iv} {v : Value} (h : StrAt w B T g lev turn xs v) : ∃ A c, v = .slice A xs.length c ∧ RowsIv w B A xs := by
  obtain ⟨A, c, rfl⟩ := own_form h.own
  exact ⟨A, c, rfl, RowsAt.of_own h.own Iv.cells_len rfl⟩

set_option maxHeartbeats 1000000 in
theorem strNew_any (level : Int) (w : World) (B : Nat) (hB : B ≤ w.heap.size) :
    Calls Try.prog 23 #[.int .i64 level] w fun e w' => e = .returned (.pointer (some ⟨w.heap.size, 0, none⟩)) ∧ StrAt w' B 121 w.heap.size level 0 [] (.slice none 0 0) ∧ Ext w w' := by
  go_enter Try.func23, Try.ntmps23
  go_wp2
  go_ret
  exact ⟨rfl, ⟨Blk.new _ _ _, hB, World.ownsRow_nil _ _ _ _, by simp, by simp⟩, ext_alloc _ _⟩

set_option maxHeartbeats 1000000 in
theorem strTurn_any {w : World} {B g : Nat} {lev turn : Int} {xs : List Iv} {v : Value} (h : StrAt w B 121 g lev turn xs v) :
    Calls Try.prog 29 #[.pointer (some ⟨g, 0, none⟩)] w fun e w' => e = .returned (.int .i64 turn) ∧ w = w' := by
  have c1 := h.blk.cell 1
  simp only [List.getElem?_toArray, List.getElem?_cons_zero, List.getElem?_cons_succ] at c1
  go_enter Try.func29, Try.ntmps29
  go_wp2
  go_ret
  exact ⟨rfl, rfl⟩

set_option maxHeartbeats 1000000 in
theorem strLen_any {w : World} {B g : Nat} {lev turn : Int} {xs : List Iv} {v : Value} (h : StrAt w B 121 g lev turn xs v) :
    Calls Try.prog 32 #[.pointer (some ⟨g, 0, none⟩)] w fun e w' => e = .returned (.int .i64 xs.length) ∧ w = w' := by
  obtain ⟨A, c, rfl, _⟩ := h.form
  have c2 := h.blk.cell 2
  simp only [List.getElem?_toArray, List.getElem?_cons_zero, List.getElem?_cons_succ] at c2
  go_enter Try.func32, Try.ntmps32
  go_wp2
  go_ret
  exact ⟨rfl, rfl⟩

set_option maxHeartbeats 1000000 in
theorem strCopy_any {w : World} {B g : Nat} {lev turn : Int} {xs : List Iv} {v : Value} (h : StrAt w B 121 g lev turn xs v) :
    Calls Try.prog 27 #[.pointer (some ⟨g, 0, none⟩)] w fun e w' => ∃ g' v', e = .returned (.pointer (some ⟨g', 0, none⟩)) ∧ StrAt w' B 121 g' lev turn xs v' ∧ w.heap.size ≤ g' ∧ (∀ b, v'.ownBlock = some b → w.heap.size ≤ b) ∧ Ext w w' := by
  have hgl := h.blk.lt
  have hok := h.ok
  have hlen := h.len
  have hbase := h.base
  obtain ⟨A, c, rfl, hR⟩ := h.form
  have k0 := h.blk.cell 0
  have k1 := h.blk.cell 1
  have k2 := h.blk.cell 2
  simp only [List.getElem?_toArray, List.getElem?_cons_zero, List.getElem?_cons_succ] at k0 k1 k2
  have c0 := fun x (hx : Ext w x) => ext_cell hx k0
  have c1 := fun x (hx : Ext w x) => ext_cell hx k1
  have c2 := fun x (hx : Ext w x) => ext_cell hx k2
  clear k0 k1 k2 h
  go_enter Try.func27, Try.ntmps27
  go_wp2
  refine wp_region_plan (.reads 0 (.reads 1 (.reads 2 (.reads 3 (.reads 4 (.reads 5 (.reads 6 (.reads 7 (.reads 8 (.reads 9 (.reads 10 (.reads 11 (.makes 12 (.reads 13 (.makes 14 (.reads 15 (.done))))))))))))))))) (by kernel_rfl) (by kernel_rfl) (fun x => Ext w x) (ext_drewN w 1) ?_
  iterate 12 (refine seg_take0 ⟨_, _, _, _, _, _⟩ _ rfl rfl (fun x hx => by go_simp; try with_reducible rfl) (fun _ _ _ h => h) ?_; simp only [Act.put, List.setIfInBounds_toArray, List.set_cons_zero, List.set_cons_succ])
  refine seg_makes ⟨_, _, _, _, _, _⟩ rfl (fun K hK => ?_)
  go_simp
  refine (cloneIts_any A c xs _ B (hR.ext (ext_drewN _ 1)) (by omega)).mono ?_
  rintro e w1 ⟨v, rfl, hown, hext⟩
  obtain ⟨A', c', rfl⟩ := own_form hown
  have hw1 : Ext w w1 := ext_trans (ext_drewN w 1) hext
  refine hK _ _ (fun x => Ext w1 x) (Below.refl _ _) (fun x hx => ext_trans (hw1) hx) ?_
  clear hK
  (refine seg_take0 ⟨_, _, _, _, _, _⟩ _ rfl rfl (fun x hx => by go_simp; try with_reducible rfl) (fun _ _ _ h => h) ?_; simp only [Act.put, List.setIfInBounds_toArray, List.set_cons_zero, List.set_cons_succ])
  refine seg_makes ⟨_, _, _, _, _, _⟩ rfl (fun K hK => ?_)
  go_simp
  refine hK _ _ (fun x => Ext (w1.alloc (.cells #[.int .i64 lev, .int .i64 turn, .slice A' xs.length c'] 121)) x) (Below.refl _ _) (fun x hx => ext_trans (ext_alloc w1 _) hx) ?_
  clear hK
  (refine seg_take0 ⟨_, _, _, _, _, _⟩ _ rfl rfl (fun x hx => by go_simp; try with_reducible rfl) (fun _ _ _ h => h) ?_; simp only [Act.put, List.setIfInBounds_toArray, List.set_cons_zero, List.set_cons_succ])
  refine seg_done ?_
  go_wp2
  go_ret
  have hown' : w1.ownsRow w.heap.size 33 5 (.slice A' xs.length c') xs.length (flat Iv.cells xs) := by simpa using hown
  refine ⟨w1.heap.size, _, rfl, ⟨Blk.new _ _ _, ?_, own_ext ?_ (ext_alloc _ _), fun x hx => ((hok x hx).ext hw1).ext (ext_alloc _ _), hlen⟩, hw1.size, fun b hb => (own_typed hown' hb).1, ext_trans hw1 (ext_alloc _ _)⟩
  · have := hw1.size; omega
  · exact own_le hown' (by omega)
end Go.Proofs.Ytdknkbpgkkakhaa
