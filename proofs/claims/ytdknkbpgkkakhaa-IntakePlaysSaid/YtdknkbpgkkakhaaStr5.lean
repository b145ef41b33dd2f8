/- The reference's stream: Next, From. -/
import Derived.Test.YtdknkbpgkkakhaaStr3
namespace Go.Proofs.Ytdknkbpgkkakhaa
open Go.RowKit

set_option maxHeartbeats 1000000 in
theorem refNext_any {w : World} {B g : Nat} {lev turn0 : Int} {xs : List Iv} {v : Value} (h : StrAt w B 30 g lev turn0 xs v) (turn : Int) (A : Option Addr) (c : Nat) (ws : List Wr) :
    Calls Try.prog 25 #[.pointer (some ⟨g, 0, none⟩), .int .i64 turn, .slice A ws.length c] w
      fun e w' => e = .returned (.agg #[.int .i64 lev, .int .i64 ((xs.length : Int) + 1), .int .i64 turn, .bool ws.isEmpty, .slice A ws.length c]) ∧ Ext w w' := by
  have hgl := h.blk.lt
  have hlen := h.len
  obtain ⟨A0, c0, rfl, _⟩ := h.form
  have h' := h.ext (ext_alloc w zero33)
  have k0 := h'.blk.cell 0
  have k2 := h'.blk.cell 2
  simp only [List.getElem?_toArray, List.getElem?_cons_zero, List.getElem?_cons_succ] at k0 k2
  have d0 := fun x (hx : Ext (w.alloc zero33) x) => ext_cell hx k0
  have d2 := fun x (hx : Ext (w.alloc zero33) x) => ext_cell hx k2
  have hle := Lib.hid (len_beq ws)
  have hwp : IntKind.i64.wrap ((xs.length : Int) + 1) = (xs.length : Int) + 1 := IntWalk.i64_in _ (by omega)
  clear k0 k2 h h'
  go_enter Try.func25, Try.ntmps25
  go_wp2
  refine wp_region_plan (.reads 0 (.reads 1 (.reads 2 (.reads 3 (.reads 4 (.reads 5 (.reads 6 (.reads 7 (.reads 8 (.reads 9 (.reads 10 (.reads 11 (.reads 12 (.reads 13 (.reads 14 (.reads 15 (.turns 16 (.done)))))))))))))))))) (by kernel_rfl) (by kernel_rfl) (fun x => Ext (w.alloc zero33) x) (ext_drewN (w.alloc zero33) 1) ?_
  iterate 16 (refine seg_take0 ⟨_, _, _, _, _, _⟩ _ rfl rfl (fun x hx => by go_simp; try with_reducible rfl) (fun _ _ _ h => h) ?_; simp only [Act.put, List.setIfInBounds_toArray, List.set_cons_zero, List.set_cons_succ])
  refine seg_turns ⟨_, _, _, _, _, _⟩ rfl (fun K hK => ?_)
  go_simp
  refine hK _ _ (fun _ => True) trivial ?_
  clear hK
  refine seg_done ?_
  go_wp2
  refine bodyPost_ret (v := .agg #[.int .i64 lev, .int .i64 ((xs.length : Int) + 1), .int .i64 turn, .bool ((ws.length : Int) == 0), .slice A ws.length c]) (by simp [results, Try.results25, go_sem]) rfl ⟨by rw [hle.out], ?_⟩
  exact ext_trans (ext_alloc w _) (ext_drewN _ 1)

def FromPost (w : World) (B : Nat) (xs : List Iv) (n most : Int) (e : Ending) (w' : World) : Prop :=
  ∃ v' ys, e = .returned v' ∧ Own elIv w' w.heap.size v' ys ∧ (∀ y ∈ ys, IvOk w' B y) ∧ its ys = fromIts (its xs) n most ∧ Ext w w'

set_option maxHeartbeats 2000000 in
theorem refFrom_any {w : World} {B g : Nat} {lev turn : Int} {xs : List Iv} {v : Value} (h : StrAt w B 30 g lev turn xs v) (n most : Int) (hn : n ≤ 9223372036854775807) :
    Calls Try.prog 35 #[.pointer (some ⟨g, 0, none⟩), .int .i64 n, .int .i64 most] w
      (FromPost w B xs n most) := by
  have hgl := h.blk.lt
  have hlen := h.len
  have hbase := h.base
  obtain ⟨a, ha, ha'⟩ : ∃ a : Nat, (max n 1 - 1).toNat = a ∧ max n 1 = (a : Int) + 1 := ⟨(max n 1 - 1).toNat, rfl, by omega⟩
  have HA : Hid ((max n 1 - 1).toNat = a ∧ max n 1 = (a : Int) + 1 ∧ (a : Int) + 1 ≤ 9223372036854775807) := ⟨ha, ha', by omega⟩
  clear ha ha' hn
  obtain ⟨A0, c0, rfl, hR⟩ := h.form
  by_cases hn0 : 1 < n
  all_goals
    go_enter Try.func35, Try.ntmps35
    go_wp2
    go_loopw [8, 7] (fun i o wr => ∃ ys : List Iv, i = .int .i64 ((a : Int) + 1 + ys.length) ∧ ((ys.length : Int) ≤ max most 0 ∧ a + ys.length ≤ max a xs.length) ∧ Below w.heap.size w wr ∧ Own elIv wr w.heap.size o ys ∧ (∀ y ∈ ys, IvOk wr B y) ∧ its ys = ((its xs).drop a).take ys.length) (fun i _ _ => xs.length + 1 - (intOf i).toNat)
    case atStart => exact ⟨[], by have := HA.out.2.1; simp; omega, ⟨by simp; omega, by simp; omega⟩, Below.refl _ _, Own.nil _ _, by simp, by simp [its]⟩
    case round =>
      obtain ⟨ys, rfl, hm, hbel, hown, hys, hits⟩ := hrel
      obtain ⟨Ao, co, rfl⟩ := hown.form
      have HT := Lib.hid (And.intro hits hm); clear hits hm
      have hr := h.ext hbel
      have k2 := hr.blk.cell 2
      simp only [List.getElem?_toArray, List.getElem?_cons_zero, List.getElem?_cons_succ] at k2
      by_cases hlt : a + ys.length < xs.length
      · by_cases hmost : (ys.length : Int) < most
        · have hix := hr.ok _ (List.getElem_mem hlt)
          have hRr : RowsIv wr B A0 xs := hR.ext hbel
          obtain ⟨ad, hA0, p0, p1, p2, p3, p4⟩ := RowsIv.get hRr hlt
          have e0 : A0 = some ad := hA0
          subst e0
          have HB := Lib.hid (rows_block (E := elIv) (B := B) (xs[a + ys.length]) (Blk.new wr 33 (Iv.cells xs[a + ys.length]).toArray))
          have HO := Lib.hid (hown.ext (ext_alloc wr (.cells (Iv.cells xs[a + ys.length]).toArray 33)))
          have hz1 : w.heap.size ≤ wr.heap.size := hbel.size
          clear hR hRr h hr
          go_wp2_with (at_builtin; refine wpList_append elIv rfl _ _ rfl w.heap.size (.slice Ao ys.length co) ys rfl HO.out _ 1 [xs[a + ys.length]] rfl B HB.out (by show _ * 56 ≤ _; simp; omega) (by simp; omega) (by simp; omega) ?_; intro A2 c2 w2 hown2 hg2 hat2)
          have hk2 : Keeps B [33] (wr.alloc (.cells (Iv.cells xs[a + ys.length]).toArray 33)) w2 := HO.out.keeps hg2 (by omega)
          have hx2 : Ext wr (wr.alloc (.cells (Iv.cells xs[a + ys.length]).toArray 33)) := ext_alloc _ _
          go_roundw
          case rel =>
            refine ⟨ys ++ [xs[a + ys.length]], by simp; omega, ⟨by have := HT.out.2.1; simp; omega, by have := HT.out.2.2; simp; omega⟩, ?_, by simpa using hown2, ?_, from_step HT.out.1 hlt _ rfl⟩
            · exact (below_ext hbel (Nat.le_refl _) hx2).grown hg2 (by simp; omega) (fun k hk => (HO.out.typed hk).1)
            · intro y hy
              rcases List.mem_append.1 hy with hy | hy
              · exact ((hys y hy).ext hx2).keeps hk2 (by decide)
              · have e1 : y = xs[a + ys.length] := by simpa using hy
                subst e1
                exact (hix.ext hx2).keeps hk2 (by decide)
          case measure => simp [intOf]; omega
        · go_wp2
          go_ret
          exact ⟨_, ys, rfl, hown, hys, from_end HT.out.1 HA.out.1 HT.out.2.1 (.inl (by omega)), hbel⟩
      · go_wp2
        go_ret
        exact ⟨_, ys, rfl, hown, hys, from_end HT.out.1 HA.out.1 HT.out.2.1 (.inr (by omega)), hbel⟩
end Go.Proofs.Ytdknkbpgkkakhaa
