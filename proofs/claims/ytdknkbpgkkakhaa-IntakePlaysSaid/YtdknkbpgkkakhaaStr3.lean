/- stream.Stream's From. -/
import Derived.Test.YtdknkbpgkkakhaaStr2
import Derived.Test.YtdknkbpgkkakhaaApp
namespace Go.Proofs.Ytdknkbpgkkakhaa
open Go.RowKit

/-- Items from the n-th on, at most so many. -/
def fromIts (xs : List It) (n most : Int) : List It := (xs.drop (max n 1 - 1).toNat).take most.toNat
def its (xs : List Iv) : List It := xs.map Iv.it
theorem its_append (xs ys : List Iv) : its (xs ++ ys) = its xs ++ its ys := by simp [its]
theorem its_length (xs : List Iv) : (its xs).length = xs.length := by simp [its]

theorem from_step {xs ys : List Iv} {a : Nat} (h : its ys = ((its xs).drop a).take ys.length) (hlt : a + ys.length < xs.length) (y : Iv) (hy : y.it = xs[a + ys.length].it) :
    its (ys ++ [y]) = ((its xs).drop a).take (ys ++ [y]).length := by
  have h1 : ((its xs).drop a)[ys.length]? = some xs[a + ys.length].it := by
    simp [its, List.getElem?_drop, List.getElem?_eq_getElem hlt]
  rw [its_append, h, List.length_append, List.length_singleton, List.take_add_one, h1]
  simp [its, hy]
theorem from_end {xs ys : List Iv} {a : Nat} {n most : Int} (h : its ys = ((its xs).drop a).take ys.length) (ha : (max n 1 - 1).toNat = a) (h1 : (ys.length : Int) ≤ max most 0) (h2 : most ≤ ys.length ∨ xs.length ≤ a + ys.length) : its ys = fromIts (its xs) n most := by
  unfold fromIts
  rw [ha, h]
  rcases h2 with h2 | h2
  · have : most.toNat = ys.length := by omega
    rw [this]
  · rw [List.take_of_length_le (by rw [List.length_drop, its_length]; omega), List.take_of_length_le (by rw [List.length_drop, its_length]; omega)]

set_option maxHeartbeats 2000000 in
theorem strFrom_any {w : World} {B g : Nat} {lev turn : Int} {xs : List Iv} {v : Value} (h : StrAt w B 121 g lev turn xs v) (n most : Int) (hn : n ≤ 9223372036854775807) :
    Calls Try.prog 34 #[.pointer (some ⟨g, 0, none⟩), .int .i64 n, .int .i64 most] w
      fun e w' => ∃ v' ys, e = .returned v' ∧ Own elIv w' w.heap.size v' ys ∧ (∀ y ∈ ys, IvOk w' B y) ∧ its ys = fromIts (its xs) n most ∧ Ext w w' := by
  have hgl := h.blk.lt
  have hlen := h.len
  have hbase := h.base
  obtain ⟨a, ha, ha'⟩ : ∃ a : Nat, (max n 1 - 1).toNat = a ∧ max n 1 = (a : Int) + 1 := ⟨(max n 1 - 1).toNat, rfl, by omega⟩
  have HA : Hid ((max n 1 - 1).toNat = a ∧ max n 1 = (a : Int) + 1 ∧ (a : Int) + 1 ≤ 9223372036854775807) := ⟨ha, ha', by omega⟩
  clear ha ha' hn
  obtain ⟨A0, c0, rfl, hR⟩ := h.form
  by_cases hn0 : n < 1
  all_goals
    go_enter Try.func34, Try.ntmps34
    go_wp2
    go_step3
    go_wp2
    go_step3
    go_wp2
    go_loopw [8, 7] (fun i o wr => ∃ ys : List Iv, i = .int .i64 ((a : Int) + 1 + ys.length) ∧ ((ys.length : Int) ≤ max most 0 ∧ a + ys.length ≤ max a xs.length) ∧ Below w.heap.size w wr ∧ Own elIv wr w.heap.size o ys ∧ (∀ y ∈ ys, IvOk wr B y) ∧ its ys = ((its xs).drop a).take ys.length) (fun i _ _ => xs.length + 1 - (intOf i).toNat)
    case atStart => exact ⟨[], by have := HA.out.2.1; simp; omega, ⟨by simp; omega, by simp; omega⟩, Below.refl _ _, Own.nil _ _, by simp, by simp [its]⟩
    case round =>
      obtain ⟨ys, rfl, hm, hbel, hown, hys, hits⟩ := hrel
      obtain ⟨Ao, co, rfl⟩ := hown.form
      have HT := Lib.hid (And.intro hits hm); clear hits hm
      have hr := h.ext hbel
      have k2 := hr.blk.cell 2
      simp only [List.getElem?_toArray, List.getElem?_cons_zero, List.getElem?_cons_succ] at k2
      by_cases hlt : a + ys.length < xs.length
      · by_cases hmost : (ys.length : Int) < most
        · have hix := hr.ok _ (List.getElem_mem hlt)
          have hRr : RowsIv wr B A0 xs := hR.ext hbel
          obtain ⟨ad, hA0, p0, p1, p2, p3, p4⟩ := RowsIv.get hRr hlt
          have e0 : A0 = some ad := hA0
          subst e0
          clear hR hRr h hr
          go_wp2_with fail
          refine (itemCopy_any xs[a + ys.length].it _ _ _ B hix.at_ (by have := hix.len; omega)).mono ?_
          rintro e w1 ⟨A', c', rfl, hW, hext⟩
          have HB := Lib.hid (rows_block (E := elIv) (B := B) (⟨xs[a + ys.length].it, A', c'⟩ : Iv) (Blk.new w1 33 (Iv.cells ⟨xs[a + ys.length].it, A', c'⟩).toArray))
          have HO := Lib.hid ((hown.ext hext).ext (ext_alloc w1 (.cells (Iv.cells ⟨xs[a + ys.length].it, A', c'⟩).toArray 33)))
          have hz1 : w.heap.size ≤ w1.heap.size := Nat.le_trans hbel.size hext.size
          clear p0 p1 p2 p3 p4 k2
          go_wp2_with (at_builtin; refine wpList_append elIv rfl _ _ rfl w.heap.size (.slice Ao ys.length co) ys rfl HO.out _ 1 [(⟨xs[a + ys.length].it, A', c'⟩ : Iv)] rfl B HB.out (by show _ * 56 ≤ _; simp; omega) (by simp; omega) (by simp; omega) ?_; intro A2 c2 w2 hown2 hg2 hat2)
          have hk2 : Keeps B [33] (w1.alloc (.cells (Iv.cells ⟨xs[a + ys.length].it, A', c'⟩).toArray 33)) w2 := HO.out.keeps hg2 (by omega)
          have hx2 : Ext wr (w1.alloc (.cells (Iv.cells ⟨xs[a + ys.length].it, A', c'⟩).toArray 33)) := ext_trans hext (ext_alloc _ _)
          go_roundw
          case rel =>
            refine ⟨ys ++ [⟨xs[a + ys.length].it, A', c'⟩], by simp; omega, ⟨by have := HT.out.2.1; simp; omega, by have := HT.out.2.2; simp; omega⟩, ?_, by simpa using hown2, ?_, from_step HT.out.1 hlt _ rfl⟩
            · exact (below_ext hbel (Nat.le_refl _) hx2).grown hg2 (by simp; omega) (fun k hk => (HO.out.typed hk).1)
            · intro y hy
              rcases List.mem_append.1 hy with hy | hy
              · exact ((hys y hy).ext hx2).keeps hk2 (by decide)
              · have e1 : y = ⟨xs[a + ys.length].it, A', c'⟩ := by simpa using hy
                subst e1
                exact ⟨(RowsAt.ext hW (ext_alloc _ _)).keeps hk2 (by decide), hix.wr, hix.len⟩
          case measure => simp [intOf]; omega
        · go_wp2
          go_ret
          exact ⟨_, ys, rfl, hown, hys, from_end HT.out.1 HA.out.1 HT.out.2.1 (.inl (by omega)), hbel⟩
      · go_wp2
        rw [Exit.noGoto_ret]
        go_ret
        exact ⟨_, ys, rfl, hown, hys, from_end HT.out.1 HA.out.1 HT.out.2.1 (.inr (by omega)), hbel⟩
end Go.Proofs.Ytdknkbpgkkakhaa
