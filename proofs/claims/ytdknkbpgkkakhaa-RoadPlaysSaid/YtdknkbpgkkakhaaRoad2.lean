/- Layer 22: Offered, For, Log, Again. -/
import Derived.Test.YtdknkbpgkkakhaaRoad1
import Derived.Test.YtdknkbpgkkakhaaStr3
namespace Go.Proofs.Ytdknkbpgkkakhaa
open Go.RowKit
open Go.ChangeMaps (setBlock)

section
variable {w w' : World} {B : Nat} {A : Option Addr} {c : Nat} {rs : List Rw} {m : RoadMem} {s : RoadSt}
def wf64 (x : Int) : Prop := (Lit.int .i64 x).wf = true
theorem RoadAt.lookOff (h : RoadAt w B A c rs m s) {a b : Int} (ha : wf64 a) (hb : wf64 b) :
    (Instr.lookup 130 (.map (some m.mo)) (.agg #[.int .i64 a, .int .i64 b]) false).run Try.prog w = .ok (.int .i64 (s.off (a, b))) w := by
  obtain ⟨l, hl⟩ := key135 (x := (a, b)) ha hb
  have := h.offm.look keyed135 ul130 (zero3 w) wayV_inj hl
  rw [h.offs] at this
  exact this
theorem RoadAt.lookUnd (h : RoadAt w B A c rs m s) {t : Int} (ht : wf64 t) :
    (Instr.lookup 131 (.map (some m.mu)) (.int .i64 t) false).run Try.prog w = .ok ((m.fu t).getD (.slice none 0 0)) w :=
  h.undm.look keyed3 ul131 (zero22 w) levV_inj (key3 ht)

set_option maxRecDepth 100000 in
theorem roadOffered_any (h : RoadAt w B A c rs m s) {a b : Int} (ha : wf64 a) (hb : wf64 b) :
    Calls Try.prog 69 #[.pointer (some ⟨m.ra, 0, none⟩), .int .i64 a, .int .i64 b] w fun e w' => e = .returned (.int .i64 (s.off (a, b))) ∧ w' = w := by
  have hrun := h.lookOff ha hb
  have c1 := h.blk.cell 1
  simp only [List.getElem?_toArray, List.getElem?_cons_zero, List.getElem?_cons_succ] at c1
  clear h ha hb
  go_enter Try.func69, Try.ntmps69
  go_wp2
  go_ret
  exact ⟨rfl, rfl⟩

set_option maxRecDepth 100000 in
set_option maxHeartbeats 4000000 in
theorem roadFor_any (h : RoadAt w B A c rs m s) {t : Int} (ht : wf64 t) :
    Calls Try.prog 68 #[.pointer (some ⟨m.ra, 0, none⟩), .int .i64 t] w fun e w' => ∃ v' zs, e = .returned v' ∧ Own elIv w' w.heap.size v' zs ∧ its zs = s.und t ∧ (∀ z ∈ zs, IvOk w' B z) ∧ Ext w w' := by
  have hrun := h.lookUnd ht
  have c1 := h.blk.cell 2
  simp only [List.getElem?_toArray, List.getElem?_cons_zero, List.getElem?_cons_succ] at c1
  obtain ⟨ys, hO, hys, hok⟩ := h.unds t
  obtain ⟨A0, c0, hv⟩ := hO.form
  rw [hv] at hrun hO
  have hR := hO.rows (B := B)
  have hR' : RowsIv w B A0 ys := hR
  have hbase : B ≤ w.heap.size := Nat.le_trans h.base.1 (Nat.le_of_lt h.blk.lt)
  have h40 : ys.length ≤ 40 := by
    have := h.few t
    rw [← hys, List.length_map] at this
    exact this
  have HYS : Hid (its ys = s.und t) := hys
  clear h ht hO hv hys hR
  go_enter Try.func68, Try.ntmps68
  go_wp2
  go_loopw [15, 5] (fun i o wr => ∃ zs : List Iv, i = .int .i64 (zs.length : Int) ∧ zs.length ≤ ys.length ∧ Ext w wr ∧ Own elIv wr w.heap.size o zs ∧ (∀ z ∈ zs, IvOk wr B z) ∧ Hid (its zs = ((its ys).drop 0).take zs.length)) (fun i _ _ => ys.length - (intOf i).toNat)
  case atStart => exact ⟨[], rfl, Nat.zero_le _, Below.refl _ _, Own.nil _ _, by simp, by show _ = _; simp [its]⟩
  case round =>
    obtain ⟨zs, rfl, hm, hbel, hown, hzs, HT⟩ := hrel
    obtain ⟨Ao, co, rfl⟩ := hown.form
    by_cases hlt : zs.length < ys.length
    · have hix := (hok _ (List.getElem_mem hlt)).ext hbel
      obtain ⟨ad, hA0, p0, p1, p2, p3, p4⟩ := RowsIv.get (RowsAt.ext hR' hbel) hlt
      have e0 : A0 = some ad := hA0
      subst e0
      clear hR' hrun c1
      go_wp2_with fail
      refine (itemCopy_any ys[zs.length].it _ _ _ B (hix.at_.ext (ext_alloc _ _)) (by have := hix.len; omega)).mono ?_
      rintro e w1 ⟨A', c', rfl, hW, hext0⟩
      have hext : Ext wr w1 := ext_trans (ext_alloc _ _) hext0
      have HB := Lib.hid (rows_block (E := elIv) (B := B) (⟨ys[zs.length].it, A', c'⟩ : Iv) (Blk.new w1 33 (Iv.cells ⟨ys[zs.length].it, A', c'⟩).toArray))
      have HO := Lib.hid ((hown.ext hext).ext (ext_alloc w1 (.cells (Iv.cells ⟨ys[zs.length].it, A', c'⟩).toArray 33)))
      have hz1 : w.heap.size ≤ w1.heap.size := Nat.le_trans hbel.size hext.size
      clear p0 p1 p2 p3 p4 hext0
      go_wp2_with (at_builtin; refine wpList_append elIv rfl _ _ rfl w.heap.size (.slice Ao zs.length co) zs rfl HO.out _ 1 [(⟨ys[zs.length].it, A', c'⟩ : Iv)] rfl B HB.out (by show _ * 56 ≤ _; simp; omega) (by simp; omega) (by simp; omega) ?_; intro A2 c2 w2 hown2 hg2 hat2)
      have hk2 : Keeps B [33] (w1.alloc (.cells (Iv.cells ⟨ys[zs.length].it, A', c'⟩).toArray 33)) w2 := HO.out.keeps hg2 hbase
      have hx2 : Ext wr (w1.alloc (.cells (Iv.cells ⟨ys[zs.length].it, A', c'⟩).toArray 33)) := ext_trans hext (ext_alloc _ _)
      go_roundw
      case rel =>
        refine ⟨zs ++ [⟨ys[zs.length].it, A', c'⟩], by simp, by simp; omega, ?_, by simpa using hown2, ?_, from_step (a := 0) HT.out (by simpa using hlt) _ (by simp)⟩
        · exact (below_ext hbel (Nat.le_refl _) hx2).grown hg2 (by simp; omega) (fun k hk => (HO.out.typed hk).1)
        · intro y hy
          rcases List.mem_append.1 hy with hy | hy
          · exact ((hzs y hy).ext hx2).keeps hk2 (by decide)
          · have e1 : y = ⟨ys[zs.length].it, A', c'⟩ := by simpa using hy
            subst e1
            exact ⟨(RowsAt.ext hW (ext_alloc _ _)).keeps hk2 (by decide), hix.wr, hix.len⟩
      case measure => simp [intOf]; omega
    · have he : its zs = s.und t := by
        rw [← HYS.out, HT.out, List.drop_zero, List.take_of_length_le (by rw [its_length]; omega)]
      go_wp2
      go_ret
      exact ⟨_, zs, rfl, hown, he, hzs, hbel⟩
end
end Go.Proofs.Ytdknkbpgkkakhaa
