/- Layer 22: steps among the arguments; few. -/
import Derived.Test.YtdknkbpgkkakhaaRoad20
import Derived.Test.YtdknkbpgkkakhaaOpenI
namespace Go.Proofs.Ytdknkbpgkkakhaa
open Go.ChangeShapes Go.WideShapes Go.ChangeAt Go.RowKit Go.Deep

structure Sv where
  what : Int
  from_ : Int
  to_ : Int
  n : Int
  x : Iv
def Sv.cells (s : Sv) : List Value := [.int .i64 s.what, .int .i64 s.from_, .int .i64 s.to_, .int .i64 s.n, .int .i64 s.x.it.level, .int .i64 s.x.it.n, .int .i64 s.x.it.turn, .bool s.x.it.shut, .slice s.x.A s.x.it.ws.length s.x.c]
theorem Sv.cells_len (s : Sv) : s.cells.length = 9 := rfl
abbrev StepsAt (w : World) (B : Nat) (A : Option Addr) (ls : List Sv) : Prop := RowsAt w B 82 9 Sv.cells A ls
theorem StepsAt.get {w : World} {B : Nat} {A : Option Addr} {xs : List Sv} (h : StepsAt w B A xs) {k : Nat} (hk : k < xs.length) :
    ∃ ad, A = some ad ∧ w.cell? (ad.add (k * 9)) = some (.int .i64 xs[k].what) ∧ w.cell? ⟨(ad.add (k * 9)).block, (ad.add (k * 9)).off + 1, none⟩ = some (.int .i64 xs[k].from_) ∧
      w.cell? ⟨(ad.add (k * 9)).block, (ad.add (k * 9)).off + 2, none⟩ = some (.int .i64 xs[k].to_) ∧ w.cell? ⟨(ad.add (k * 9)).block, (ad.add (k * 9)).off + 3, none⟩ = some (.int .i64 xs[k].n) ∧
      w.cell? ⟨(ad.add (k * 9)).block, (ad.add (k * 9)).off + 4, none⟩ = some (.int .i64 xs[k].x.it.level) ∧ w.cell? ⟨(ad.add (k * 9)).block, (ad.add (k * 9)).off + 5, none⟩ = some (.int .i64 xs[k].x.it.n) ∧
      w.cell? ⟨(ad.add (k * 9)).block, (ad.add (k * 9)).off + 6, none⟩ = some (.int .i64 xs[k].x.it.turn) ∧ w.cell? ⟨(ad.add (k * 9)).block, (ad.add (k * 9)).off + 7, none⟩ = some (.bool xs[k].x.it.shut) ∧
      w.cell? ⟨(ad.add (k * 9)).block, (ad.add (k * 9)).off + 8, none⟩ = some (.slice xs[k].x.A xs[k].x.it.ws.length xs[k].x.c) := by
  obtain ⟨ad, e, _, hc⟩ := h k hk
  exact ⟨ad, e, hc 0 _ rfl, hc 1 _ rfl, hc 2 _ rfl, hc 3 _ rfl, hc 4 _ rfl, hc 5 _ rfl, hc 6 _ rfl, hc 7 _ rfl, hc 8 _ rfl⟩

def fewSteps (ls : List Sv) : Bool := (ls.all fun s => decide (s.x.it.ws.length ≤ 10)) && decide (ls.length ≤ 80)
set_option maxRecDepth 100000 in
set_option maxHeartbeats 2000000 in
theorem few22_any (A : Option Addr) (c : Nat) (ls : List Sv) (w : World) (B : Nat) (hA : StepsAt w B A ls) (hl : ls.length ≤ 9223372036854775807) :
    Calls Try.prog 59 #[.slice A ls.length c] w fun e w' => e = .returned (.bool (fewSteps ls)) ∧ w = w' := by
  go_enter Try.func59, Try.ntmps59
  go_wp2
  go_loop [3] (fun i => ∃ k : Nat, k ≤ ls.length ∧ i = .int .i64 k ∧ Hid (∀ a, (h : a < ls.length) → a < k → ls[a].x.it.ws.length ≤ 10)) (fun i => ls.length - (intOf i).toNat)
  case atStart => exact ⟨0, Nat.zero_le _, rfl, fun a h ha => by omega⟩
  case round =>
    obtain ⟨k, hk, rfl, HS⟩ := hrel
    by_cases hlt : k < ls.length
    · obtain ⟨ad, rfl, _, _, _, _, _, _, _, _, p8⟩ := StepsAt.get hA hlt
      by_cases he : ls[k].x.it.ws.length ≤ 10
      · go_wp2
        go_round
        case rel => exact ⟨k + 1, hlt, by go_num, fun a h ha => by
          by_cases hak : a = k
          · subst hak; exact he
          · exact HS.out a h (by omega)⟩
        case measure => simp [intOf]; omega
      · have HF : Hid (fewSteps ls = false) := by
          show _ = _
          rw [fewSteps, List.all_eq_false.2 ⟨_, List.getElem_mem hlt, by simpa using he⟩]; rfl
        go_wp2
        go_ret
        exact ⟨ret_bool HF.out.symm, rfl⟩
    · obtain rfl : k = ls.length := by omega
      have HF : Hid (fewSteps ls = decide (ls.length ≤ 80)) := by
        show _ = _
        rw [fewSteps, List.all_eq_true.2 (fun s hs => by
          obtain ⟨i, hi, rfl⟩ := List.getElem_of_mem hs
          exact decide_eq_true (HS.out i hi hi))]
        rfl
      go_wp2
      go_ret
      refine ⟨ret_bool ?_, rfl⟩
      rw [HF.out, Bool.eq_iff_iff]; simp; try omega

theorem cellsOf82 : Try.prog.cellsOf 82 = 9 := by kernel_rfl
section
variable {H : Type} {enc : TypeId × Value → H} {W : World} {base fuel : Nat} {cs : List Value} {x : DataW H × List MemPlace}
set_option maxRecDepth 100000 in
theorem open_step (h : DataW.trod enc Try.prog W base (fun _ => true) true fuel 82 cs = some x) (hlt : ∀ p ∈ x.2, p.block < W.heap.size) :
    ∃ y : Sv, cs = y.cells ∧ (∀ z ∈ y.x.it.ws, z.ok) ∧ WrsAt W W.heap.size y.x.A y.x.it.ws ∧ (wf64 y.from_ ∧ wf64 y.to_ ∧ wf64 y.n ∧ wf64 y.what) := by
  obtain ⟨xs, n, _, rfl, hl, hxl, hf⟩ := DataW.trod_struct Try.underlying82 h
  rw [cellsOf82] at hl
  have hxl5 : xs.length = 5 := hxl
  match cs, hl, xs, hxl5 with
  | [c0, c1, c2, c3, c4, c5, c6, c7, c8], _, [x0, x1, x2, x3, x4], _ =>
    have f0 : DataW.trod enc Try.prog W base (fun _ => true) true n 3 (([c0, c1, c2, c3, c4, c5, c6, c7, c8].drop 0).take (Try.prog.cellsOf 3)) = some x0 := hf 0 _ rfl
    have f1 : DataW.trod enc Try.prog W base (fun _ => true) true n 3 (([c0, c1, c2, c3, c4, c5, c6, c7, c8].drop 1).take (Try.prog.cellsOf 3)) = some x1 := hf 1 _ rfl
    have f2 : DataW.trod enc Try.prog W base (fun _ => true) true n 3 (([c0, c1, c2, c3, c4, c5, c6, c7, c8].drop 2).take (Try.prog.cellsOf 3)) = some x2 := hf 2 _ rfl
    have f3 : DataW.trod enc Try.prog W base (fun _ => true) true n 3 (([c0, c1, c2, c3, c4, c5, c6, c7, c8].drop 3).take (Try.prog.cellsOf 3)) = some x3 := hf 3 _ rfl
    have f4 : DataW.trod enc Try.prog W base (fun _ => true) true n 33 (([c0, c1, c2, c3, c4, c5, c6, c7, c8].drop 4).take (Try.prog.cellsOf 33)) = some x4 := hf 4 _ rfl
    simp only [cellsOf3, cellsOf33, List.drop_zero, List.drop_succ_cons, List.take_succ_cons, List.take_zero] at f0 f1 f2 f3 f4
    obtain ⟨n0, e0, _, w0⟩ := DataW.trod_int Try.underlying3 f0
    obtain ⟨n1, e1, _, w1⟩ := DataW.trod_int Try.underlying3 f1
    obtain ⟨n2, e2, _, w2⟩ := DataW.trod_int Try.underlying3 f2
    obtain ⟨n3, e3, _, w3⟩ := DataW.trod_int Try.underlying3 f3
    obtain ⟨y, e4, hok, hW⟩ := open_it f4 (fun p hp => hlt p (by simp [hp]))
    simp only [List.cons.injEq, and_true] at e0 e1 e2 e3
    subst e0 e1 e2 e3
    refine ⟨⟨n0, n1, n2, n3, y⟩, ?_, hok, hW, w1, w2, w3, w0⟩
    show [_, _, _, _, c4, c5, c6, c7, c8] = [_, _, _, _] ++ y.cells
    rw [← e4]; rfl
set_option maxRecDepth 100000 in
/-- A slice of steps, opened. -/
theorem open_steps {v : Value} {d : DataW H} {p : List MemPlace} (hv : ∃ A n c, v = .slice A n c) (h0 : DataW.Trod enc Try.prog W 0 (fun _ => true) true 71 v d p) (hlt : ∀ x ∈ p, x.block < W.heap.size) :
    ∃ (A : Option Addr) (c : Nat) (ls : List Sv), v = .slice A ls.length c ∧ ls.length ≤ maxLen ∧ StepsAt W W.heap.size A ls ∧ ∀ y ∈ ls, WrsAt W W.heap.size y.x.A y.x.it.ws ∧ (∀ z ∈ y.x.it.ws, z.ok) ∧ (wf64 y.from_ ∧ wf64 y.to_ ∧ wf64 y.n ∧ wf64 y.what) := by
  obtain ⟨A, n, c, rfl⟩ := hv
  obtain ⟨fuel, hf⟩ := h0
  rcases open_slice Try.underlying71 hf with ⟨hcs, hx⟩ | ⟨a, len, cap, m, n', D, Pl, hcs, hb, hl, hm, hmm, hx, hi⟩
  · simp [Value.cells] at hcs
    obtain ⟨rfl, rfl, rfl⟩ := hcs
    exact ⟨none, 0, [], rfl, Nat.zero_le _, RowsAt.nil, by simp⟩
  · simp [Value.cells] at hcs
    obtain ⟨rfl, rfl, rfl⟩ := hcs
    simp only [if_true] at hmm
    subst hmm
    rw [cellsOf82] at hx hi
    simp only [Prod.mk.injEq] at hx
    obtain ⟨_, hp⟩ := hx
    haveI : Inhabited Sv := ⟨⟨0, 0, 0, 0, ⟨⟨0, 0, 0, false, []⟩, none, 0⟩⟩⟩
    obtain ⟨g, hg⟩ := choose_lt (n := m) (p := fun i (y : Sv) => W.cells? 0 (a.add (i * 9)) 9 = some y.cells ∧ (∀ z ∈ y.x.it.ws, z.ok) ∧ WrsAt W W.heap.size y.x.A y.x.it.ws ∧ (wf64 y.from_ ∧ wf64 y.to_ ∧ wf64 y.n ∧ wf64 y.what)) (fun i hi' => by
      obtain ⟨cs', h1, h2⟩ := hi i hi'
      obtain ⟨y, rfl, hy⟩ := open_step h2 (fun q hq => hlt q (by rw [hp]; exact List.mem_append.2 (.inr (List.mem_flatMap.2 ⟨i, List.mem_range.2 hi', hq⟩))))
      exact ⟨y, h1, hy⟩)
    refine ⟨some a, m, (List.range n).map g, by simp, by simp; omega, ?_, ?_⟩
    · intro i hi'
      have hil : i < n := by simpa using hi'
      refine ⟨a, rfl, .inl (place_lt (n := m * 9) (fun q hq => ?_) hlt (by omega)), fun j v hj => ?_⟩
      · rw [hp]; exact List.mem_append.2 (.inl hq)
      · have h1 := (hg i (by omega)).1
        exact cells_get h1 j v (by simpa using hj)
    · intro y hy
      obtain ⟨i, hir, rfl⟩ := List.mem_map.1 hy
      have := hg i (by have := List.mem_range.1 hir; omega)
      exact ⟨this.2.2.1, this.2.1, this.2.2.2⟩
end
end Go.Proofs.Ytdknkbpgkkakhaa
