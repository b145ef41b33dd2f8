/- Same and SameAll of the reference. -/
import Derived.Test.YtdknkbpgkkakhaaItem2
import Derived.Laws.StructEq
namespace Go.Proofs.Ytdknkbpgkkakhaa
open Go.RowKit

def wrSame (x y : Wr) : Bool := x.key.toList == y.key.toList && (x.del == y.del && x.val.toList == y.val.toList)
theorem fields47 : (Try.prog.fieldsOf 47).toList = [{ name := "Key", type := 9, offset := 0, embedded := false, tag := "", pkgPath := "", byteOffset := 0 },
        { name := "Del", type := 4, offset := 1, embedded := false, tag := "", pkgPath := "", byteOffset := 16 },
        { name := "Value", type := 9, offset := 2, embedded := false, tag := "", pkgPath := "", byteOffset := 24 }] := by kernel_rfl
theorem under47 : Try.prog.underlying 47 = some (.struct (Try.prog.fieldsOf 47)) := by kernel_rfl
theorem guard47 : Try.prog.eqGuardType Try.prog.depth 47 = false := by kernel_rfl
theorem eq47 (x y : Wr) (w : World) : (Op.equalIn 10000 47 (.agg #[.string x.key, .bool x.del, .string x.val]) (.agg #[.string y.key, .bool y.del, .string y.val])).run Try.prog w = .ok (wrSame x y) w := by
  rw [run_equalIn_struct (P := Try.prog) w 9999 47 _ _ under47 (by kernel_rfl), fields47]
  simp [Op.eqFields, go_sem]
  unfold wrSame
  by_cases h1 : x.key.toList = y.key.toList <;> by_cases h2 : x.del = y.del <;> by_cases h3 : x.val.toList = y.val.toList <;> simp [h1, h2, h3]
theorem neq47 (x y : Wr) (w : World) : (binOp .neq 47 (.agg #[.string x.key, .bool x.del, .string x.val]) (.agg #[.string y.key, .bool y.del, .string y.val])).run Try.prog w = .ok (.bool (!wrSame x y)) w := by
  rw [run_neq_struct, eq47]; rfl
def wrsSame : List Wr → List Wr → Bool
  | [], [] => true
  | x :: xs, y :: ys => wrSame x y && wrsSame xs ys
  | _, _ => false

set_option maxHeartbeats 1000000 in
theorem refSame_any (A A' : Option Addr) (c c' : Nat) (ws vs : List Wr) (w : World) (B B' : Nat) (hA : WrsAt w B A ws) (hA' : WrsAt w B' A' vs) (hl : ws.length ≤ 9223372036854775807) :
    Calls Try.prog 91 #[.slice A ws.length c, .slice A' vs.length c'] w fun e w' => e = .returned (.bool (wrsSame ws vs)) ∧ Ext w w' := by
  by_cases hlen : ws.length = vs.length
  · go_enter Try.func91, Try.ntmps91
    go_wp2
    go_loopw [5] (fun i wr => ∃ k : Nat, k ≤ ws.length ∧ i = .int .i64 k ∧ Ext w wr ∧ wrsSame ws vs = wrsSame (ws.drop k) (vs.drop k)) (fun i _ => ws.length - (intOf i).toNat)
    case atStart => exact ⟨0, Nat.zero_le _, rfl, Below.refl _ _, rfl⟩
    case round =>
      obtain ⟨k, hk, rfl, hext, hgo⟩ := hrel
      have HG := Lib.hid hgo; clear hgo
      by_cases hlt : k < ws.length
      · have hlt' : k < vs.length := by omega
        have hAr : WrsAt wr B A ws := hA.ext hext
        have hAr' : WrsAt wr B' A' vs := hA'.ext hext
        obtain ⟨ad, rfl, h0, h1, h2⟩ := WrsAt.get hAr hlt
        obtain ⟨ad', rfl, h0', h1', h2'⟩ := WrsAt.get hAr' hlt'
        clear hAr hAr' hA hA'
        have HL := Lib.hid hlen; clear hlen
        have hdrop : wrsSame (ws.drop k) (vs.drop k) = (wrSame ws[k] vs[k] && wrsSame (ws.drop (k + 1)) (vs.drop (k + 1))) := by
          rw [List.drop_eq_getElem_cons hlt, List.drop_eq_getElem_cons hlt']; rfl
        have HD := Lib.hid hdrop; clear hdrop
        have hne := fun x => neq47 ws[k] vs[k] x
        have hgd := guard47
        cases hs : wrSame ws[k] vs[k]
        · go_wp2
          go_quiet (fail)
          go_wp2
          go_ret
          exact ⟨ret_bool (by rw [HG.out, HD.out, hs]; rfl), ext_trans hext (ext_drewN _ _)⟩
        · go_wp2
          go_quiet (fail)
          go_wp2
          go_roundw
          case rel => exact ⟨k + 1, hlt, by go_num, ext_trans hext (ext_drewN _ _), by rw [HG.out, HD.out, hs]; rfl⟩
          case measure => simp [intOf]; omega
      · obtain rfl : k = ws.length := by omega
        have HL := Lib.hid hlen; clear hlen
        go_wp2
        go_ret
        exact ⟨ret_bool (by rw [HG.out, List.drop_length, HL.out, List.drop_length]; rfl), hext⟩
  · have hf : Hid (wrsSame ws vs = false) := by
      clear hA hA' hl
      induction ws generalizing vs with
      | nil => cases vs with | nil => exact absurd rfl hlen | cons _ _ => rfl
      | cons x xs ih => cases vs with
        | nil => rfl
        | cons y ys =>
          show (wrSame x y && wrsSame xs ys) = false
          rw [(ih ys (by simpa using hlen) : wrsSame xs ys = false), Bool.and_false]
    have hne : ((ws.length : Int) != vs.length) = true := by simp; omega
    go_enter Try.func91, Try.ntmps91
    go_wp2
    go_ret
    exact ⟨ret_bool hf.out.symm, Below.refl _ _⟩

/-- Two items alike. -/
def itSame (x y : It) : Bool := x.level == y.level && x.n == y.n && x.turn == y.turn && (x.shut == y.shut) && wrsSame x.ws y.ws

set_option maxHeartbeats 1000000 in
theorem refItemSame_any (x y : It) (A A' : Option Addr) (c c' : Nat) (w : World) (B B' : Nat) (hA : WrsAt w B A x.ws) (hA' : WrsAt w B' A' y.ws) (hl : x.ws.length ≤ 9223372036854775807) :
    Calls Try.prog 26 #[.agg #[.int .i64 x.level, .int .i64 x.n, .int .i64 x.turn, .bool x.shut, .slice A x.ws.length c], .agg #[.int .i64 y.level, .int .i64 y.n, .int .i64 y.turn, .bool y.shut, .slice A' y.ws.length c']] w
      fun e w' => e = .returned (.bool (itSame x y)) ∧ Ext w w' := by
  obtain ⟨level, n, turn, shut, ws⟩ := x
  obtain ⟨level', n', turn', shut', vs⟩ := y
  dsimp only at hA hA' hl ⊢
  by_cases hb : level = level' ∧ n = n' ∧ turn = turn' ∧ shut = shut'
  · obtain ⟨rfl, rfl, rfl, rfl⟩ := hb
    go_enter Try.func26, Try.ntmps26
    go_wp2_with fail
    refine (refSame_any A A' c c' ws vs _ B B' ((hA.ext (ext_alloc _ _)).ext (ext_alloc _ _)) ((hA'.ext (ext_alloc _ _)).ext (ext_alloc _ _)) hl).mono ?_
    rintro e w1 ⟨rfl, hext⟩
    go_wp2
    go_ret
    exact ⟨ret_bool (by simp [itSame]), ext_trans (ext_trans (ext_alloc _ _) (ext_alloc _ _)) hext⟩
  · have hf : Hid (itSame ⟨level, n, turn, shut, ws⟩ ⟨level', n', turn', shut', vs⟩ = false) := by
      show itSame _ _ = false
      cases h : itSame ⟨level, n, turn, shut, ws⟩ ⟨level', n', turn', shut', vs⟩
      · rfl
      · exfalso; apply hb
        simp only [itSame, Bool.and_eq_true, beq_iff_eq] at h
        exact ⟨h.1.1.1.1, h.1.1.1.2, h.1.1.2, h.1.2⟩
    by_cases h1 : level = level'
    · by_cases h2 : n = n'
      · by_cases h3 : turn = turn'
        · have h4 : (shut == shut') = false := by
            cases h : shut == shut'
            · rfl
            · exfalso; exact hb ⟨h1, h2, h3, by simpa using h⟩
          subst h1 h2 h3
          clear hb
          go_enter Try.func26, Try.ntmps26
          go_wp2
          go_ret
          exact ⟨ret_bool hf.out.symm, ext_trans (ext_alloc _ _) (ext_alloc _ _)⟩
        · have h4 : (turn == turn') = false := by simpa using h3
          subst h1 h2
          clear hb
          go_enter Try.func26, Try.ntmps26
          go_wp2
          go_ret
          exact ⟨ret_bool hf.out.symm, ext_trans (ext_alloc _ _) (ext_alloc _ _)⟩
      · have h4 : (n == n') = false := by simpa using h2
        subst h1
        clear hb
        go_enter Try.func26, Try.ntmps26
        go_wp2
        go_ret
        exact ⟨ret_bool hf.out.symm, ext_trans (ext_alloc _ _) (ext_alloc _ _)⟩
    · have h4 : (level == level') = false := by simpa using h1
      clear hb
      go_enter Try.func26, Try.ntmps26
      go_wp2
      go_ret
      exact ⟨ret_bool hf.out.symm, ext_trans (ext_alloc _ _) (ext_alloc _ _)⟩

/-- An item as it lies in memory: where its writes are. -/
structure Iv where
  it : It
  A : Option Addr
  c : Nat
def Iv.cells (x : Iv) : List Value := [.int .i64 x.it.level, .int .i64 x.it.n, .int .i64 x.it.turn, .bool x.it.shut, .slice x.A x.it.ws.length x.c]
theorem Iv.cells_len (x : Iv) : x.cells.length = 5 := rfl
structure IvOk (w : World) (B : Nat) (x : Iv) : Prop where
  at_ : WrsAt w B x.A x.it.ws
  wr : ∀ y ∈ x.it.ws, y.ok
  len : x.it.ws.length * 40 ≤ 140737488351232
theorem IvOk.ext {w w' : World} {B : Nat} {x : Iv} (h : IvOk w B x) (k : Ext w w') : IvOk w' B x := ⟨h.at_.ext k, h.wr, h.len⟩
theorem IvOk.keeps {w w' : World} {B : Nat} {x : Iv} {T : List TypeId} (h : IvOk w B x) (k : Keeps B T w w') (hT : 47 ∉ T) : IvOk w' B x := ⟨h.at_.keeps k hT, h.wr, h.len⟩
theorem IvOk.le {w : World} {B : Nat} {x : Iv} (h : IvOk w B x) : x.it.ws.length ≤ 9223372036854775807 := by have := h.len; omega
abbrev RowsIv (w : World) (B : Nat) (A : Option Addr) (xs : List Iv) : Prop := RowsAt w B 33 5 Iv.cells A xs
theorem RowsIv.get {w : World} {B : Nat} {A : Option Addr} {xs : List Iv} (h : RowsIv w B A xs) {k : Nat} (hk : k < xs.length) :
    ∃ ad, A = some ad ∧ w.cell? (ad.add (k * 5)) = some (.int .i64 xs[k].it.level) ∧ w.cell? ⟨(ad.add (k * 5)).block, (ad.add (k * 5)).off + 1, none⟩ = some (.int .i64 xs[k].it.n) ∧
      w.cell? ⟨(ad.add (k * 5)).block, (ad.add (k * 5)).off + 2, none⟩ = some (.int .i64 xs[k].it.turn) ∧ w.cell? ⟨(ad.add (k * 5)).block, (ad.add (k * 5)).off + 3, none⟩ = some (.bool xs[k].it.shut) ∧
      w.cell? ⟨(ad.add (k * 5)).block, (ad.add (k * 5)).off + 4, none⟩ = some (.slice xs[k].A xs[k].it.ws.length xs[k].c) := by
  obtain ⟨ad, e, _, hc⟩ := h k hk
  exact ⟨ad, e, hc 0 _ rfl, hc 1 _ rfl, hc 2 _ rfl, hc 3 _ rfl, hc 4 _ rfl⟩

def itsSame : List Iv → List Iv → Bool
  | [], [] => true
  | x :: xs, y :: ys => itSame x.it y.it && itsSame xs ys
  | _, _ => false

set_option maxHeartbeats 1000000 in
theorem refSameAll_any (A A' : Option Addr) (c c' : Nat) (xs ys : List Iv) (w : World) (B B' : Nat) (hA : RowsIv w B A xs) (hA' : RowsIv w B' A' ys) (hx : ∀ x ∈ xs, IvOk w B x) (hy : ∀ x ∈ ys, IvOk w B' x) (hl : xs.length ≤ 9223372036854775807) :
    Calls Try.prog 33 #[.slice A xs.length c, .slice A' ys.length c'] w fun e w' => e = .returned (.bool (itsSame xs ys)) ∧ Ext w w' := by
  by_cases hlen : xs.length = ys.length
  · go_enter Try.func33, Try.ntmps33
    go_wp2
    go_loopw [5] (fun i wr => ∃ k : Nat, k ≤ xs.length ∧ i = .int .i64 k ∧ Ext w wr ∧ itsSame xs ys = itsSame (xs.drop k) (ys.drop k)) (fun i _ => xs.length - (intOf i).toNat)
    case atStart => exact ⟨0, Nat.zero_le _, rfl, Below.refl _ _, rfl⟩
    case round =>
      obtain ⟨k, hk, rfl, hext, hgo⟩ := hrel
      have HG := Lib.hid hgo; clear hgo
      by_cases hlt : k < xs.length
      · have hlt' : k < ys.length := by omega
        have hAr : RowsIv wr B A xs := hA.ext hext
        have hAr' : RowsIv wr B' A' ys := hA'.ext hext
        obtain ⟨ad, rfl, h0, h1, h2, h3, h4⟩ := RowsIv.get hAr hlt
        obtain ⟨ad', rfl, h0', h1', h2', h3', h4'⟩ := RowsIv.get hAr' hlt'
        have ix := (hx _ (List.getElem_mem hlt)).ext hext
        have iy := (hy _ (List.getElem_mem hlt')).ext hext
        clear hAr hAr' hA hA' hx hy
        have HL := Lib.hid hlen; clear hlen
        have hdrop : itsSame (xs.drop k) (ys.drop k) = (itSame xs[k].it ys[k].it && itsSame (xs.drop (k + 1)) (ys.drop (k + 1))) := by
          rw [List.drop_eq_getElem_cons hlt, List.drop_eq_getElem_cons hlt']; rfl
        have HD := Lib.hid hdrop; clear hdrop
        have x0 := fun x (hx : Ext wr x) => ext_cell hx h0
        have x1 := fun x (hx : Ext wr x) => ext_cell hx h1
        have x2 := fun x (hx : Ext wr x) => ext_cell hx h2
        have x3 := fun x (hx : Ext wr x) => ext_cell hx h3
        have x4 := fun x (hx : Ext wr x) => ext_cell hx h4
        have y0 := fun x (hx : Ext wr x) => ext_cell hx h0'
        have y1 := fun x (hx : Ext wr x) => ext_cell hx h1'
        have y2 := fun x (hx : Ext wr x) => ext_cell hx h2'
        have y3 := fun x (hx : Ext wr x) => ext_cell hx h3'
        have y4 := fun x (hx : Ext wr x) => ext_cell hx h4'
        cases hs : itSame xs[k].it ys[k].it
        all_goals
          go_wp2
          refine wp_region_plan (.reads 0 (.reads 1 (.reads 2 (.reads 3 (.reads 4 (.reads 5 (.reads 6 (.reads 7 (.makes 8 (.reads 9 (.done))))))))))) (by kernel_rfl) (by kernel_rfl) (fun x => Ext wr x) (ext_drewN wr 1) ?_
          iterate 8 (refine seg_take0 ⟨_, _, _, _, _, _⟩ _ rfl rfl (fun x hx => by go_simp; try with_reducible rfl) (fun _ _ _ h => h) ?_; simp only [Act.put, List.setIfInBounds_toArray, List.set_cons_zero, List.set_cons_succ])
          refine seg_makes ⟨_, _, _, _, _, _⟩ rfl (fun K hK => ?_)
          go_simp
          refine (refItemSame_any xs[k].it ys[k].it _ _ _ _ _ B B' (ix.at_.ext (ext_drewN _ 1)) (iy.at_.ext (ext_drewN _ 1)) ix.le).mono ?_
          rw [hs]
          rintro e w1 ⟨rfl, hext1⟩
          have hwr : Ext wr w1 := ext_trans (ext_drewN wr 1) hext1
          refine hK _ _ (fun x => Ext w1 x) (Below.refl _ _) (fun x hx => ext_trans (hwr) hx) ?_
          clear hK
          (refine seg_take0 ⟨_, _, _, _, _, _⟩ _ rfl rfl (fun x hx => by go_simp; try with_reducible rfl) (fun _ _ _ h => h) ?_; simp only [Act.put, List.setIfInBounds_toArray, List.set_cons_zero, List.set_cons_succ])
          refine seg_done ?_
          go_wp2
        · go_ret
          exact ⟨ret_bool (by rw [HG.out, HD.out, hs]; rfl), ext_trans hext hwr⟩
        · go_roundw
          case rel => exact ⟨k + 1, hlt, by go_num, ext_trans hext hwr, by rw [HG.out, HD.out, hs]; rfl⟩
          case measure => simp [intOf]; omega
      · obtain rfl : k = xs.length := by omega
        have HL := Lib.hid hlen; clear hlen
        go_wp2
        go_ret
        exact ⟨ret_bool (by rw [HG.out, List.drop_length, HL.out, List.drop_length]; rfl), hext⟩
  · have hf : Hid (itsSame xs ys = false) := by
      clear hA hA' hl hx hy
      induction xs generalizing ys with
      | nil => cases ys with | nil => exact absurd rfl hlen | cons _ _ => rfl
      | cons x xs ih => cases ys with
        | nil => rfl
        | cons y ys =>
          show (itSame x.it y.it && itsSame xs ys) = false
          rw [(ih ys (by simpa using hlen) : itsSame xs ys = false), Bool.and_false]
    have hne : ((xs.length : Int) != ys.length) = true := by simp; omega
    go_enter Try.func33, Try.ntmps33
    go_wp2
    go_ret
    exact ⟨ret_bool hf.out.symm, Below.refl _ _⟩
end Go.Proofs.Ytdknkbpgkkakhaa
