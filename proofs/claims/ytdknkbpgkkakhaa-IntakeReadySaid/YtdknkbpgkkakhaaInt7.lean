/- Layer 20: row. -/
import Derived.Test.YtdknkbpgkkakhaaInt6
namespace Go.Proofs.Ytdknkbpgkkakhaa
open Go.RowKit Go.Maps
open Go.ChangeMaps (setBlock)

section
variable {w w' : World} {B : Nat} {A : Option Addr} {c : Nat} {rs : List Rw} {lev : Int} {m : IntMem} {s : IntSt}
theorem IntGo.keeps {m' : IntMem} (h : IntAt w B A c rs lev m s) (k : IntGo B w m w' m') : Keeps B [33, 140] w w' := Keeps.of_mods k.mods fun i hi => by
  refine ⟨(h.own_lt hi).1, fun cs t fr hk => ?_⟩
  rcases hi with rfl | rfl | rfl | hg
  · have h2 := h.blk
    unfold Blk at h2
    rw [h2] at hk
    injection hk with hk
    injection hk with _ hk
    simp [← hk]
  · obtain ⟨es, clock, h1, _⟩ := h.map
    rw [hk] at h1; cases h1
  · obtain ⟨_, _, _, h1, _⟩ := h.chan
    rw [hk] at h1; cases h1
  · obtain ⟨_, cur, h2⟩ := h.vc_blk hg
    unfold Blk at h2
    rw [h2] at hk
    injection hk with hk
    injection hk with _ hk
    simp [← hk]

theorem wf64_of {x : Int} (h : -9223372036854775808 ≤ x ∧ x ≤ 9223372036854775807) : wf64 x := by
  unfold wf64
  simp [Lit.wf, IntKind.min, IntKind.max, IntKind.signed, IntKind.bits]
  omega

/-- What holds of an intake's numbers and of what it holds. -/
structure IntInv (s : IntSt) (K : Nat) : Prop where
  nums : ∀ a : Nat, 0 ≤ s.over a ∧ s.over a ≤ s.have_ a ∧ s.have_ a ≤ 1000000
  held : ∀ k y, s.held k = some y → (y.level, y.n) = k ∧ y.is = true
  came : s.came.length + s.cnt ≤ K
theorem It.is_nums {x : It} (h : x.is = true) : ((0 ≤ x.level ∧ x.level < 6) ∧ (1 ≤ x.n ∧ x.n ≤ 1000000)) ∧ (0 ≤ x.turn ∧ x.turn ≤ 1000000) := by
  unfold It.is at h
  simp only [Bool.and_eq_true, betw, decide_eq_true_eq] at h
  omega
/-- The next item and those that were held and come behind it. -/
def rowF : Nat → IntSt → It → IntSt × List It
  | 0, s, x => (letsSt (comesSt s x) (x.level, x.n + 1), [x])
  | k + 1, s, x =>
    match s.held (x.level, x.n + 1) with
    | none => (letsSt (comesSt s x) (x.level, x.n + 1), [x])
    | some y =>
      if y.turn = (comesSt s x).over x.level.toNat then ((rowF k (letsSt (comesSt s x) (x.level, x.n + 1)) y).1, x :: (rowF k (letsSt (comesSt s x) (x.level, x.n + 1)) y).2)
      else (letsSt (comesSt s x) (x.level, x.n + 1), [x])
theorem comesSt_cnt (s : IntSt) (x : It) : (comesSt s x).cnt = s.cnt := by unfold comesSt comesHave comesOver; split <;> rfl
theorem comesSt_held (s : IntSt) (x : It) : (comesSt s x).held = s.held := by unfold comesSt comesHave comesOver; split <;> rfl
theorem comesSt_have (s : IntSt) (x : It) (k : Nat) : (comesSt s x).have_ k = if k = x.level.toNat then s.have_ k + 1 else s.have_ k := by
  unfold comesSt comesHave comesOver
  split <;> (dsimp only; split <;> simp_all)
theorem comesSt_over (s : IntSt) (x : It) (k : Nat) : (comesSt s x).over k = if k = x.level.toNat ∧ x.shut = true then s.over k + 1 else s.over k := by
  unfold comesSt comesHave comesOver
  cases x.shut
  · simp
  · simp only [if_true, and_true]
    split <;> simp_all
theorem comesSt_came (s : IntSt) (x : It) : (comesSt s x).came = if x.shut = true then s.came else s.came ++ [x] := by
  unfold comesSt comesHave comesOver
  split <;> rfl
theorem IntInv.row {K : Nat} (h : IntInv s (K + 1)) {x : It} (hx : x.is = true) (hn : x.n = s.have_ x.level.toNat + 1) (hc : s.came.length + s.cnt ≤ K) : IntInv (letsSt (comesSt s x) (x.level, x.n + 1)) (K + 1) := by
  have hxn := It.is_nums hx
  refine ⟨fun a => ?_, fun k y hk => ?_, ?_⟩
  · show 0 ≤ (comesSt s x).over a ∧ (comesSt s x).over a ≤ (comesSt s x).have_ a ∧ (comesSt s x).have_ a ≤ 1000000
    rw [comesSt_over, comesSt_have]
    have h1 := h.nums a
    by_cases e : a = x.level.toNat
    · subst e
      cases x.shut <;> simp <;> omega
    · simp [e]; omega
  · have hk' : (if k = (x.level, x.n + 1) then none else (comesSt s x).held k) = some y := hk
    rw [comesSt_held] at hk'
    split at hk'
    · cases hk'
    · exact h.held k y hk'
  · have e1 : (letsSt (comesSt s x) (x.level, x.n + 1)).came.length ≤ s.came.length + 1 := by
      show (comesSt s x).came.length ≤ _
      rw [comesSt_came]
      split <;> simp
    have e2 : (letsSt (comesSt s x) (x.level, x.n + 1)).cnt ≤ s.cnt := by
      show (if ((comesSt s x).held (x.level, x.n + 1)).isSome = true then (comesSt s x).cnt - 1 else (comesSt s x).cnt) ≤ _
      rw [comesSt_cnt]
      split <;> omega
    omega
theorem IntInv.row_next {K : Nat} (h : IntInv s (K + 1)) {x y : It} (hx : x.is = true) (hn : x.n = s.have_ x.level.toNat + 1) (hy : s.held (x.level, x.n + 1) = some y) :
    y.is = true ∧ y.level = x.level ∧ y.n = (letsSt (comesSt s x) (x.level, x.n + 1)).have_ y.level.toNat + 1 := by
  obtain ⟨h1, h2⟩ := h.held _ _ hy
  injection h1 with e1 e2
  refine ⟨h2, e1, ?_⟩
  show y.n = (comesSt s x).have_ y.level.toNat + 1
  rw [comesSt_have, e1, if_pos rfl, e2, hn]
theorem letsSt_came (s : IntSt) (k : Int × Int) : (letsSt s k).came = s.came := rfl
theorem letsSt_cnt {s : IntSt} {k : Int × Int} {y : It} (h : s.held k = some y) : (letsSt s k).cnt = s.cnt - 1 := by
  show (if (s.held k).isSome = true then s.cnt - 1 else s.cnt) = _
  rw [h]; rfl
theorem IntAt.cnt_pos (h : IntAt w B A c rs lev m s) {k : Int × Int} {y : It} (hy : s.held k = some y) : 0 < s.cnt := by
  rcases Nat.eq_zero_or_pos s.cnt with h0 | h0
  · rcases h.helds k with ⟨_, e⟩ | ⟨z, e1, _, _⟩
    · rw [hy] at e; cases e
    · obtain ⟨es, clock, _, hn, hE⟩ := h.map
      obtain ⟨e, he, _⟩ := hE.held _ _ e1
      rw [h0] at hn
      have := List.length_pos_of_mem he
      rw [Array.length_toList] at this
      omega
  · exact h0
theorem IntAt.fst_zero (h : IntAt w B A c rs lev m s) (h0 : s.cnt = 0) (k : Int × Int) : s.held k = none := by
  cases hy : s.held k with
  | none => rfl
  | some y => have := h.cnt_pos hy; omega
theorem Own.blk' {α : Type} {E : Elem α} {base : Nat} {v : Value} {xs : List α} (h : Own E w base v xs) {b : Nat} (hb : v.ownBlock = some b) : base ≤ b ∧ b < w.heap.size := by
  rcases h.2 with ⟨rfl, h0⟩ | ⟨g, cap, cur, rfl, hg, hh, _⟩
  · cases hb
  · injection hb with hb
    subst hb
    exact ⟨hg, (Array.getElem?_eq_some_iff.1 hh).1⟩
def lenV : Value → Nat
  | .slice _ n _ => n
  | _ => 0
def RowPost (w : World) (B : Nat) (A : Option Addr) (c : Nat) (rs : List Rw) (lev : Int) (m : IntMem) (s : IntSt) (x : It) (e : Ending) (w' : World) : Prop :=
  ∃ v zs m', e = .returned v ∧ Own elIv w' w.heap.size v zs ∧ its zs = (rowF s.cnt s x).2 ∧ (∀ z ∈ zs, IvOk w' B z) ∧ IntAt w' B A c rs lev m' (rowF s.cnt s x).1 ∧ IntGo B w m w' m'
set_option maxRecDepth 100000 in
set_option maxHeartbeats 4000000 in
theorem intRow_any (h : IntAt w B A c rs lev m s) (x : Iv) (hx : IvOk w B x) {a K : Nat} (ha : a < 6) (hxa : x.it.level = (a : Int)) (hi : IntInv s (K + 1)) (hxi : x.it.is = true) (hxn : x.it.n = s.have_ a + 1) (hc : s.came.length + s.cnt ≤ K) (hK : K < 1000000) :
    Calls Try.prog 104 #[.pointer (some ⟨m.ga, 0, none⟩), .agg #[.int .i64 x.it.level, .int .i64 x.it.n, .int .i64 x.it.turn, .bool x.it.shut, .slice x.A x.it.ws.length x.c]] w (RowPost w B A c rs lev m s x.it) := by
  obtain ⟨⟨level, n0, turn0, shut0, ws0⟩, Ax0, cx0⟩ := x
  dsimp only at hx hxa hi hxi hxn hc ⊢
  subst hxa
  have hB := h.base_le
  obtain ⟨W, hW⟩ : ∃ W, W = w.alloc (.cells #[.int .i64 (a : Int), .int .i64 n0, .int .i64 turn0, .bool shut0, .slice Ax0 ws0.length cx0] 33) := ⟨_, rfl⟩
  have x0 : Ext w W := by rw [hW]; exact ext_alloc _ _
  have b0 : Blk W w.heap.size 33 #[.int .i64 (a : Int), .int .i64 n0, .int .i64 turn0, .bool shut0, .slice Ax0 ws0.length cx0] := by rw [hW]; exact Blk.new _ _ _
  have hs0 : W.heap.size = w.heap.size + 1 := by rw [hW]; simp
  have hfew := h.few
  have HI := Lib.hid (h.ext x0)
  have hgo := Lib.hid (IntGo.of_ext x0 hB m)
  have hx1 := hx.ext x0
  have HW : Hid (w.alloc (.cells #[.int .i64 (a : Int), .int .i64 n0, .int .i64 turn0, .bool shut0, .slice Ax0 ws0.length cx0] 33) = W) := hW.symm
  have hown : Hid (¬ IntOwn m w.heap.size) := fun e => by have := (h.own_lt e).2; omega
  have HINV := Lib.hid (And.intro hi (And.intro hxi (And.intro hxn (And.intro hc hK))))
  clear hW h hx x0 hi hxi hxn hc hK
  go_enter Try.func104, Try.ntmps104
  go_wp2_with fail
  rw [HW.out]
  clear HW
  obtain ⟨gx, hgx⟩ : ∃ gx, gx = w.heap.size := ⟨_, rfl⟩
  rw [← hgx] at b0 hown ⊢
  have HGX : w.heap.size ≤ gx ∧ gx ≤ w.heap.size := ⟨Nat.le_of_eq hgx.symm, Nat.le_of_eq hgx⟩
  clear hgx
  go_step3
  go_wp2_with fail
  go_step3
  go_wp2_with fail
  go_loopw [5] (fun o wr => ∃ (n' : Int) (turn' : Int) (shut' : Bool) (ws' : List Wr) (A' : Option Addr) (c' : Nat) (s' : IntSt) (m' : IntMem) (zs : List Iv),
    IntAt wr B A c rs lev m' s' ∧ IntGo B w m wr m' ∧ ¬ IntOwn m' gx ∧ Blk wr gx 33 #[.int .i64 (a : Int), .int .i64 n', .int .i64 turn', .bool shut', .slice A' ws'.length c'] ∧ IvOk wr B ⟨⟨a, n', turn', shut', ws'⟩, A', c'⟩ ∧
    Own elIv wr (gx + 1) o zs ∧ (∀ b, o.ownBlock = some b → ¬ IntOwn m' b) ∧ (∀ z ∈ zs, IvOk wr B z) ∧ zs.length + s'.cnt = s.cnt ∧
    Hid (IntInv s' (K + 1) ∧ (⟨a, n', turn', shut', ws'⟩ : It).is = true ∧ n' = s'.have_ a + 1 ∧ s'.came.length + s'.cnt ≤ K ∧ K < 1000000) ∧
    Hid (rowF s.cnt s ⟨a, n0, turn0, shut0, ws0⟩ = ((rowF s'.cnt s' ⟨a, n', turn', shut', ws'⟩).1, its zs ++ (rowF s'.cnt s' ⟨a, n', turn', shut', ws'⟩).2))) (fun o _ => s.cnt + 1 - lenV o)
  case atStart => exact ⟨n0, turn0, shut0, ws0, Ax0, cx0, s, m, [], HI.out, hgo.out, hown.out, b0, hx1, Own.nil _ _, (fun b h => by cases h), by simp, by simp, HINV.out, by show _ = _; simp [its]⟩
  case round =>
    clear HI hgo hown b0 hx1 HINV
    obtain ⟨n, turn, shut, ws, Ax, cx, s', m', zs, hI, hG, hno, hb, hx, hown, hdis, hzs, hcn, HINV, HR⟩ := hrel
    obtain ⟨Ao, co, rfl⟩ := hown.form
    have hmg := hG.ga
    have r0 := hb.cell 0
    have r1 := hb.cell 1
    have r2 := hb.cell 2
    have r3 := hb.cell 3
    have r4 := hb.cell 4
    simp only [List.getElem?_toArray, List.getElem?_cons_zero, List.getElem?_cons_succ] at r0 r1 r2 r3 r4
    go_wp2_with fail
    have hcm := intComes_any hI ⟨⟨a, n, turn, shut, ws⟩, Ax, cx⟩ hx ha rfl (by have := HINV.out.1.nums a; omega) (by have := HINV.out.1.nums a; omega) (by have := HINV.out.2.2.2; omega)
    rw [hmg] at hcm
    refine hcm.mono ?_
    clear hcm r0 r1 r2 r3 r4
    rintro e w2 ⟨rfl, m2, hI2, hG2⟩
    have hk2 := hG2.keeps hI
    have hgl := hb.lt
    obtain ⟨hno2, hgb⟩ := hG2.free hgl hno
    have hb2 : Blk w2 gx 33 #[.int .i64 (a : Int), .int .i64 n, .int .i64 turn, .bool shut, .slice Ax ws.length cx] := hgb.trans hb
    have hx2 := hx.keeps hk2 (by decide)
    have hown2 := hown.mods hG2.mods hdis
    have hdis2 : ∀ b, (Value.slice Ao zs.length co).ownBlock = some b → ¬ IntOwn m2 b := fun b hob => (hG2.free (hown.blk' hob).2 (hdis b hob)).1
    have hzs2 : ∀ z ∈ zs, IvOk w2 B z := fun z hz => (hzs z hz).keeps hk2 (by decide)
    have hgl2 := hb2.lt
    have hmg2 : m2.ga = m.ga := hG2.ga.trans hmg
    have hG3 := hG.trans hG2
    clear hb hx hown hdis hzs hG hG2 hno hgb hI hk2
    have r0 := hb2.cell 0
    have r1 := hb2.cell 1
    have r2 := hb2.cell 2
    have r3 := hb2.cell 3
    have r4 := hb2.cell 4
    simp only [List.getElem?_toArray, List.getElem?_cons_zero, List.getElem?_cons_succ] at r0 r1 r2 r3 r4
    go_wp2_with fail
    refine (itemCopy_any (⟨(a : Int), n, turn, shut, ws⟩ : It) _ _ _ B hx2.at_ (by have := hx2.len; exact this)).mono ?_
    rintro e w3 ⟨A', c', rfl, hW, hext⟩
    have HB := Lib.hid (rows_block (E := elIv) (B := B) (⟨(⟨(a : Int), n, turn, shut, ws⟩ : It), A', c'⟩ : Iv) (Blk.new w3 33 (Iv.cells ⟨(⟨(a : Int), n, turn, shut, ws⟩ : It), A', c'⟩).toArray))
    have HO := Lib.hid ((hown2.ext hext).ext (ext_alloc w3 (.cells (Iv.cells ⟨(⟨(a : Int), n, turn, shut, ws⟩ : It), A', c'⟩).toArray 33)))
    have hsx := hext.size
    clear r0 r1 r2 r3 r4
    go_upto_region 4 with (at_builtin; refine wpList_append elIv rfl _ _ rfl (gx + 1) (.slice Ao zs.length co) zs rfl HO.out _ 1 [(⟨(⟨(a : Int), n, turn, shut, ws⟩ : It), A', c'⟩ : Iv)] rfl B HB.out (by show _ * 56 ≤ _; simp; omega) (by simp; omega) (by simp; omega) ?_; intro A2 c2 w4 hown4 hg4 hat4)
    have xd3 : Ext w2 (w3.alloc (.cells (Iv.cells ⟨(⟨(a : Int), n, turn, shut, ws⟩ : It), A', c'⟩).toArray 33)) := ext_trans hext (ext_alloc _ _)
    have hBg : B ≤ gx + 1 := by omega
    have MS : Mods (fun k => (Value.slice Ao zs.length co).ownBlock = some k) w2 w4 := (Mods.of_below xd3 _).trans (Mods.grown hg4) (fun k hk h => h)
    have hk4 : Keeps B [33] w2 w4 := (Keeps.of_ext xd3 B [33]).trans (HO.out.keeps hg4 hBg)
    have hI4 := hI2.mods MS hdis2 hk4 (by decide) (by decide) (by decide)
    have hb4 : Blk w4 gx 33 #[.int .i64 (a : Int), .int .i64 n, .int .i64 turn, .bool shut, .slice Ax ws.length cx] := hb2.mods MS (fun e => by have := (hown2.blk' e).1; omega)
    have hx4 := hx2.keeps hk4 (by decide)
    have hG4 : IntGo B w m w4 m2 := ⟨hG3.below.trans (MS.below (Nat.le_trans hB hG3.below.size) (fun k e => by have := (hown2.blk' e).1; omega)), hG3.mods.trans MS (fun k hk e => by have := (hown2.blk' e).1; omega), hG3.sub, hG3.ga⟩
    have hdis4 : ∀ b, (Value.slice A2 (zs ++ [(⟨⟨a, n, turn, shut, ws⟩, A', c'⟩ : Iv)]).length c2).ownBlock = some b → ¬ IntOwn m2 b := fun b hob => by
      rcases hat4 with e | e
      · rw [e] at hob; exact hdis2 b hob
      · rw [e] at hob
        injection hob with hob
        subst hob
        intro hc
        exact absurd (Nat.lt_of_lt_of_le (hI2.own_lt hc).2 xd3.size) (Nat.lt_irrefl _)
    have hzs4 : ∀ z ∈ zs ++ [(⟨⟨a, n, turn, shut, ws⟩, A', c'⟩ : Iv)], IvOk w4 B z := fun z hz => by
      rcases List.mem_append.1 hz with hz | hz
      · exact (hzs2 z hz).keeps hk4 (by decide)
      · have e1 : z = (⟨⟨a, n, turn, shut, ws⟩, A', c'⟩ : Iv) := by simpa using hz
        subst e1
        exact ⟨(RowsAt.ext hW (ext_alloc _ _)).keeps (HO.out.keeps hg4 hBg) (by decide), hx2.wr, hx2.len⟩
    clear hext hW HB HO hI2 hb2 hx2 hown2 hdis2 hzs2 hG3 xd3 MS hk4 hg4 hat4
    have r0 := hb4.cell 0
    have r1 := hb4.cell 1
    have r2 := hb4.cell 2
    have r3 := hb4.cell 3
    have r4 := hb4.cell 4
    simp only [List.getElem?_toArray, List.getElem?_cons_zero, List.getElem?_cons_succ] at r0 r1 r2 r3 r4
    have hnn := It.is_nums HINV.out.2.1
    have hwr : IntKind.i64.wrap (n + 1) = n + 1 := IntWalk.i64_in _ (by have := hnn.1.2; dsimp only at this; omega)
    have HNN := Lib.hid hnn
    clear hnn
    go_wp2_with fail
    have hlt := intLets_any hI4 (a := (a : Int)) (b := n + 1) (wf64_of (by omega)) (wf64_of (by have := HNN.out.1.2; omega))
    rw [hmg2] at hlt
    refine hlt.mono ?_
    clear hlt r0 r1 r2 r3 r4
    rintro e w5 ⟨hcase, m3, hI5, hG5⟩
    have hk5 := hG5.keeps hI4
    have hgl4 := hb4.lt
    have hno2' : ¬ IntOwn m2 gx := hno2
    obtain ⟨hno5, hgb5⟩ := hG5.free hgl4 hno2'
    have hb5 : Blk w5 gx 33 #[.int .i64 (a : Int), .int .i64 n, .int .i64 turn, .bool shut, .slice Ax ws.length cx] := hgb5.trans hb4
    have hown5 := hown4.mods hG5.mods hdis4
    have hdis5 : ∀ b, (Value.slice A2 (zs ++ [(⟨⟨a, n, turn, shut, ws⟩, A', c'⟩ : Iv)]).length c2).ownBlock = some b → ¬ IntOwn m3 b := fun b hob => (hG5.free (hown4.blk' hob).2 (hdis4 b hob)).1
    have hzs5 : ∀ z ∈ zs ++ [(⟨⟨a, n, turn, shut, ws⟩, A', c'⟩ : Iv)], IvOk w5 B z := fun z hz => (hzs4 z hz).keeps hk5 (by decide)
    have hmg3 : m3.ga = m.ga := hG5.ga.trans hmg2
    have hG6 := hG4.trans hG5
    have HS : Hid ((comesSt s' ⟨a, n, turn, shut, ws⟩).held = s'.held ∧ (comesSt s' ⟨a, n, turn, shut, ws⟩).cnt = s'.cnt) := ⟨comesSt_held _ _, comesSt_cnt _ _⟩
    rw [HS.out.1] at hcase
    have HCP : Hid (∀ y, s'.held ((a : Int), n + 1) = some y → 0 < s'.cnt) := fun y hy => by
      have := hI4.cnt_pos (k := ((a : Int), n + 1)) (y := y) (by rw [HS.out.1]; exact hy)
      rwa [HS.out.2] at this
    have hsz5 : gx + 1 ≤ w5.heap.size := hb5.lt
    clear hb4 hown4 hdis4 hzs4 hG4 hG5 hI4 hk5 hgb5 hno2' hx4
    rcases hcase with ⟨hnone, rfl⟩ | ⟨y, hsome, he, hy⟩
    · have HF : Hid (rowF s.cnt s ⟨a, n0, turn0, shut0, ws0⟩ = (letsSt (comesSt s' ⟨a, n, turn, shut, ws⟩) ((a : Int), n + 1), its zs ++ [(⟨a, n, turn, shut, ws⟩ : It)])) := by
        show _ = _
        rw [HR.out]
        cases hc0 : s'.cnt with
        | zero => rfl
        | succ k => simp only [rowF, hnone]
      go_wp2_with fail
      have hg7 := hG6.ext hB (ext_trans (ext_alloc w5 (.cells #[.int .i64 0, .int .i64 0, .int .i64 0, .bool false, .slice none 0 0] 33)) (ext_drewN _ 1))
      have hI7 := hI5.ext (ext_trans (ext_alloc w5 (.cells #[.int .i64 0, .int .i64 0, .int .i64 0, .bool false, .slice none 0 0] 33)) (ext_drewN _ 1))
      have hown7 := hown5.ext (ext_trans (ext_alloc w5 (.cells #[.int .i64 0, .int .i64 0, .int .i64 0, .bool false, .slice none 0 0] 33)) (ext_drewN _ 1))
      have hzs7 : ∀ z ∈ _, _ := fun z hz => (hzs5 z hz).ext (ext_trans (ext_alloc w5 (.cells #[.int .i64 0, .int .i64 0, .int .i64 0, .bool false, .slice none 0 0] 33)) (ext_drewN _ 1))
      have HX : Hid (∃ ys : List Iv, Own elIv (w5.alloc (.cells #[.int .i64 0, .int .i64 0, .int .i64 0, .bool false, .slice none 0 0] 33)).drew w.heap.size (.slice A2 (zs.length + 1) c2) ys ∧ its ys = (rowF s.cnt s ⟨a, n0, turn0, shut0, ws0⟩).2 ∧ (∀ z ∈ ys, IvOk (w5.alloc (.cells #[.int .i64 0, .int .i64 0, .int .i64 0, .bool false, .slice none 0 0] 33)).drew B z) ∧
          ∃ m', IntAt (w5.alloc (.cells #[.int .i64 0, .int .i64 0, .int .i64 0, .bool false, .slice none 0 0] 33)).drew B A c rs lev m' (rowF s.cnt s ⟨a, n0, turn0, shut0, ws0⟩).1 ∧ IntGo B w m (w5.alloc (.cells #[.int .i64 0, .int .i64 0, .int .i64 0, .bool false, .slice none 0 0] 33)).drew m') := by
        refine ⟨_, (by have := hown7.le (base' := w.heap.size) (by omega); simp only [List.length_append, List.length_singleton] at this; exact this), ?_, hzs7, m3, ?_, hg7⟩
        · rw [HF.out, its_append]; rfl
        · rw [HF.out]; exact hI7
      clear hI5 hown5 hdis5 hzs5 hG6 hg7 hI7 hown7 hzs7 HF hmg3 hb5 hno5 hno2 hmg2 hmg
      refine wp_region_planH3 (.reads 0 (.reads 1 (.reads 2 (.reads 3 (.reads 4 (.reads 5 (.reads 6 (.reads 7 (.reads 8 (.reads 9 (.reads 10 (.reads 11 (.reads 12 (.reads 13 (.done))))))))))))))) (by kernel_rfl) (by kernel_rfl) (fun x' => Ext (w5.alloc (.cells #[.int .i64 0, .int .i64 0, .int .i64 0, .bool false, .slice none 0 0] 33)) x') (ext_drewN _ 1) (fun ops HOPS => ?_)
      (refine segH_pure _ _ _ _ _ _ (hid_get HOPS 0 _ rfl) rfl wanted_none (fun _ _ _ _ h => h) ?_; intro K hK; go_big_quiet_op; go_big_quiet_on)
      (refine segH_pure _ _ _ _ _ _ (hid_get HOPS 1 _ rfl) rfl wanted_none (fun _ _ _ _ h => h) ?_; intro K hK; go_big_quiet_op; go_big_quiet_on)
      (refine segH_pure _ _ _ _ _ _ (hid_get HOPS 2 _ rfl) rfl wanted_none (fun _ _ _ _ h => h) ?_; intro K hK; go_big_quiet_op; go_big_quiet_on)
      first | (refine segH_pass _ _ _ _ _ _ (hid_get HOPS 3 _ rfl) (wanted_some (hid_get HOPS 2 _ rfl) rfl rfl rfl) (fun _ _ _ _ h => h) ?_; simp only [Act.put, List.setIfInBounds_toArray, List.set_cons_zero, List.set_cons_succ]) | (refine segH_pure _ _ _ _ _ _ (hid_get HOPS 3 _ rfl) rfl (wanted_some (hid_get HOPS 2 _ rfl) rfl rfl rfl) (fun _ _ _ _ h => h) ?_; intro K hK; go_big_quiet_op; go_big_quiet_on) | (refine segH_pass _ _ _ _ _ _ (hid_get HOPS 3 _ rfl) (wanted_gone (hid_get HOPS 2 _ rfl) rfl rfl) (fun _ _ _ _ h => h) ?_; simp only [Act.put, List.setIfInBounds_toArray, List.set_cons_zero, List.set_cons_succ])
      first | (refine segH_pass _ _ _ _ _ _ (hid_get HOPS 4 _ rfl) (wanted_some (hid_get HOPS 2 _ rfl) rfl rfl rfl) (fun _ _ _ _ h => h) ?_; simp only [Act.put, List.setIfInBounds_toArray, List.set_cons_zero, List.set_cons_succ]) | (refine segH_load _ _ _ _ _ _ _ _ _ (hid_get HOPS 4 _ rfl) (wanted_some (hid_get HOPS 2 _ rfl) rfl rfl rfl) rfl (fun _ _ _ _ h => h) (fun y hy => by go_simp; try with_reducible rfl) ?_; simp only [Act.put, List.setIfInBounds_toArray, List.set_cons_zero, List.set_cons_succ]) | (refine segH_pass _ _ _ _ _ _ (hid_get HOPS 4 _ rfl) (wanted_gone (hid_get HOPS 2 _ rfl) rfl rfl) (fun _ _ _ _ h => h) ?_; simp only [Act.put, List.setIfInBounds_toArray, List.set_cons_zero, List.set_cons_succ])
      first | (refine segH_pass _ _ _ _ _ _ (hid_get HOPS 5 _ rfl) (wanted_some (hid_get HOPS 2 _ rfl) rfl rfl rfl) (fun _ _ _ _ h => h) ?_; simp only [Act.put, List.setIfInBounds_toArray, List.set_cons_zero, List.set_cons_succ]) | (refine segH_pure _ _ _ _ _ _ (hid_get HOPS 5 _ rfl) rfl (wanted_some (hid_get HOPS 2 _ rfl) rfl rfl rfl) (fun _ _ _ _ h => h) ?_; intro K hK; go_big_quiet_op; go_big_quiet_on) | (refine segH_pass _ _ _ _ _ _ (hid_get HOPS 5 _ rfl) (wanted_gone (hid_get HOPS 2 _ rfl) rfl rfl) (fun _ _ _ _ h => h) ?_; simp only [Act.put, List.setIfInBounds_toArray, List.set_cons_zero, List.set_cons_succ])
      first | (refine segH_pass _ _ _ _ _ _ (hid_get HOPS 6 _ rfl) (wanted_some (hid_get HOPS 2 _ rfl) rfl rfl rfl) (fun _ _ _ _ h => h) ?_; simp only [Act.put, List.setIfInBounds_toArray, List.set_cons_zero, List.set_cons_succ]) | (refine segH_pure _ _ _ _ _ _ (hid_get HOPS 6 _ rfl) rfl (wanted_some (hid_get HOPS 2 _ rfl) rfl rfl rfl) (fun _ _ _ _ h => h) ?_; intro K hK; go_big_quiet_op; go_big_quiet_on) | (refine segH_pass _ _ _ _ _ _ (hid_get HOPS 6 _ rfl) (wanted_gone (hid_get HOPS 2 _ rfl) rfl rfl) (fun _ _ _ _ h => h) ?_; simp only [Act.put, List.setIfInBounds_toArray, List.set_cons_zero, List.set_cons_succ])
      first | (refine segH_pass _ _ _ _ _ _ (hid_get HOPS 7 _ rfl) (wanted_some (hid_get HOPS 2 _ rfl) rfl rfl rfl) (fun _ _ _ _ h => h) ?_; simp only [Act.put, List.setIfInBounds_toArray, List.set_cons_zero, List.set_cons_succ]) | (refine segH_load _ _ _ _ _ _ _ _ _ (hid_get HOPS 7 _ rfl) (wanted_some (hid_get HOPS 2 _ rfl) rfl rfl rfl) rfl (fun _ _ _ _ h => h) (fun y hy => by go_simp; try with_reducible rfl) ?_; simp only [Act.put, List.setIfInBounds_toArray, List.set_cons_zero, List.set_cons_succ]) | (refine segH_pass _ _ _ _ _ _ (hid_get HOPS 7 _ rfl) (wanted_gone (hid_get HOPS 2 _ rfl) rfl rfl) (fun _ _ _ _ h => h) ?_; simp only [Act.put, List.setIfInBounds_toArray, List.set_cons_zero, List.set_cons_succ])
      first | (refine segH_pass _ _ _ _ _ _ (hid_get HOPS 8 _ rfl) (wanted_some (hid_get HOPS 2 _ rfl) rfl rfl rfl) (fun _ _ _ _ h => h) ?_; simp only [Act.put, List.setIfInBounds_toArray, List.set_cons_zero, List.set_cons_succ]) | (refine segH_nil _ _ _ _ _ _ _ (hid_get HOPS 8 _ rfl) (wanted_some (hid_get HOPS 2 _ rfl) rfl rfl rfl) rfl (fun _ _ _ _ h => h) ?_; simp only [Act.put, List.setIfInBounds_toArray, List.set_cons_zero, List.set_cons_succ]) | (refine segH_pass _ _ _ _ _ _ (hid_get HOPS 8 _ rfl) (wanted_gone (hid_get HOPS 2 _ rfl) rfl rfl) (fun _ _ _ _ h => h) ?_; simp only [Act.put, List.setIfInBounds_toArray, List.set_cons_zero, List.set_cons_succ])
      first | (refine segH_pass _ _ _ _ _ _ (hid_get HOPS 9 _ rfl) (wanted_some (hid_get HOPS 2 _ rfl) rfl rfl rfl) (fun _ _ _ _ h => h) ?_; simp only [Act.put, List.setIfInBounds_toArray, List.set_cons_zero, List.set_cons_succ]) | (refine segH_pure _ _ _ _ _ _ (hid_get HOPS 9 _ rfl) rfl (wanted_some (hid_get HOPS 2 _ rfl) rfl rfl rfl) (fun _ _ _ _ h => h) ?_; intro K hK; go_big_quiet_op; go_big_quiet_on) | (refine segH_pass _ _ _ _ _ _ (hid_get HOPS 9 _ rfl) (wanted_gone (hid_get HOPS 2 _ rfl) rfl rfl) (fun _ _ _ _ h => h) ?_; simp only [Act.put, List.setIfInBounds_toArray, List.set_cons_zero, List.set_cons_succ])
      first | (refine segH_pass _ _ _ _ _ _ (hid_get HOPS 10 _ rfl) (wanted_some (hid_get HOPS 2 _ rfl) rfl rfl rfl) (fun _ _ _ _ h => h) ?_; simp only [Act.put, List.setIfInBounds_toArray, List.set_cons_zero, List.set_cons_succ]) | (refine segH_pure _ _ _ _ _ _ (hid_get HOPS 10 _ rfl) rfl (wanted_some (hid_get HOPS 2 _ rfl) rfl rfl rfl) (fun _ _ _ _ h => h) ?_; intro K hK; go_big_quiet_op; go_big_quiet_on) | (refine segH_pass _ _ _ _ _ _ (hid_get HOPS 10 _ rfl) (wanted_gone (hid_get HOPS 2 _ rfl) rfl rfl) (fun _ _ _ _ h => h) ?_; simp only [Act.put, List.setIfInBounds_toArray, List.set_cons_zero, List.set_cons_succ])
      first | (refine segH_pass _ _ _ _ _ _ (hid_get HOPS 11 _ rfl) (wanted_some (hid_get HOPS 2 _ rfl) rfl rfl rfl) (fun _ _ _ _ h => h) ?_; simp only [Act.put, List.setIfInBounds_toArray, List.set_cons_zero, List.set_cons_succ]) | (refine segH_load _ _ _ _ _ _ _ _ _ (hid_get HOPS 11 _ rfl) (wanted_some (hid_get HOPS 2 _ rfl) rfl rfl rfl) rfl (fun _ _ _ _ h => h) (fun y hy => by go_simp; try with_reducible rfl) ?_; simp only [Act.put, List.setIfInBounds_toArray, List.set_cons_zero, List.set_cons_succ]) | (refine segH_pass _ _ _ _ _ _ (hid_get HOPS 11 _ rfl) (wanted_gone (hid_get HOPS 2 _ rfl) rfl rfl) (fun _ _ _ _ h => h) ?_; simp only [Act.put, List.setIfInBounds_toArray, List.set_cons_zero, List.set_cons_succ])
      first | (refine segH_pass _ _ _ _ _ _ (hid_get HOPS 12 _ rfl) (wanted_some (hid_get HOPS 2 _ rfl) rfl rfl rfl) (fun _ _ _ _ h => h) ?_; simp only [Act.put, List.setIfInBounds_toArray, List.set_cons_zero, List.set_cons_succ]) | (refine segH_pure _ _ _ _ _ _ (hid_get HOPS 12 _ rfl) rfl (wanted_some (hid_get HOPS 2 _ rfl) rfl rfl rfl) (fun _ _ _ _ h => h) ?_; intro K hK; go_big_quiet_op; go_big_quiet_on) | (refine segH_pass _ _ _ _ _ _ (hid_get HOPS 12 _ rfl) (wanted_gone (hid_get HOPS 2 _ rfl) rfl rfl) (fun _ _ _ _ h => h) ?_; simp only [Act.put, List.setIfInBounds_toArray, List.set_cons_zero, List.set_cons_succ])
      (refine segH_pure _ _ _ _ _ _ (hid_get HOPS 13 _ rfl) rfl wanted_none (fun _ _ _ _ h => h) ?_; intro K hK; go_big_quiet_op; go_big_quiet_on)
      refine seg_done ?_
      clear HOPS
      go_wp2
      obtain ⟨ys, h1, h2, h3, m', h4, h5⟩ := HX.out
      go_ret
      exact ⟨_, ys, m', rfl, h1, h2, h3, h4, h5⟩
    · obtain ⟨⟨yl, yn, yt, ysh, yws⟩, Ay, cy⟩ := y
      obtain ⟨e1, e2, e3⟩ : (⟨yl, yn, yt, ysh, yws⟩ : It).is = true ∧ yl = (a : Int) ∧ yn = n + 1 := by
        obtain ⟨h1, h2⟩ := HINV.out.1.held _ _ hsome
        injection h1 with e1 e2
        exact ⟨h2, e1, e2⟩
      subst e2 e3
      replace he : e = .returned (.tuple #[.agg #[.int .i64 (a : Int), .int .i64 (n + 1), .int .i64 yt, .bool ysh, .slice Ay yws.length cy], .bool true]) := he
      subst he
      have hgt : s'.cnt = (s'.cnt - 1) + 1 := by have := HCP.out _ hsome; omega
      have HF : Hid (rowF s'.cnt s' ⟨a, n, turn, shut, ws⟩ = if yt = (comesSt s' ⟨a, n, turn, shut, ws⟩).over a then ((rowF (s'.cnt - 1) (letsSt (comesSt s' ⟨a, n, turn, shut, ws⟩) ((a : Int), n + 1)) ⟨a, n + 1, yt, ysh, yws⟩).1, ⟨a, n, turn, shut, ws⟩ :: (rowF (s'.cnt - 1) (letsSt (comesSt s' ⟨a, n, turn, shut, ws⟩) ((a : Int), n + 1)) ⟨a, n + 1, yt, ysh, yws⟩).2) else (letsSt (comesSt s' ⟨a, n, turn, shut, ws⟩) ((a : Int), n + 1), [⟨a, n, turn, shut, ws⟩])) := by
        show _ = _
        rw [hgt]
        simp only [rowF, hsome, Nat.add_sub_cancel, Int.toNat_natCast]
      clear hgt
      go_wp2_with fail
      obtain ⟨W6, hW6⟩ : ∃ W6, W6 = w5.alloc (.cells #[.int .i64 (a : Int), .int .i64 (n + 1), .int .i64 yt, .bool ysh, .slice Ay yws.length cy] 33) := ⟨_, rfl⟩
      have x6 : Ext w5 W6 := by rw [hW6]; exact ext_alloc _ _
      have b6 : Blk W6 w5.heap.size 33 #[.int .i64 (a : Int), .int .i64 (n + 1), .int .i64 yt, .bool ysh, .slice Ay yws.length cy] := by rw [hW6]; exact Blk.new _ _ _
      rw [← hW6]
      clear hW6
      have hI7 := hI5.ext x6
      have hG7 := hG6.ext hB x6
      have hown7 := hown5.ext x6
      have hzs7 : ∀ z ∈ zs ++ [(⟨⟨a, n, turn, shut, ws⟩, A', c'⟩ : Iv)], IvOk W6 B z := fun z hz => (hzs5 z hz).ext x6
      have hy7 := hy.ext x6
      have hb7 := hb5.ext x6
      obtain ⟨ov, hov⟩ : ∃ ov, ov = (comesSt s' ⟨a, n, turn, shut, ws⟩).over a := ⟨_, rfl⟩
      have o7 := hI7.blk.cell (8 + a)
      rw [hI7.ovr a ha, show (letsSt (comesSt s' ⟨(a : Int), n, turn, shut, ws⟩) ((a : Int), n + 1)).over a = (comesSt s' ⟨a, n, turn, shut, ws⟩).over a from rfl, ← hov, hmg3] at o7
      rw [← hov] at HF
      have HOV := Lib.hid hov
      have f0 := hb7.cell 0
      have f2 := b6.cell 2
      simp only [List.getElem?_toArray, List.getElem?_cons_zero, List.getElem?_cons_succ] at f0 f2
      have y0 := fun x' (hx : Ext W6 x') => ext_cell hx f0
      have y1 := fun x' (hx : Ext W6 x') => ext_cell hx f2
      have y2 := fun x' (hx : Ext W6 x') => ext_cell hx o7
      have hg6 : gx ≠ w5.heap.size := by omega
      clear hI5 hG6 hown5 hzs5 hy hb5 hov f0 f2 o7
      by_cases hyt : yt = ov
      · subst hyt
        rw [if_pos rfl] at HF
        refine wp_region_planH3 (.reads 0 (.reads 1 (.reads 2 (.reads 3 (.reads 4 (.reads 5 (.reads 6 (.reads 7 (.reads 8 (.reads 9 (.reads 10 (.reads 11 (.reads 12 (.reads 13 (.done))))))))))))))) (by kernel_rfl) (by kernel_rfl) (fun x' => Ext W6 x') (ext_drewN _ 1) (fun ops HOPS => ?_)
        (refine segH_pure _ _ _ _ _ _ (hid_get HOPS 0 _ rfl) rfl wanted_none (fun _ _ _ _ h => h) ?_; intro K hK; go_big_quiet_op; go_big_quiet_on)
        (refine segH_pure _ _ _ _ _ _ (hid_get HOPS 1 _ rfl) rfl wanted_none (fun _ _ _ _ h => h) ?_; intro K hK; go_big_quiet_op; go_big_quiet_on)
        (refine segH_pure _ _ _ _ _ _ (hid_get HOPS 2 _ rfl) rfl wanted_none (fun _ _ _ _ h => h) ?_; intro K hK; go_big_quiet_op; go_big_quiet_on)
        first | (refine segH_pass _ _ _ _ _ _ (hid_get HOPS 3 _ rfl) (wanted_some (hid_get HOPS 2 _ rfl) rfl rfl rfl) (fun _ _ _ _ h => h) ?_; simp only [Act.put, List.setIfInBounds_toArray, List.set_cons_zero, List.set_cons_succ]) | (refine segH_pure _ _ _ _ _ _ (hid_get HOPS 3 _ rfl) rfl (wanted_some (hid_get HOPS 2 _ rfl) rfl rfl rfl) (fun _ _ _ _ h => h) ?_; intro K hK; go_big_quiet_op; go_big_quiet_on) | (refine segH_pass _ _ _ _ _ _ (hid_get HOPS 3 _ rfl) (wanted_gone (hid_get HOPS 2 _ rfl) rfl rfl) (fun _ _ _ _ h => h) ?_; simp only [Act.put, List.setIfInBounds_toArray, List.set_cons_zero, List.set_cons_succ])
        first | (refine segH_pass _ _ _ _ _ _ (hid_get HOPS 4 _ rfl) (wanted_some (hid_get HOPS 2 _ rfl) rfl rfl rfl) (fun _ _ _ _ h => h) ?_; simp only [Act.put, List.setIfInBounds_toArray, List.set_cons_zero, List.set_cons_succ]) | (refine segH_load _ _ _ _ _ _ _ _ _ (hid_get HOPS 4 _ rfl) (wanted_some (hid_get HOPS 2 _ rfl) rfl rfl rfl) rfl (fun _ _ _ _ h => h) (fun y hy => by go_simp; try with_reducible rfl) ?_; simp only [Act.put, List.setIfInBounds_toArray, List.set_cons_zero, List.set_cons_succ]) | (refine segH_pass _ _ _ _ _ _ (hid_get HOPS 4 _ rfl) (wanted_gone (hid_get HOPS 2 _ rfl) rfl rfl) (fun _ _ _ _ h => h) ?_; simp only [Act.put, List.setIfInBounds_toArray, List.set_cons_zero, List.set_cons_succ])
        first | (refine segH_pass _ _ _ _ _ _ (hid_get HOPS 5 _ rfl) (wanted_some (hid_get HOPS 2 _ rfl) rfl rfl rfl) (fun _ _ _ _ h => h) ?_; simp only [Act.put, List.setIfInBounds_toArray, List.set_cons_zero, List.set_cons_succ]) | (refine segH_pure _ _ _ _ _ _ (hid_get HOPS 5 _ rfl) rfl (wanted_some (hid_get HOPS 2 _ rfl) rfl rfl rfl) (fun _ _ _ _ h => h) ?_; intro K hK; go_big_quiet_op; go_big_quiet_on) | (refine segH_pass _ _ _ _ _ _ (hid_get HOPS 5 _ rfl) (wanted_gone (hid_get HOPS 2 _ rfl) rfl rfl) (fun _ _ _ _ h => h) ?_; simp only [Act.put, List.setIfInBounds_toArray, List.set_cons_zero, List.set_cons_succ])
        first | (refine segH_pass _ _ _ _ _ _ (hid_get HOPS 6 _ rfl) (wanted_some (hid_get HOPS 2 _ rfl) rfl rfl rfl) (fun _ _ _ _ h => h) ?_; simp only [Act.put, List.setIfInBounds_toArray, List.set_cons_zero, List.set_cons_succ]) | (refine segH_pure _ _ _ _ _ _ (hid_get HOPS 6 _ rfl) rfl (wanted_some (hid_get HOPS 2 _ rfl) rfl rfl rfl) (fun _ _ _ _ h => h) ?_; intro K hK; go_big_quiet_op; go_big_quiet_on) | (refine segH_pass _ _ _ _ _ _ (hid_get HOPS 6 _ rfl) (wanted_gone (hid_get HOPS 2 _ rfl) rfl rfl) (fun _ _ _ _ h => h) ?_; simp only [Act.put, List.setIfInBounds_toArray, List.set_cons_zero, List.set_cons_succ])
        first | (refine segH_pass _ _ _ _ _ _ (hid_get HOPS 7 _ rfl) (wanted_some (hid_get HOPS 2 _ rfl) rfl rfl rfl) (fun _ _ _ _ h => h) ?_; simp only [Act.put, List.setIfInBounds_toArray, List.set_cons_zero, List.set_cons_succ]) | (refine segH_load _ _ _ _ _ _ _ _ _ (hid_get HOPS 7 _ rfl) (wanted_some (hid_get HOPS 2 _ rfl) rfl rfl rfl) rfl (fun _ _ _ _ h => h) (fun y hy => by go_simp; try with_reducible rfl) ?_; simp only [Act.put, List.setIfInBounds_toArray, List.set_cons_zero, List.set_cons_succ]) | (refine segH_pass _ _ _ _ _ _ (hid_get HOPS 7 _ rfl) (wanted_gone (hid_get HOPS 2 _ rfl) rfl rfl) (fun _ _ _ _ h => h) ?_; simp only [Act.put, List.setIfInBounds_toArray, List.set_cons_zero, List.set_cons_succ])
        first | (refine segH_pass _ _ _ _ _ _ (hid_get HOPS 8 _ rfl) (wanted_some (hid_get HOPS 2 _ rfl) rfl rfl rfl) (fun _ _ _ _ h => h) ?_; simp only [Act.put, List.setIfInBounds_toArray, List.set_cons_zero, List.set_cons_succ]) | (refine segH_nil _ _ _ _ _ _ _ (hid_get HOPS 8 _ rfl) (wanted_some (hid_get HOPS 2 _ rfl) rfl rfl rfl) rfl (fun _ _ _ _ h => h) ?_; simp only [Act.put, List.setIfInBounds_toArray, List.set_cons_zero, List.set_cons_succ]) | (refine segH_pass _ _ _ _ _ _ (hid_get HOPS 8 _ rfl) (wanted_gone (hid_get HOPS 2 _ rfl) rfl rfl) (fun _ _ _ _ h => h) ?_; simp only [Act.put, List.setIfInBounds_toArray, List.set_cons_zero, List.set_cons_succ])
        first | (refine segH_pass _ _ _ _ _ _ (hid_get HOPS 9 _ rfl) (wanted_some (hid_get HOPS 2 _ rfl) rfl rfl rfl) (fun _ _ _ _ h => h) ?_; simp only [Act.put, List.setIfInBounds_toArray, List.set_cons_zero, List.set_cons_succ]) | (refine segH_pure _ _ _ _ _ _ (hid_get HOPS 9 _ rfl) rfl (wanted_some (hid_get HOPS 2 _ rfl) rfl rfl rfl) (fun _ _ _ _ h => h) ?_; intro K hK; go_big_quiet_op; go_big_quiet_on) | (refine segH_pass _ _ _ _ _ _ (hid_get HOPS 9 _ rfl) (wanted_gone (hid_get HOPS 2 _ rfl) rfl rfl) (fun _ _ _ _ h => h) ?_; simp only [Act.put, List.setIfInBounds_toArray, List.set_cons_zero, List.set_cons_succ])
        first | (refine segH_pass _ _ _ _ _ _ (hid_get HOPS 10 _ rfl) (wanted_some (hid_get HOPS 2 _ rfl) rfl rfl rfl) (fun _ _ _ _ h => h) ?_; simp only [Act.put, List.setIfInBounds_toArray, List.set_cons_zero, List.set_cons_succ]) | (refine segH_pure _ _ _ _ _ _ (hid_get HOPS 10 _ rfl) rfl (wanted_some (hid_get HOPS 2 _ rfl) rfl rfl rfl) (fun _ _ _ _ h => h) ?_; intro K hK; go_big_quiet_op; go_big_quiet_on) | (refine segH_pass _ _ _ _ _ _ (hid_get HOPS 10 _ rfl) (wanted_gone (hid_get HOPS 2 _ rfl) rfl rfl) (fun _ _ _ _ h => h) ?_; simp only [Act.put, List.setIfInBounds_toArray, List.set_cons_zero, List.set_cons_succ])
        first | (refine segH_pass _ _ _ _ _ _ (hid_get HOPS 11 _ rfl) (wanted_some (hid_get HOPS 2 _ rfl) rfl rfl rfl) (fun _ _ _ _ h => h) ?_; simp only [Act.put, List.setIfInBounds_toArray, List.set_cons_zero, List.set_cons_succ]) | (refine segH_load _ _ _ _ _ _ _ _ _ (hid_get HOPS 11 _ rfl) (wanted_some (hid_get HOPS 2 _ rfl) rfl rfl rfl) rfl (fun _ _ _ _ h => h) (fun y hy => by go_simp; try with_reducible rfl) ?_; simp only [Act.put, List.setIfInBounds_toArray, List.set_cons_zero, List.set_cons_succ]) | (refine segH_pass _ _ _ _ _ _ (hid_get HOPS 11 _ rfl) (wanted_gone (hid_get HOPS 2 _ rfl) rfl rfl) (fun _ _ _ _ h => h) ?_; simp only [Act.put, List.setIfInBounds_toArray, List.set_cons_zero, List.set_cons_succ])
        first | (refine segH_pass _ _ _ _ _ _ (hid_get HOPS 12 _ rfl) (wanted_some (hid_get HOPS 2 _ rfl) rfl rfl rfl) (fun _ _ _ _ h => h) ?_; simp only [Act.put, List.setIfInBounds_toArray, List.set_cons_zero, List.set_cons_succ]) | (refine segH_pure _ _ _ _ _ _ (hid_get HOPS 12 _ rfl) rfl (wanted_some (hid_get HOPS 2 _ rfl) rfl rfl rfl) (fun _ _ _ _ h => h) ?_; intro K hK; go_big_quiet_op; go_big_quiet_on) | (refine segH_pass _ _ _ _ _ _ (hid_get HOPS 12 _ rfl) (wanted_gone (hid_get HOPS 2 _ rfl) rfl rfl) (fun _ _ _ _ h => h) ?_; simp only [Act.put, List.setIfInBounds_toArray, List.set_cons_zero, List.set_cons_succ])
        (refine segH_pure _ _ _ _ _ _ (hid_get HOPS 13 _ rfl) rfl wanted_none (fun _ _ _ _ h => h) ?_; intro K hK; go_big_quiet_op; go_big_quiet_on)
        refine seg_done ?_
        clear HOPS
        obtain ⟨W7, hW7⟩ : ∃ W7, W7 = W6.drew := ⟨_, rfl⟩
        have x7 : Ext W6 W7 := by rw [hW7]; exact ext_drewN W6 1
        rw [← hW7]
        clear hW7
        have b6d : Blk W7 w5.heap.size 33 #[.int .i64 (a : Int), .int .i64 (n + 1), .int .i64 yt, .bool ysh, .slice Ay yws.length cy] := b6.ext (x7)
        have hb7d : Blk W7 gx 33 #[.int .i64 (a : Int), .int .i64 n, .int .i64 turn, .bool shut, .slice Ax ws.length cx] := hb7.ext (x7)
        have q0 := b6d.cell 0
        have q1 := b6d.cell 1
        have q2 := b6d.cell 2
        have q3 := b6d.cell 3
        have q4 := b6d.cell 4
        have t0 := hb7d.cell 0
        have t1 := hb7d.cell 1
        have t2 := hb7d.cell 2
        have t3 := hb7d.cell 3
        have t4 := hb7d.cell 4
        have fz := hb7d.frozen
        simp only [List.getElem?_toArray, List.getElem?_cons_zero, List.getElem?_cons_succ] at q0 q1 q2 q3 q4 t0 t1 t2 t3 t4
        clear y0 y1 y2
        go_wp2
        clear q0 q1 q2 q3 q4 t0 t1 t2 t3 t4 fz
        have km := mods_set5 W7 gx (.int .i64 (a : Int)) (.int .i64 (n + 1)) (.int .i64 yt) (.bool ysh) (.slice Ay yws.length cy)
        have gb := blk_set5 hb7d (.int .i64 (a : Int)) (.int .i64 (n + 1)) (.int .i64 yt) (.bool ysh) (.slice Ay yws.length cy)
        have hI8 := (hI7.ext (x7)).beside hb7d (by omega) hno5 km
        have hG8 := (hG7.ext hB (x7)).beside hB HGX.1 km
        have hk8 : Keeps B [33] W7 (((((W7.setCell ⟨gx, 0, none⟩ (.int .i64 (a : Int))).setCell ⟨gx, 1, none⟩ (.int .i64 (n + 1))).setCell ⟨gx, 2, none⟩ (.int .i64 yt)).setCell ⟨gx, 3, none⟩ (.bool ysh)).setCell ⟨gx, 4, none⟩ (.slice Ay yws.length cy)) := Keeps.of_mods km fun i hi => by
          subst hi
          refine ⟨by omega, fun cs' t fr hk => ?_⟩
          have h2 := hb7d
          unfold Blk at h2
          rw [h2] at hk
          injection hk with hk
          injection hk with _ hk
          simp [← hk]
        have hown8 := (hown7.ext (x7)).mods km (fun b hob e => by have := (hown7.blk' hob).1; omega)
        have hINV2 : Hid (IntInv (letsSt (comesSt s' ⟨a, n, turn, shut, ws⟩) ((a : Int), n + 1)) (K + 1) ∧ (⟨a, n + 1, yt, ysh, yws⟩ : It).is = true ∧ n + 1 = (letsSt (comesSt s' ⟨a, n, turn, shut, ws⟩) ((a : Int), n + 1)).have_ a + 1 ∧ (letsSt (comesSt s' ⟨a, n, turn, shut, ws⟩) ((a : Int), n + 1)).came.length + (letsSt (comesSt s' ⟨a, n, turn, shut, ws⟩) ((a : Int), n + 1)).cnt ≤ K ∧ K < 1000000) := by
          obtain ⟨i1, i2, i3, i4, i5⟩ := HINV.out
          refine ⟨i1.row i2 i3 i4, e1, ?_, ?_, i5⟩
          · have := (i1.row_next i2 i3 hsome).2.2
            exact this
          · rw [letsSt_came, letsSt_cnt (s := comesSt s' ⟨a, n, turn, shut, ws⟩) (y := ⟨a, n + 1, yt, ysh, yws⟩) (by rw [comesSt_held]; exact hsome), comesSt_cnt, comesSt_came]
            have := HCP.out _ hsome
            split <;> simp <;> omega
        have hcnt2 : (letsSt (comesSt s' ⟨a, n, turn, shut, ws⟩) ((a : Int), n + 1)).cnt = s'.cnt - 1 := by
          rw [letsSt_cnt (s := comesSt s' ⟨a, n, turn, shut, ws⟩) (y := ⟨a, n + 1, yt, ysh, yws⟩) (by rw [comesSt_held]; exact hsome), comesSt_cnt]
        have hc1 := HCP.out _ hsome
        go_roundw
        case rel =>
          refine ⟨n + 1, yt, ysh, yws, Ay, cy, _, m3, zs ++ [(⟨⟨a, n, turn, shut, ws⟩, A', c'⟩ : Iv)], hI8, hG8, hno5, gb, (hy7.ext (x7)).keeps hk8 (by decide), ?_, ?_, ?_, ?_, hINV2, ?_⟩
          · simp only [List.length_append, List.length_singleton] at hown8; exact hown8
          · simp only [List.length_append, List.length_singleton] at hdis5; exact hdis5
          · exact fun z hz => ((hzs7 z hz).ext (x7)).keeps hk8 (by decide)
          · rw [hcnt2]; simp; omega
          · show _ = _
            rw [HR.out, HF.out, hcnt2, its_append]
            simp [its]
        case measure => simp [lenV]; omega
      · rw [if_neg hyt] at HF
        have hd : (yt != ov) = true := by simp [hyt]
        have hg8 := hG7.ext hB (ext_drewN W6 1)
        have hI8 := hI7.ext (ext_drewN W6 1)
        have hown8 := hown7.ext (ext_drewN W6 1)
        have hzs8 : ∀ z ∈ zs ++ [(⟨⟨a, n, turn, shut, ws⟩, A', c'⟩ : Iv)], IvOk W6.drew B z := fun z hz => (hzs7 z hz).ext (ext_drewN W6 1)
        have HX : Hid (∃ ys : List Iv, Own elIv W6.drew w.heap.size (.slice A2 (zs.length + 1) c2) ys ∧ its ys = (rowF s.cnt s ⟨a, n0, turn0, shut0, ws0⟩).2 ∧ (∀ z ∈ ys, IvOk W6.drew B z) ∧
            ∃ m', IntAt W6.drew B A c rs lev m' (rowF s.cnt s ⟨a, n0, turn0, shut0, ws0⟩).1 ∧ IntGo B w m W6.drew m') := by
          refine ⟨_, (by have := hown8.le (base' := w.heap.size) (by omega); simp only [List.length_append, List.length_singleton] at this; exact this), ?_, hzs8, m3, ?_, hg8⟩
          · rw [HR.out, HF.out, its_append]; rfl
          · rw [HR.out, HF.out]; exact hI8
        clear hI7 hown7 hdis5 hzs7 hg8 hI8 hown8 hzs8 hG7 HF hmg3 hb7 hno5 hno2 hmg2 hmg b6
        refine wp_region_planH3 (.reads 0 (.reads 1 (.reads 2 (.reads 3 (.reads 4 (.reads 5 (.reads 6 (.reads 7 (.reads 8 (.reads 9 (.reads 10 (.reads 11 (.reads 12 (.reads 13 (.done))))))))))))))) (by kernel_rfl) (by kernel_rfl) (fun x' => Ext W6 x') (ext_drewN _ 1) (fun ops HOPS => ?_)
        (refine segH_pure _ _ _ _ _ _ (hid_get HOPS 0 _ rfl) rfl wanted_none (fun _ _ _ _ h => h) ?_; intro K hK; go_big_quiet_op; go_big_quiet_on)
        (refine segH_pure _ _ _ _ _ _ (hid_get HOPS 1 _ rfl) rfl wanted_none (fun _ _ _ _ h => h) ?_; intro K hK; go_big_quiet_op; go_big_quiet_on)
        (refine segH_pure _ _ _ _ _ _ (hid_get HOPS 2 _ rfl) rfl wanted_none (fun _ _ _ _ h => h) ?_; intro K hK; go_big_quiet_op; go_big_quiet_on)
        first | (refine segH_pass _ _ _ _ _ _ (hid_get HOPS 3 _ rfl) (wanted_some (hid_get HOPS 2 _ rfl) rfl rfl rfl) (fun _ _ _ _ h => h) ?_; simp only [Act.put, List.setIfInBounds_toArray, List.set_cons_zero, List.set_cons_succ]) | (refine segH_pure _ _ _ _ _ _ (hid_get HOPS 3 _ rfl) rfl (wanted_some (hid_get HOPS 2 _ rfl) rfl rfl rfl) (fun _ _ _ _ h => h) ?_; intro K hK; go_big_quiet_op; go_big_quiet_on) | (refine segH_pass _ _ _ _ _ _ (hid_get HOPS 3 _ rfl) (wanted_gone (hid_get HOPS 2 _ rfl) rfl rfl) (fun _ _ _ _ h => h) ?_; simp only [Act.put, List.setIfInBounds_toArray, List.set_cons_zero, List.set_cons_succ])
        first | (refine segH_pass _ _ _ _ _ _ (hid_get HOPS 4 _ rfl) (wanted_some (hid_get HOPS 2 _ rfl) rfl rfl rfl) (fun _ _ _ _ h => h) ?_; simp only [Act.put, List.setIfInBounds_toArray, List.set_cons_zero, List.set_cons_succ]) | (refine segH_load _ _ _ _ _ _ _ _ _ (hid_get HOPS 4 _ rfl) (wanted_some (hid_get HOPS 2 _ rfl) rfl rfl rfl) rfl (fun _ _ _ _ h => h) (fun y hy => by go_simp; try with_reducible rfl) ?_; simp only [Act.put, List.setIfInBounds_toArray, List.set_cons_zero, List.set_cons_succ]) | (refine segH_pass _ _ _ _ _ _ (hid_get HOPS 4 _ rfl) (wanted_gone (hid_get HOPS 2 _ rfl) rfl rfl) (fun _ _ _ _ h => h) ?_; simp only [Act.put, List.setIfInBounds_toArray, List.set_cons_zero, List.set_cons_succ])
        first | (refine segH_pass _ _ _ _ _ _ (hid_get HOPS 5 _ rfl) (wanted_some (hid_get HOPS 2 _ rfl) rfl rfl rfl) (fun _ _ _ _ h => h) ?_; simp only [Act.put, List.setIfInBounds_toArray, List.set_cons_zero, List.set_cons_succ]) | (refine segH_pure _ _ _ _ _ _ (hid_get HOPS 5 _ rfl) rfl (wanted_some (hid_get HOPS 2 _ rfl) rfl rfl rfl) (fun _ _ _ _ h => h) ?_; intro K hK; go_big_quiet_op; go_big_quiet_on) | (refine segH_pass _ _ _ _ _ _ (hid_get HOPS 5 _ rfl) (wanted_gone (hid_get HOPS 2 _ rfl) rfl rfl) (fun _ _ _ _ h => h) ?_; simp only [Act.put, List.setIfInBounds_toArray, List.set_cons_zero, List.set_cons_succ])
        first | (refine segH_pass _ _ _ _ _ _ (hid_get HOPS 6 _ rfl) (wanted_some (hid_get HOPS 2 _ rfl) rfl rfl rfl) (fun _ _ _ _ h => h) ?_; simp only [Act.put, List.setIfInBounds_toArray, List.set_cons_zero, List.set_cons_succ]) | (refine segH_pure _ _ _ _ _ _ (hid_get HOPS 6 _ rfl) rfl (wanted_some (hid_get HOPS 2 _ rfl) rfl rfl rfl) (fun _ _ _ _ h => h) ?_; intro K hK; go_big_quiet_op; go_big_quiet_on) | (refine segH_pass _ _ _ _ _ _ (hid_get HOPS 6 _ rfl) (wanted_gone (hid_get HOPS 2 _ rfl) rfl rfl) (fun _ _ _ _ h => h) ?_; simp only [Act.put, List.setIfInBounds_toArray, List.set_cons_zero, List.set_cons_succ])
        first | (refine segH_pass _ _ _ _ _ _ (hid_get HOPS 7 _ rfl) (wanted_some (hid_get HOPS 2 _ rfl) rfl rfl rfl) (fun _ _ _ _ h => h) ?_; simp only [Act.put, List.setIfInBounds_toArray, List.set_cons_zero, List.set_cons_succ]) | (refine segH_load _ _ _ _ _ _ _ _ _ (hid_get HOPS 7 _ rfl) (wanted_some (hid_get HOPS 2 _ rfl) rfl rfl rfl) rfl (fun _ _ _ _ h => h) (fun y hy => by go_simp; try with_reducible rfl) ?_; simp only [Act.put, List.setIfInBounds_toArray, List.set_cons_zero, List.set_cons_succ]) | (refine segH_pass _ _ _ _ _ _ (hid_get HOPS 7 _ rfl) (wanted_gone (hid_get HOPS 2 _ rfl) rfl rfl) (fun _ _ _ _ h => h) ?_; simp only [Act.put, List.setIfInBounds_toArray, List.set_cons_zero, List.set_cons_succ])
        first | (refine segH_pass _ _ _ _ _ _ (hid_get HOPS 8 _ rfl) (wanted_some (hid_get HOPS 2 _ rfl) rfl rfl rfl) (fun _ _ _ _ h => h) ?_; simp only [Act.put, List.setIfInBounds_toArray, List.set_cons_zero, List.set_cons_succ]) | (refine segH_nil _ _ _ _ _ _ _ (hid_get HOPS 8 _ rfl) (wanted_some (hid_get HOPS 2 _ rfl) rfl rfl rfl) rfl (fun _ _ _ _ h => h) ?_; simp only [Act.put, List.setIfInBounds_toArray, List.set_cons_zero, List.set_cons_succ]) | (refine segH_pass _ _ _ _ _ _ (hid_get HOPS 8 _ rfl) (wanted_gone (hid_get HOPS 2 _ rfl) rfl rfl) (fun _ _ _ _ h => h) ?_; simp only [Act.put, List.setIfInBounds_toArray, List.set_cons_zero, List.set_cons_succ])
        first | (refine segH_pass _ _ _ _ _ _ (hid_get HOPS 9 _ rfl) (wanted_some (hid_get HOPS 2 _ rfl) rfl rfl rfl) (fun _ _ _ _ h => h) ?_; simp only [Act.put, List.setIfInBounds_toArray, List.set_cons_zero, List.set_cons_succ]) | (refine segH_pure _ _ _ _ _ _ (hid_get HOPS 9 _ rfl) rfl (wanted_some (hid_get HOPS 2 _ rfl) rfl rfl rfl) (fun _ _ _ _ h => h) ?_; intro K hK; go_big_quiet_op; go_big_quiet_on) | (refine segH_pass _ _ _ _ _ _ (hid_get HOPS 9 _ rfl) (wanted_gone (hid_get HOPS 2 _ rfl) rfl rfl) (fun _ _ _ _ h => h) ?_; simp only [Act.put, List.setIfInBounds_toArray, List.set_cons_zero, List.set_cons_succ])
        first | (refine segH_pass _ _ _ _ _ _ (hid_get HOPS 10 _ rfl) (wanted_some (hid_get HOPS 2 _ rfl) rfl rfl rfl) (fun _ _ _ _ h => h) ?_; simp only [Act.put, List.setIfInBounds_toArray, List.set_cons_zero, List.set_cons_succ]) | (refine segH_pure _ _ _ _ _ _ (hid_get HOPS 10 _ rfl) rfl (wanted_some (hid_get HOPS 2 _ rfl) rfl rfl rfl) (fun _ _ _ _ h => h) ?_; intro K hK; go_big_quiet_op; go_big_quiet_on) | (refine segH_pass _ _ _ _ _ _ (hid_get HOPS 10 _ rfl) (wanted_gone (hid_get HOPS 2 _ rfl) rfl rfl) (fun _ _ _ _ h => h) ?_; simp only [Act.put, List.setIfInBounds_toArray, List.set_cons_zero, List.set_cons_succ])
        first | (refine segH_pass _ _ _ _ _ _ (hid_get HOPS 11 _ rfl) (wanted_some (hid_get HOPS 2 _ rfl) rfl rfl rfl) (fun _ _ _ _ h => h) ?_; simp only [Act.put, List.setIfInBounds_toArray, List.set_cons_zero, List.set_cons_succ]) | (refine segH_load _ _ _ _ _ _ _ _ _ (hid_get HOPS 11 _ rfl) (wanted_some (hid_get HOPS 2 _ rfl) rfl rfl rfl) rfl (fun _ _ _ _ h => h) (fun y hy => by go_simp; try with_reducible rfl) ?_; simp only [Act.put, List.setIfInBounds_toArray, List.set_cons_zero, List.set_cons_succ]) | (refine segH_pass _ _ _ _ _ _ (hid_get HOPS 11 _ rfl) (wanted_gone (hid_get HOPS 2 _ rfl) rfl rfl) (fun _ _ _ _ h => h) ?_; simp only [Act.put, List.setIfInBounds_toArray, List.set_cons_zero, List.set_cons_succ])
        first | (refine segH_pass _ _ _ _ _ _ (hid_get HOPS 12 _ rfl) (wanted_some (hid_get HOPS 2 _ rfl) rfl rfl rfl) (fun _ _ _ _ h => h) ?_; simp only [Act.put, List.setIfInBounds_toArray, List.set_cons_zero, List.set_cons_succ]) | (refine segH_pure _ _ _ _ _ _ (hid_get HOPS 12 _ rfl) rfl (wanted_some (hid_get HOPS 2 _ rfl) rfl rfl rfl) (fun _ _ _ _ h => h) ?_; intro K hK; go_big_quiet_op; go_big_quiet_on) | (refine segH_pass _ _ _ _ _ _ (hid_get HOPS 12 _ rfl) (wanted_gone (hid_get HOPS 2 _ rfl) rfl rfl) (fun _ _ _ _ h => h) ?_; simp only [Act.put, List.setIfInBounds_toArray, List.set_cons_zero, List.set_cons_succ])
        (refine segH_pure _ _ _ _ _ _ (hid_get HOPS 13 _ rfl) rfl wanted_none (fun _ _ _ _ h => h) ?_; intro K hK; go_big_quiet_op; go_big_quiet_on)
        refine seg_done ?_
        clear HOPS
        clear y0 y1 y2 hd
        go_wp2
        obtain ⟨ys, h1, h2, h3, m', h4, h5⟩ := HX.out
        go_ret
        exact ⟨_, ys, m', rfl, h1, h2, h3, h4, h5⟩
end
end Go.Proofs.Ytdknkbpgkkakhaa
