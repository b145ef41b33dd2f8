/- Layer 2: the document's Parse. -/
import Derived.Test.YtdknkbpgkkakhaaDoorP11
namespace Go.Proofs.YtdknkbpgkkakhaaDoor
open Go.RowKit

/-- An operation whose guard's own operation was passed by is passed by. -/
theorem wanted_gone {ops : Array Oper} {dst : Option Tmp} {op : Op} {ty : TypeId} {pos : String} {after : Array Edge} {j : Nat} {c : Bool} {tmps : Array Value} {oj : Oper} {d : Nat} (hj : ops[j]? = some oj) (hd : oj.dst = some d) (hv : tmps[d]? = some undef) :
    Region.wanted ⟨dst, op, ty, pos, after, some (j, c)⟩ (yielded ops tmps) = false := by
  have : yielded ops tmps j = none := by simp [yielded, hj, hd, hv, undef]
  simp only [Region.wanted, this]
  rfl
/-- A square in the making: k rows are there. -/
structure RG (w : World) (p n k : Nat) (q : Nat → Nat) (f : Nat → Nat → Bool) : Prop where
  blk : ∃ cs, Blk w p 38 cs ∧ cs.size = n ∧ ∀ a, a < k → cs[a]? = some (.slice (some ⟨q a, 0, none⟩) n n)
  row : ∀ a, a < k → ∃ cs, Blk w (q a) 4 cs ∧ ∀ b, b < n → cs[b]? = some (.bool (f a b))
  inj : ∀ a b, a < k → b < k → q a = q b → a = b
section
variable {w w' : World} {p n k : Nat} {q : Nat → Nat} {f g : Nat → Nat → Bool}
theorem RG.ext (h : RG w p n k q f) (x : Ext w w') : RG w' p n k q f := by
  obtain ⟨cs, h1, h2, h3⟩ := h.blk
  exact ⟨⟨cs, h1.ext x, h2, h3⟩, fun a ha => by obtain ⟨cs, e, r⟩ := h.row a ha; exact ⟨cs, e.ext x, r⟩, h.inj⟩
theorem RG.congr (h : RG w p n k q f) (hg : ∀ a, a < k → ∀ b, b < n → f a b = g a b) : RG w p n k q g :=
  ⟨h.blk, fun a ha => by obtain ⟨cs, e, r⟩ := h.row a ha; exact ⟨cs, e, fun b hb => by rw [r b hb, hg a ha b hb]⟩, h.inj⟩
theorem RG.top (h : RG w p n k q f) {a : Nat} (ha : a < k) : w.cell? ⟨p, a, none⟩ = some (.slice (some ⟨q a, 0, none⟩) n n) := by
  obtain ⟨cs, h1, h2, h3⟩ := h.blk
  rw [h1.cell, h3 a ha]
theorem RG.topAny (h : RG w p n k q f) {a : Nat} (ha : a < n) : ∃ v, w.cell? ⟨p, a, none⟩ = some v := by
  obtain ⟨cs, h1, h2, h3⟩ := h.blk
  rw [h1.cell]
  exact ⟨_, Array.getElem?_eq_getElem (by omega)⟩
theorem RG.topFree (h : RG w p n k q f) (a : Nat) : w.frozen? ⟨p, a, none⟩ = false := by
  obtain ⟨cs, h1, h2, h3⟩ := h.blk
  exact h1.frozen a
theorem RG.cell (h : RG w p n k q f) {a b : Nat} (ha : a < k) (hb : b < n) : w.cell? ⟨q a, b, none⟩ = some (.bool (f a b)) := by
  obtain ⟨cs, e, r⟩ := h.row a ha
  rw [e.cell b, r b hb]
theorem RG.free (h : RG w p n k q f) {a : Nat} (ha : a < k) (b : Nat) : w.frozen? ⟨q a, b, none⟩ = false := by
  obtain ⟨cs, e, r⟩ := h.row a ha
  exact e.frozen b
theorem RG.new (w : World) (n : Nat) (f : Nat → Nat → Bool) : RG (w.alloc (.cells (madeCells #[.slice none 0 0] n) 38)) w.heap.size n 0 (fun _ => 0) f :=
  ⟨⟨_, Blk.new w 38 _, size_madeCells _ _, fun a h => absurd h (by omega)⟩, fun a h => absurd h (by omega), fun a b h => absurd h (by omega)⟩
theorem RG.set (h : RG w p n k q f) {a b : Nat} (ha : a < k) (hb : b < n) (x : Bool) : RG (w.setCell ⟨q a, b, none⟩ (.bool x)) p n k q (fun a' b' => if a' = a ∧ b' = b then x else f a' b') := by
  obtain ⟨cs, h1, h2, h3⟩ := h.blk
  have hm := mods_setCell w ⟨q a, b, none⟩ (.bool x)
  have hne : p ≠ q a := by obtain ⟨cs', e', _⟩ := h.row a ha; exact e'.ne h1 (by decide)
  refine ⟨⟨cs, h1.mods hm hne, h2, h3⟩, fun a' ha' => ?_, h.inj⟩
  obtain ⟨cs', e', r⟩ := h.row a' ha'
  by_cases haa : a' = a
  · subst haa
    refine ⟨_, e'.set_ b (.bool x), fun b' hb' => ?_⟩
    rw [Array.getElem?_setIfInBounds]
    by_cases hbb : b = b'
    · subst hbb
      have := (Array.getElem?_eq_some_iff.1 (r b hb)).1
      simp [this]
    · rw [if_neg hbb, r b' hb']
      simp [Ne.symm hbb]
  · have hq : q a' ≠ q a := fun e => haa (h.inj a' a ha' ha e)
    exact ⟨cs', e'.mods hm hq, fun b' hb' => by rw [r b' hb']; simp [haa]⟩
/-- A row more. -/
theorem RG.more (h : RG w p n k q f) (hk : k < n) : RG ((w.setCell ⟨p, k, none⟩ (.slice (some ⟨w.heap.size, 0, none⟩) n n)).alloc (.cells (madeCells #[.bool false] n) 4)) p n (k + 1) (fun i => if i = k then w.heap.size else q i) (fun i b => if i = k then false else f i b) := by
  obtain ⟨cs, h1, h2, h3⟩ := h.blk
  have hm := mods_setCell w ⟨p, k, none⟩ (.slice (some ⟨w.heap.size, 0, none⟩) n n)
  have hs1 := h1.set_ k (.slice (some ⟨w.heap.size, 0, none⟩) n n)
  have hz : (w.setCell ⟨p, k, none⟩ (.slice (some ⟨w.heap.size, 0, none⟩) n n)).heap.size = w.heap.size := by simp [World.setCell]
  obtain ⟨v, hv⟩ : ∃ v, v = w.setCell ⟨p, k, none⟩ (.slice (some ⟨w.heap.size, 0, none⟩) n n) := ⟨_, rfl⟩
  rw [← hv] at hm hs1 hz ⊢
  have hx := ext_alloc v (.cells (madeCells #[.bool false] n) 4)
  have hlt := h1.lt
  refine ⟨⟨_, hs1.ext hx, by simpa using h2, fun a ha => ?_⟩, fun a ha => ?_, fun a b ha hb e => ?_⟩
  · rw [Array.getElem?_setIfInBounds]
    by_cases hak : k = a
    · subst hak
      rw [if_pos rfl, if_pos (by omega), if_pos rfl]
    · rw [if_neg hak, if_neg (Ne.symm hak), h3 a (by omega)]
  · by_cases hak : a = k
    · subst hak
      rw [if_pos rfl]
      have hb := Blk.new v 4 (madeCells #[.bool false] n)
      rw [hz] at hb
      refine ⟨_, hb, fun b hb => ?_⟩
      simp [madeCells, hb, Nat.mod_one]
    · rw [if_neg hak]
      obtain ⟨cs', e', r⟩ := h.row a (by omega)
      exact ⟨cs', (e'.mods hm (e'.ne h1 (by decide)).symm).ext hx, fun b hb => by rw [r b hb, if_neg hak]⟩
  · have hq : ∀ i, i < k → q i < w.heap.size := fun i hi => by obtain ⟨cs', e', _⟩ := h.row i hi; exact e'.lt
    by_cases hak : a = k <;> by_cases hbk : b = k
    · omega
    · rw [if_pos hak, if_neg hbk] at e
      have := hq b (by omega); omega
    · rw [if_neg hak, if_pos hbk] at e
      have := hq a (by omega); omega
    · rw [if_neg hak, if_neg hbk] at e
      exact h.inj a b (by omega) (by omega) e
theorem RG.grid (h : RG w p n n q f) : Grid w p n q f := by
  obtain ⟨cs, h1, h2, h3⟩ := h.blk
  exact ⟨fun a ha => ⟨n, h.top ha⟩, h.row, ⟨_, _, h1⟩, h.inj⟩
end
/-- The rows so far, and the one in the making. -/
def rowF (a : Nat) (bs : List Bool) (M : Mat) : Nat → Nat → Bool := fun i b => if i = a then (bs.set a true).getD b false else at2 M i b
theorem rowF_new (a n : Nat) (M : Mat) (ha : a < n) : (fun a' b' => if a' = a ∧ b' = a then true else (if a' = a then false else at2 M a' b')) = rowF a (List.replicate n false) M := by
  funext i b
  unfold rowF
  by_cases hi : i = a
  · subst hi
    by_cases hb : b = i
    · subst hb; simp [List.getD_eq_getElem?_getD, ha]
    · simp only [hb, and_false, if_false, if_true]
      rw [List.getD_eq_getElem?_getD, List.getElem?_set_ne (Ne.symm hb), List.getElem?_replicate]
      split <;> rfl
  · simp [hi]
theorem rowF_set (a k n : Nat) (bs : List Bool) (M : Mat) (hn : bs.length = n) (hk : k < n) : (fun a' b' => if a' = a ∧ b' = k then true else rowF a bs M a' b') = rowF a (bs.set k true) M := by
  funext i b
  unfold rowF
  by_cases hi : i = a
  · subst hi
    simp only [true_and, if_true]
    by_cases hb : b = k
    · subst hb
      rw [if_pos rfl]
      simp only [List.getD_eq_getElem?_getD]
      by_cases hab : i = b
      · subst hab; simp [hn, hk]
      · rw [List.getElem?_set_ne hab]; simp [hn, hk]
    · rw [if_neg hb]
      simp only [List.getD_eq_getElem?_getD]
      by_cases hab : i = b
      · subst hab; simp [List.getElem?_set]
      · rw [List.getElem?_set_ne hab, List.getElem?_set_ne hab, List.getElem?_set_ne (Ne.symm hb)]
  · simp [hi]
theorem rowF_done (a : Nat) (bs : List Bool) (M : Mat) (hM : M.length = a) {i : Nat} (hi : i < a + 1) (b : Nat) : rowF a bs M i b = at2 (M ++ [bs.set a true]) i b := by
  unfold rowF at2
  by_cases h : i = a
  · subst h; simp [hM, List.getD_eq_getElem?_getD]
  · simp [h, List.getD_eq_getElem?_getD, List.getElem?_append_left (show i < M.length by omega)]
theorem strs_get {w : World} {B : Nat} {A : Option Addr} {xs : List ByteArray} (h : RowsAt w B 9 1 strC A xs) {k : Nat} (hk : k < xs.length) : ∃ ad, A = some ad ∧ w.cell? (ad.add k) = some (.string (xs.getD k ⟨#[]⟩)) := by
  obtain ⟨ad, e, _, hc⟩ := h k hk
  refine ⟨ad, e, ?_⟩
  rw [List.getD_eq_getElem?_getD, List.getElem?_eq_getElem hk]
  simpa [add_zero] using hc 0 _ rfl
theorem nam_one {a : Nat} (h : a < 6) : (nam (a : Int)).size = 1 := by
  unfold nam
  rw [if_pos (by omega)]
  rfl
/-- What the row's head asks. -/
theorem head_iff (x pr : ByteArray) : Lib.hasPrefix x.data.toList pr.data.toList = true ↔ pr.size ≤ x.size ∧ x.extract 0 pr.size = pr := by
  unfold Lib.hasPrefix
  rw [List.isPrefixOf_iff_prefix, List.prefix_iff_eq_take]
  have e : (x.extract 0 pr.size).data.toList = x.data.toList.take pr.data.toList.length := by
    rw [ext_list]; simp
  constructor
  · intro h
    have hl := congrArg List.length h
    rw [List.length_take, Array.length_toList, Array.length_toList] at hl
    refine ⟨?_, data_inj (by rw [e]; exact h.symm)⟩
    show pr.data.size ≤ x.data.size
    omega
  · intro h
    rw [← e, h.2]
theorem rowP_head {x : ByteArray} {a n : Nat} (ha : a < 6) (h2 : 2 ≤ x.size) (he : x.extract 0 2 = nam a ++ ⟨#[62]⟩) : rowP x a n = rowGo a n (x.data.toList.drop 2) (List.replicate n false) := by
  have hs : (nam (a : Int) ++ ⟨#[62]⟩).size = 2 := by rw [ByteArray.size_append, nam_one ha]; rfl
  have hp : Lib.hasPrefix x.data.toList (nam (a : Int) ++ ⟨#[62]⟩).data.toList = true := (head_iff _ _).2 (by rw [hs]; exact ⟨h2, he⟩)
  rw [rowP, if_pos hp, Lib.trimPrefix, if_pos hp]
  congr 2
theorem rowP_short {x : ByteArray} {a n : Nat} (ha : a < 6) (h2 : ¬ (2 ≤ x.size ∧ x.extract 0 2 = nam a ++ ⟨#[62]⟩)) : rowP x a n = none := by
  have hs : (nam (a : Int) ++ ⟨#[62]⟩).size = 2 := by rw [ByteArray.size_append, nam_one ha]; rfl
  rw [rowP, if_neg]
  intro hp
  rw [head_iff, hs] at hp
  exact h2 hp
theorem beq_bytes (x y : ByteArray) : (x.toList == y.toList) = true ↔ x = y := by
  rw [beq_iff_eq, ByteArray.toList_eq, ByteArray.toList_eq]
  exact ⟨data_inj, fun h => by rw [h]⟩
theorem extract_at (x : ByteArray) (k : Nat) (h : k < x.size) : x.extract k (k + 1) = ⟨#[x.data.toList[k]'(by simpa using h)]⟩ := extract_one x.data.toList k (by simpa using h)
theorem drop_at (x : ByteArray) (k : Nat) (h : k < x.size) : x.data.toList.drop k = x.data.toList[k]'(by simpa using h) :: x.data.toList.drop (k + 1) := List.drop_eq_getElem_cons (by simpa using h)
set_option maxRecDepth 100000 in
set_option maxHeartbeats 4000000 in
theorem refParse_any (s : ByteArray) (w : World) (hs : s.size ≤ 10000) : Calls Tryd.prog 10 #[.string s] w (ParsePost w (parseM s)) := by
  obtain ⟨W, hW⟩ : ∃ W, W = w.alloc (.cells #[.slice none 0 0] 24) := ⟨_, rfl⟩
  have x0 : Ext w W := by rw [hW]; exact ext_alloc _ _
  have b0 : Blk W w.heap.size 24 #[.slice none 0 0] := by rw [hW]; exact Blk.new _ _ _
  have HW : Hid (w.alloc (.cells #[.slice none 0 0] 24) = W) := hW.symm
  obtain ⟨g, hg⟩ : ∃ g, g = w.heap.size := ⟨_, rfl⟩
  have HGZ : Hid (w.heap.size = g) := hg.symm
  rw [← hg] at b0
  clear hW hg
  go_enter Tryd.func10, Tryd.ntmps10
  go_upto_region 1 with fail
  rw [HW.out, HGZ.out]
  have hln := refLines_any s W (by omega)
  rw [show (lnUp s s.size).2 = endAt s from rfl, show (lnUp s s.size).1 = pcs s from rfl] at hln
  go_wp2_with fail
  refine hln.mono ?_
  clear hln
  rintro e V ⟨v, rfl, hown, x1⟩
  obtain ⟨Al, cl, rfl⟩ := hown.form
  have b1 := b0.ext x1
  have y1 := ext_trans x0 x1
  have hNs := pcs_length s
  have hrw : RowsAt V 0 9 1 strC Al (pcs s) := hown.rows
  have HRW := Lib.hid hrw
  clear hown hrw x0 x1 b0
  obtain ⟨N, hN⟩ : ∃ N, N = (pcs s).length := ⟨_, rfl⟩
  have HN : Hid ((pcs s).length = N) := hN.symm
  rw [← hN] at hNs ⊢
  clear hN
  go_upto_region 3 with fail
  have f1 := b1.frozen 0
  have c1 := b1.cell 0
  simp only [List.getElem?_toArray, List.getElem?_cons_zero] at c1
  have b2 := b1.set_ 0 (.slice none 0 0)
  simp only [List.setIfInBounds_toArray, List.set_cons_zero] at b2
  have r2 := b2.cell 0
  simp only [List.getElem?_toArray, List.getElem?_cons_zero] at r2
  have x2 : Ext w (V.setCell ⟨g, 0, none⟩ (.slice none 0 0)) := y1.setCell (by rw [HGZ.out]; exact Nat.le_refl _) _
  have HBAD : Hid (∀ k : Nat, parseM s = ([], k) → ∀ w', Ext w w' → ParsePost w (parseM s) (.returned (.tuple #[.agg #[.slice none 0 0], .int .i64 (k : Int)])) w') := fun k e w' x => by rw [e]; exact ParsePost.bad x
  by_cases ht : endAt s = s.size
  case neg =>
    have HP : Hid (parseM s = ([], 10)) := by
      show _ = _
      rw [parseM, if_neg (fun h => ht h.1)]
    rw [decide_eq_false ht]
    clear ht
    go_wp2
    refine bodyPost_ret (v := .tuple #[.agg #[.slice none 0 0], .int .i64 10]) (by simp [results, Tryd.results10, go_sem, r2]) rfl (HBAD.out 10 HP.out _ x2)
  rw [decide_eq_true ht]
  by_cases h1 : N < 1
  · have HP : Hid (parseM s = ([], 10)) := by
      show _ = _
      rw [parseM, if_neg (by rw [HN.out]; omega)]
    clear ht
    have d1 : decide ((N : Int) < 1) = true := by rw [decide_eq_true_eq]; omega
    go_wp2
    refine bodyPost_ret (v := .tuple #[.agg #[.slice none 0 0], .int .i64 10]) (by simp [results, Tryd.results10, go_sem, r2]) rfl (HBAD.out 10 HP.out _ x2)
  have d1 : decide ((N : Int) < 1) = false := by rw [decide_eq_false_iff_not]; omega
  by_cases h6 : 6 < N
  · have HP : Hid (parseM s = ([], 10)) := by
      show _ = _
      rw [parseM, if_neg (by rw [HN.out]; omega)]
    clear ht
    have d6 : decide (6 < (N : Int)) = true := by rw [decide_eq_true_eq]; omega
    go_wp2
    refine bodyPost_ret (v := .tuple #[.agg #[.slice none 0 0], .int .i64 10]) (by simp [results, Tryd.results10, go_sem, r2]) rfl (HBAD.out 10 HP.out _ x2)
  have d6 : decide (6 < (N : Int)) = false := by rw [decide_eq_false_iff_not]; omega
  have HP : Hid (parseM s = parseR (rowsGo (pcs s) N N)) := by
    show _ = _
    rw [parseM, HN.out, if_pos (by omega)]
  clear ht
  clear b2 r2 x2 c1 f1
  have hmk := run_make_row' (P := Tryd.prog) 22 38 (.slice none 0 0) 24 Tryd.underlying22 info23 rfl .i64 .i64 N (by omega) (by omega)
  have R0 := RG.new V N (at2 [])
  have z1 := ext_alloc V (.cells (madeCells #[.slice none 0 0] N) 38)
  obtain ⟨p, hp⟩ : ∃ p, p = V.heap.size := ⟨_, rfl⟩
  rw [← hp] at R0
  go_upto_region 6 with fail
  rw [← hp]
  have HPZ : Hid (V.heap.size = p) := hp.symm
  clear hp hmk
  generalize V.alloc (.cells (madeCells #[.slice none 0 0] N) 38) = V2 at R0 z1 ⊢
  go_wp2_with fail
  go_loopw [8] (fun i wr => ∃ (a : Nat) (M : Mat) (q : Nat → Nat), i = .int .i64 (a : Int) ∧ a ≤ N ∧ RG wr p N a q (at2 M) ∧ Ext V wr ∧ Hid (rowsGo (pcs s) N a = some M) ∧ Hid (∀ i, i < a → V.heap.size ≤ q i)) (fun i _ => N - (intOf i).toNat)
  case atStart => exact ⟨0, [], _, rfl, Nat.zero_le _, R0, z1, rfl, fun i h => absurd h (by omega)⟩
  case round =>
    clear R0 z1
    obtain ⟨a, M, q, rfl, ha, R, hx, HR, HQ⟩ := hrel
    by_cases hlt : a < N
    · obtain ⟨wo, rfl⟩ : ∃ wo : World, wo = wr := ⟨_, rfl⟩
      have hlp : a < (pcs s).length := by rw [HN.out]; exact hlt
      obtain ⟨ad, rfl, p0⟩ := strs_get HRW.out hlp
      have hxs : ((pcs s).getD a ⟨#[]⟩).size ≤ s.size := by
        rw [List.getD_eq_getElem?_getD, List.getElem?_eq_getElem hlp]
        exact pcs_size (List.getElem_mem hlp)
      have HS : Hid (rowsGo (pcs s) N (a + 1) = match rowP ((pcs s).getD a ⟨#[]⟩) a N with | none => none | some r => some (M ++ [r])) := by
        show _ = _
        rw [rowsGo, HR.out]
        rfl
      have HML : Hid (M.length = a) := rowsGo_len HR.out
      obtain ⟨x, hxx⟩ : ∃ x, x = (pcs s).getD a ⟨#[]⟩ := ⟨_, rfl⟩
      rw [← hxx] at p0 hxs HS
      clear hxx hlp
      have hmk := run_make_row' (P := Tryd.prog) 38 4 (.bool false) 1 Tryd.underlying38 info4 rfl .i64 .i64 N (by omega) (by omega)
      have t0 := ext_alloc wo (.cells (madeCells #[.bool false] N) 4)
      obtain ⟨v0, t1⟩ := R.topAny hlt
      have t2 := ext_cell t0 t1
      have t3 := (R.ext t0).topFree a
      have R1 := R.more hlt
      have hpz : p < wo.heap.size := by obtain ⟨cs, h, _⟩ := R.blk; exact h.lt
      have t4 : Ext V ((wo.setCell ⟨p, a, none⟩ (.slice (some ⟨wo.heap.size, 0, none⟩) N N)).alloc (.cells (madeCells #[.bool false] N) 4)) := Below.alloc (hx.setCell (by rw [HPZ.out]; exact Nat.le_refl _) _) (by simp only [World.setCell, Array.size_modify]; exact hx.size) _
      go_upto_region 10 with fail
      clear t0 t1 t2 t3 hmk R
      generalize (wo.setCell ⟨p, a, none⟩ (.slice (some ⟨wo.heap.size, 0, none⟩) N N)).alloc (.cells (madeCells #[.bool false] N) 4) = w2 at R1 t4 ⊢
      have u0 := R1.top (Nat.lt_succ_self a)
      have u1 := R1.cell (Nat.lt_succ_self a) hlt
      have u2 := R1.free (Nat.lt_succ_self a) a
      have R2 := R1.set (Nat.lt_succ_self a) hlt true
      rw [rowF_new a N M hlt] at R2
      simp only [if_true] at u0 u1 u2 R2
      obtain ⟨q2, hq2⟩ : ∃ q2, q2 = (fun i => if i = a then wo.heap.size else q i) := ⟨_, rfl⟩
      have hqa : q2 a = wo.heap.size := by rw [hq2]; simp
      rw [← hq2] at R2
      rw [← hqa] at u0 u1 u2 R2
      have hqv : V.heap.size ≤ q2 a := by rw [hqa]; exact hx.size
      have HQ2 : Hid (∀ i, i < a + 1 → V.heap.size ≤ q2 i) := fun i hi => by
        rw [hq2]
        show _ ≤ if i = a then _ else _
        split
        · exact hx.size
        · exact HQ.out i (by omega)
      clear R1 hq2 hqa
      have t5 : Ext V (w2.setCell ⟨q2 a, a, none⟩ (.bool true)) := t4.setCell hqv _
      go_upto_region 11 with fail
      clear u0 u1 u2 t4
      generalize w2.setCell ⟨q2 a, a, none⟩ (.bool true) = w3 at R2 t5 ⊢
      have y0 := fun x' (h : Ext w3 x') => ext_cell h (ext_cell t5 p0)
      have hd := ext_drewN w3 1
      by_cases h2 : 2 ≤ x.size
      case neg =>
        have HBN : Hid (parseM s = ([], 10)) := by
          show _ = _
          have h1 : rowsGo (pcs s) N (a + 1) = none := by rw [HS.out, rowP_short (by omega) (fun h => h2 h.1)]
          have h2 := rowsGo_none h1 (N - (a + 1))
          rw [show a + 1 + (N - (a + 1)) = N by omega] at h2
          rw [HP.out, h2]; rfl
        have dx : decide ((x.size : Int) < 2) = true := by rw [decide_eq_true_eq]; omega
        have b3 := b1.ext t5
        have f3 := b3.frozen 0
        have c3 := b3.cell 0
        simp only [List.getElem?_toArray, List.getElem?_cons_zero] at c3
        have b2 := b3.set_ 0 (.slice none 0 0)
        simp only [List.setIfInBounds_toArray, List.set_cons_zero] at b2
        have r2 := b2.cell 0
        simp only [List.getElem?_toArray, List.getElem?_cons_zero] at r2
        have x2 : Ext w (w3.setCell ⟨g, 0, none⟩ (.slice none 0 0)).drew := ext_trans ((ext_trans y1 t5).setCell (by rw [HGZ.out]; exact Nat.le_refl _) _) (ext_drewN _ 1)
        refine wp_region_planH3 (.reads 0 (.reads 1 (.reads 2 (.reads 3 (.reads 4 (.reads 5 (.reads 6 (.reads 7 (.reads 8 (.reads 9 (.reads 10 (.reads 11 (.reads 12 (.makes 13 (.reads 14 (.reads 15 (.reads 16 (.done)))))))))))))))))) (by kernel_rfl) (by kernel_rfl) (fun x => Ext w3 x) (ext_drewN w3 1) (fun ops HOPS => ?_)
        (refine segH_pure _ _ _ _ _ _ (hid_get HOPS 0 _ rfl) rfl wanted_none (fun _ _ _ _ h => h) ?_; intro K hK; go_big_quiet_op; go_big_quiet_on)
        (refine segH_pure _ _ _ _ _ _ (hid_get HOPS 1 _ rfl) rfl wanted_none (fun _ _ _ _ h => h) ?_; intro K hK; go_big_quiet_op; go_big_quiet_on)
        (refine segH_pure _ _ _ _ _ _ (hid_get HOPS 2 _ rfl) rfl wanted_none (fun _ _ _ _ h => h) ?_; intro K hK; go_big_quiet_op; go_big_quiet_on)
        (refine segH_load _ _ _ _ _ _ _ _ _ (hid_get HOPS 3 _ rfl) wanted_none rfl (fun _ _ _ _ h => h) (fun y hy => by go_simp; try with_reducible rfl) ?_; simp only [Act.put, List.setIfInBounds_toArray, List.set_cons_zero, List.set_cons_succ])
        (refine segH_pure _ _ _ _ _ _ (hid_get HOPS 4 _ rfl) rfl wanted_none (fun _ _ _ _ h => h) ?_; intro K hK; go_big_quiet_op; go_big_quiet_on)
        (refine segH_pure _ _ _ _ _ _ (hid_get HOPS 5 _ rfl) rfl wanted_none (fun _ _ _ _ h => h) ?_; intro K hK; go_big_quiet_op; go_big_quiet_on)
        (refine segH_pure _ _ _ _ _ _ (hid_get HOPS 6 _ rfl) rfl wanted_none (fun _ _ _ _ h => h) ?_; intro K hK; go_big_quiet_op; go_big_quiet_on)
        first | (refine segH_pass _ _ _ _ _ _ (hid_get HOPS 7 _ rfl) (wanted_some (hid_get HOPS 6 _ rfl) rfl rfl rfl) (fun _ _ _ _ h => h) ?_; simp only [Act.put, List.setIfInBounds_toArray, List.set_cons_zero, List.set_cons_succ]) | (refine segH_pure _ _ _ _ _ _ (hid_get HOPS 7 _ rfl) rfl (wanted_some (hid_get HOPS 6 _ rfl) rfl rfl rfl) (fun _ _ _ _ h => h) ?_; intro K hK; go_big_quiet_op; go_big_quiet_on) | (refine segH_pass _ _ _ _ _ _ (hid_get HOPS 7 _ rfl) (wanted_gone (hid_get HOPS 6 _ rfl) rfl rfl) (fun _ _ _ _ h => h) ?_; simp only [Act.put, List.setIfInBounds_toArray, List.set_cons_zero, List.set_cons_succ])
        first | (refine segH_pass _ _ _ _ _ _ (hid_get HOPS 8 _ rfl) (wanted_some (hid_get HOPS 6 _ rfl) rfl rfl rfl) (fun _ _ _ _ h => h) ?_; simp only [Act.put, List.setIfInBounds_toArray, List.set_cons_zero, List.set_cons_succ]) | (refine segH_pure _ _ _ _ _ _ (hid_get HOPS 8 _ rfl) rfl (wanted_some (hid_get HOPS 6 _ rfl) rfl rfl rfl) (fun _ _ _ _ h => h) ?_; intro K hK; go_big_quiet_op; go_big_quiet_on) | (refine segH_pass _ _ _ _ _ _ (hid_get HOPS 8 _ rfl) (wanted_gone (hid_get HOPS 6 _ rfl) rfl rfl) (fun _ _ _ _ h => h) ?_; simp only [Act.put, List.setIfInBounds_toArray, List.set_cons_zero, List.set_cons_succ])
        first | (refine segH_pass _ _ _ _ _ _ (hid_get HOPS 9 _ rfl) (wanted_some (hid_get HOPS 6 _ rfl) rfl rfl rfl) (fun _ _ _ _ h => h) ?_; simp only [Act.put, List.setIfInBounds_toArray, List.set_cons_zero, List.set_cons_succ]) | (refine segH_pure _ _ _ _ _ _ (hid_get HOPS 9 _ rfl) rfl (wanted_some (hid_get HOPS 6 _ rfl) rfl rfl rfl) (fun _ _ _ _ h => h) ?_; intro K hK; go_big_quiet_op; go_big_quiet_on) | (refine segH_pass _ _ _ _ _ _ (hid_get HOPS 9 _ rfl) (wanted_gone (hid_get HOPS 6 _ rfl) rfl rfl) (fun _ _ _ _ h => h) ?_; simp only [Act.put, List.setIfInBounds_toArray, List.set_cons_zero, List.set_cons_succ])
        first | (refine segH_pass _ _ _ _ _ _ (hid_get HOPS 10 _ rfl) (wanted_some (hid_get HOPS 6 _ rfl) rfl rfl rfl) (fun _ _ _ _ h => h) ?_; simp only [Act.put, List.setIfInBounds_toArray, List.set_cons_zero, List.set_cons_succ]) | (refine segH_load _ _ _ _ _ _ _ _ _ (hid_get HOPS 10 _ rfl) (wanted_some (hid_get HOPS 6 _ rfl) rfl rfl rfl) rfl (fun _ _ _ _ h => h) (fun y hy => by go_simp; try with_reducible rfl) ?_; simp only [Act.put, List.setIfInBounds_toArray, List.set_cons_zero, List.set_cons_succ]) | (refine segH_pass _ _ _ _ _ _ (hid_get HOPS 10 _ rfl) (wanted_gone (hid_get HOPS 6 _ rfl) rfl rfl) (fun _ _ _ _ h => h) ?_; simp only [Act.put, List.setIfInBounds_toArray, List.set_cons_zero, List.set_cons_succ])
        first | (refine segH_pass _ _ _ _ _ _ (hid_get HOPS 11 _ rfl) (wanted_some (hid_get HOPS 6 _ rfl) rfl rfl rfl) (fun _ _ _ _ h => h) ?_; simp only [Act.put, List.setIfInBounds_toArray, List.set_cons_zero, List.set_cons_succ]) | (refine segH_pure _ _ _ _ _ _ (hid_get HOPS 11 _ rfl) rfl (wanted_some (hid_get HOPS 6 _ rfl) rfl rfl rfl) (fun _ _ _ _ h => h) ?_; intro K hK; go_big_quiet_op; go_big_quiet_on) | (refine segH_pass _ _ _ _ _ _ (hid_get HOPS 11 _ rfl) (wanted_gone (hid_get HOPS 6 _ rfl) rfl rfl) (fun _ _ _ _ h => h) ?_; simp only [Act.put, List.setIfInBounds_toArray, List.set_cons_zero, List.set_cons_succ])
        first | (refine segH_pass _ _ _ _ _ _ (hid_get HOPS 12 _ rfl) (wanted_some (hid_get HOPS 6 _ rfl) rfl rfl rfl) (fun _ _ _ _ h => h) ?_; simp only [Act.put, List.setIfInBounds_toArray, List.set_cons_zero, List.set_cons_succ]) | (refine segH_pure _ _ _ _ _ _ (hid_get HOPS 12 _ rfl) rfl (wanted_some (hid_get HOPS 6 _ rfl) rfl rfl rfl) (fun _ _ _ _ h => h) ?_; intro K hK; go_big_quiet_op; go_big_quiet_on) | (refine segH_pass _ _ _ _ _ _ (hid_get HOPS 12 _ rfl) (wanted_gone (hid_get HOPS 6 _ rfl) rfl rfl) (fun _ _ _ _ h => h) ?_; simp only [Act.put, List.setIfInBounds_toArray, List.set_cons_zero, List.set_cons_succ])
        refine segH_makes_pass _ _ _ _ _ _ (hid_get HOPS 13 _ rfl) (by first | exact (wanted_some (hid_get HOPS 6 _ rfl) rfl rfl rfl) | exact (wanted_gone (hid_get HOPS 6 _ rfl) rfl rfl)) (ext_drewN w3 1) ?_; simp only [Act.put, List.setIfInBounds_toArray, List.set_cons_zero, List.set_cons_succ]
        first | (refine segH_pass _ _ _ _ _ _ (hid_get HOPS 14 _ rfl) (wanted_some (hid_get HOPS 6 _ rfl) rfl rfl rfl) (fun _ _ _ _ h => h) ?_; simp only [Act.put, List.setIfInBounds_toArray, List.set_cons_zero, List.set_cons_succ]) | (refine segH_pure _ _ _ _ _ _ (hid_get HOPS 14 _ rfl) rfl (wanted_some (hid_get HOPS 6 _ rfl) rfl rfl rfl) (fun _ _ _ _ h => h) ?_; intro K hK; go_big_quiet_op; go_big_quiet_on) | (refine segH_pass _ _ _ _ _ _ (hid_get HOPS 14 _ rfl) (wanted_gone (hid_get HOPS 6 _ rfl) rfl rfl) (fun _ _ _ _ h => h) ?_; simp only [Act.put, List.setIfInBounds_toArray, List.set_cons_zero, List.set_cons_succ])
        first | (refine segH_pass _ _ _ _ _ _ (hid_get HOPS 15 _ rfl) (wanted_some (hid_get HOPS 6 _ rfl) rfl rfl rfl) (fun _ _ _ _ h => h) ?_; simp only [Act.put, List.setIfInBounds_toArray, List.set_cons_zero, List.set_cons_succ]) | (refine segH_pure _ _ _ _ _ _ (hid_get HOPS 15 _ rfl) rfl (wanted_some (hid_get HOPS 6 _ rfl) rfl rfl rfl) (fun _ _ _ _ h => h) ?_; intro K hK; go_big_quiet_op; go_big_quiet_on) | (refine segH_pass _ _ _ _ _ _ (hid_get HOPS 15 _ rfl) (wanted_gone (hid_get HOPS 6 _ rfl) rfl rfl) (fun _ _ _ _ h => h) ?_; simp only [Act.put, List.setIfInBounds_toArray, List.set_cons_zero, List.set_cons_succ])
        (refine segH_pure _ _ _ _ _ _ (hid_get HOPS 16 _ rfl) rfl wanted_none (fun _ _ _ _ h => h) ?_; intro K hK; go_big_quiet_op; go_big_quiet_on)
        refine seg_done ?_
        clear HOPS
        clear y0
        go_wp2
        refine bodyPost_ret (v := .tuple #[.agg #[.slice none 0 0], .int .i64 10]) (by simp [results, Tryd.results10, go_sem, r2]) rfl (HBAD.out 10 HBN.out _ x2)
      case pos =>
        have dx : decide ((x.size : Int) < 2) = false := by rw [decide_eq_false_iff_not]; omega
        have hns : (nam (a : Int)).size + 1 ≤ 1000 := by have := nam_one (show a < 6 by omega); omega
        refine wp_region_planH3 (.reads 0 (.reads 1 (.reads 2 (.reads 3 (.reads 4 (.reads 5 (.reads 6 (.reads 7 (.reads 8 (.reads 9 (.reads 10 (.reads 11 (.reads 12 (.makes 13 (.reads 14 (.reads 15 (.reads 16 (.done)))))))))))))))))) (by kernel_rfl) (by kernel_rfl) (fun x => Ext w3 x) (ext_drewN w3 1) (fun ops HOPS => ?_)
        (refine segH_pure _ _ _ _ _ _ (hid_get HOPS 0 _ rfl) rfl wanted_none (fun _ _ _ _ h => h) ?_; intro K hK; go_big_quiet_op; go_big_quiet_on)
        (refine segH_pure _ _ _ _ _ _ (hid_get HOPS 1 _ rfl) rfl wanted_none (fun _ _ _ _ h => h) ?_; intro K hK; go_big_quiet_op; go_big_quiet_on)
        (refine segH_pure _ _ _ _ _ _ (hid_get HOPS 2 _ rfl) rfl wanted_none (fun _ _ _ _ h => h) ?_; intro K hK; go_big_quiet_op; go_big_quiet_on)
        (refine segH_load _ _ _ _ _ _ _ _ _ (hid_get HOPS 3 _ rfl) wanted_none rfl (fun _ _ _ _ h => h) (fun y hy => by go_simp; try with_reducible rfl) ?_; simp only [Act.put, List.setIfInBounds_toArray, List.set_cons_zero, List.set_cons_succ])
        (refine segH_pure _ _ _ _ _ _ (hid_get HOPS 4 _ rfl) rfl wanted_none (fun _ _ _ _ h => h) ?_; intro K hK; go_big_quiet_op; go_big_quiet_on)
        (refine segH_pure _ _ _ _ _ _ (hid_get HOPS 5 _ rfl) rfl wanted_none (fun _ _ _ _ h => h) ?_; intro K hK; go_big_quiet_op; go_big_quiet_on)
        (refine segH_pure _ _ _ _ _ _ (hid_get HOPS 6 _ rfl) rfl wanted_none (fun _ _ _ _ h => h) ?_; intro K hK; go_big_quiet_op; go_big_quiet_on)
        first | (refine segH_pass _ _ _ _ _ _ (hid_get HOPS 7 _ rfl) (wanted_some (hid_get HOPS 6 _ rfl) rfl rfl rfl) (fun _ _ _ _ h => h) ?_; simp only [Act.put, List.setIfInBounds_toArray, List.set_cons_zero, List.set_cons_succ]) | (refine segH_pure _ _ _ _ _ _ (hid_get HOPS 7 _ rfl) rfl (wanted_some (hid_get HOPS 6 _ rfl) rfl rfl rfl) (fun _ _ _ _ h => h) ?_; intro K hK; go_big_quiet_op; go_big_quiet_on) | (refine segH_pass _ _ _ _ _ _ (hid_get HOPS 7 _ rfl) (wanted_gone (hid_get HOPS 6 _ rfl) rfl rfl) (fun _ _ _ _ h => h) ?_; simp only [Act.put, List.setIfInBounds_toArray, List.set_cons_zero, List.set_cons_succ])
        first | (refine segH_pass _ _ _ _ _ _ (hid_get HOPS 8 _ rfl) (wanted_some (hid_get HOPS 6 _ rfl) rfl rfl rfl) (fun _ _ _ _ h => h) ?_; simp only [Act.put, List.setIfInBounds_toArray, List.set_cons_zero, List.set_cons_succ]) | (refine segH_pure _ _ _ _ _ _ (hid_get HOPS 8 _ rfl) rfl (wanted_some (hid_get HOPS 6 _ rfl) rfl rfl rfl) (fun _ _ _ _ h => h) ?_; intro K hK; go_big_quiet_op; go_big_quiet_on) | (refine segH_pass _ _ _ _ _ _ (hid_get HOPS 8 _ rfl) (wanted_gone (hid_get HOPS 6 _ rfl) rfl rfl) (fun _ _ _ _ h => h) ?_; simp only [Act.put, List.setIfInBounds_toArray, List.set_cons_zero, List.set_cons_succ])
        first | (refine segH_pass _ _ _ _ _ _ (hid_get HOPS 9 _ rfl) (wanted_some (hid_get HOPS 6 _ rfl) rfl rfl rfl) (fun _ _ _ _ h => h) ?_; simp only [Act.put, List.setIfInBounds_toArray, List.set_cons_zero, List.set_cons_succ]) | (refine segH_pure _ _ _ _ _ _ (hid_get HOPS 9 _ rfl) rfl (wanted_some (hid_get HOPS 6 _ rfl) rfl rfl rfl) (fun _ _ _ _ h => h) ?_; intro K hK; go_big_quiet_op; go_big_quiet_on) | (refine segH_pass _ _ _ _ _ _ (hid_get HOPS 9 _ rfl) (wanted_gone (hid_get HOPS 6 _ rfl) rfl rfl) (fun _ _ _ _ h => h) ?_; simp only [Act.put, List.setIfInBounds_toArray, List.set_cons_zero, List.set_cons_succ])
        first | (refine segH_pass _ _ _ _ _ _ (hid_get HOPS 10 _ rfl) (wanted_some (hid_get HOPS 6 _ rfl) rfl rfl rfl) (fun _ _ _ _ h => h) ?_; simp only [Act.put, List.setIfInBounds_toArray, List.set_cons_zero, List.set_cons_succ]) | (refine segH_load _ _ _ _ _ _ _ _ _ (hid_get HOPS 10 _ rfl) (wanted_some (hid_get HOPS 6 _ rfl) rfl rfl rfl) rfl (fun _ _ _ _ h => h) (fun y hy => by go_simp; try with_reducible rfl) ?_; simp only [Act.put, List.setIfInBounds_toArray, List.set_cons_zero, List.set_cons_succ]) | (refine segH_pass _ _ _ _ _ _ (hid_get HOPS 10 _ rfl) (wanted_gone (hid_get HOPS 6 _ rfl) rfl rfl) (fun _ _ _ _ h => h) ?_; simp only [Act.put, List.setIfInBounds_toArray, List.set_cons_zero, List.set_cons_succ])
        first | (refine segH_pass _ _ _ _ _ _ (hid_get HOPS 11 _ rfl) (wanted_some (hid_get HOPS 6 _ rfl) rfl rfl rfl) (fun _ _ _ _ h => h) ?_; simp only [Act.put, List.setIfInBounds_toArray, List.set_cons_zero, List.set_cons_succ]) | (refine segH_pure _ _ _ _ _ _ (hid_get HOPS 11 _ rfl) rfl (wanted_some (hid_get HOPS 6 _ rfl) rfl rfl rfl) (fun _ _ _ _ h => h) ?_; intro K hK; go_big_quiet_op; go_big_quiet_on) | (refine segH_pass _ _ _ _ _ _ (hid_get HOPS 11 _ rfl) (wanted_gone (hid_get HOPS 6 _ rfl) rfl rfl) (fun _ _ _ _ h => h) ?_; simp only [Act.put, List.setIfInBounds_toArray, List.set_cons_zero, List.set_cons_succ])
        first | (refine segH_pass _ _ _ _ _ _ (hid_get HOPS 12 _ rfl) (wanted_some (hid_get HOPS 6 _ rfl) rfl rfl rfl) (fun _ _ _ _ h => h) ?_; simp only [Act.put, List.setIfInBounds_toArray, List.set_cons_zero, List.set_cons_succ]) | (refine segH_pure _ _ _ _ _ _ (hid_get HOPS 12 _ rfl) rfl (wanted_some (hid_get HOPS 6 _ rfl) rfl rfl rfl) (fun _ _ _ _ h => h) ?_; intro K hK; go_big_quiet_op; go_big_quiet_on) | (refine segH_pass _ _ _ _ _ _ (hid_get HOPS 12 _ rfl) (wanted_gone (hid_get HOPS 6 _ rfl) rfl rfl) (fun _ _ _ _ h => h) ?_; simp only [Act.put, List.setIfInBounds_toArray, List.set_cons_zero, List.set_cons_succ])
        refine segH_makes _ _ _ _ _ _ (hid_get HOPS 13 _ rfl) (wanted_some (hid_get HOPS 6 _ rfl) rfl rfl rfl) (fun K hK => ?_)
        go_big_op
        refine (refName_any (a : Int) w3.drew (by omega)).mono ?_
        rintro e w4 ⟨rfl, x4⟩
        refine hK _ _ (fun x' => Ext w3 x') (ext_trans hd x4) (fun _ h => h) ?_
        clear hK
        first | (refine segH_pass _ _ _ _ _ _ (hid_get HOPS 14 _ rfl) (wanted_some (hid_get HOPS 6 _ rfl) rfl rfl rfl) (fun _ _ _ _ h => h) ?_; simp only [Act.put, List.setIfInBounds_toArray, List.set_cons_zero, List.set_cons_succ]) | (refine segH_pure _ _ _ _ _ _ (hid_get HOPS 14 _ rfl) rfl (wanted_some (hid_get HOPS 6 _ rfl) rfl rfl rfl) (fun _ _ _ _ h => h) ?_; intro K hK; go_big_quiet_op; go_big_quiet_on) | (refine segH_pass _ _ _ _ _ _ (hid_get HOPS 14 _ rfl) (wanted_gone (hid_get HOPS 6 _ rfl) rfl rfl) (fun _ _ _ _ h => h) ?_; simp only [Act.put, List.setIfInBounds_toArray, List.set_cons_zero, List.set_cons_succ])
        first | (refine segH_pass _ _ _ _ _ _ (hid_get HOPS 15 _ rfl) (wanted_some (hid_get HOPS 6 _ rfl) rfl rfl rfl) (fun _ _ _ _ h => h) ?_; simp only [Act.put, List.setIfInBounds_toArray, List.set_cons_zero, List.set_cons_succ]) | (refine segH_pure _ _ _ _ _ _ (hid_get HOPS 15 _ rfl) rfl (wanted_some (hid_get HOPS 6 _ rfl) rfl rfl rfl) (fun _ _ _ _ h => h) ?_; intro K hK; go_big_quiet_op; go_big_quiet_on) | (refine segH_pass _ _ _ _ _ _ (hid_get HOPS 15 _ rfl) (wanted_gone (hid_get HOPS 6 _ rfl) rfl rfl) (fun _ _ _ _ h => h) ?_; simp only [Act.put, List.setIfInBounds_toArray, List.set_cons_zero, List.set_cons_succ])
        (refine segH_pure _ _ _ _ _ _ (hid_get HOPS 16 _ rfl) rfl wanted_none (fun _ _ _ _ h => h) ?_; intro K hK; go_big_quiet_op; go_big_quiet_on)
        refine seg_done ?_
        clear HOPS
        have t6 : Ext V w4 := ext_trans t5 (ext_trans hd x4)
        have R3 := R2.ext (ext_trans hd x4)
        clear y0 x4 hd R2 t5
        generalize hbq : ((x.extract 0 2).toList == (nam (a : Int) ++ ⟨#[62]⟩).toList) = tb
        cases tb
        · have hne : ¬ (2 ≤ x.size ∧ x.extract 0 2 = nam a ++ ⟨#[62]⟩) := fun h => by
            have := (beq_bytes _ _).2 h.2
            rw [hbq] at this; cases this
          have HBN : Hid (parseM s = ([], 10)) := by
            show _ = _
            have h1 : rowsGo (pcs s) N (a + 1) = none := by rw [HS.out, rowP_short (by omega) hne]
            have h2 := rowsGo_none h1 (N - (a + 1))
            rw [show a + 1 + (N - (a + 1)) = N by omega] at h2
            rw [HP.out, h2]; rfl
          clear hbq hne R3
          have b3 := b1.ext (t6)
          have f3 := b3.frozen 0
          have c3 := b3.cell 0
          simp only [List.getElem?_toArray, List.getElem?_cons_zero] at c3
          have b2 := b3.set_ 0 (.slice none 0 0)
          simp only [List.setIfInBounds_toArray, List.set_cons_zero] at b2
          have r2 := b2.cell 0
          simp only [List.getElem?_toArray, List.getElem?_cons_zero] at r2
          have x2 : Ext w (w4.setCell ⟨g, 0, none⟩ (.slice none 0 0)) := (ext_trans y1 (t6)).setCell (by rw [HGZ.out]; exact Nat.le_refl _) _
          go_wp2
          refine bodyPost_ret (v := .tuple #[.agg #[.slice none 0 0], .int .i64 10]) (by simp [results, Tryd.results10, go_sem, r2]) rfl (HBAD.out 10 HBN.out _ x2)
        · have HG0 : Hid (rowP x a N = rowGo a N (x.data.toList.drop 2) (List.replicate N false)) := rowP_head (by omega) h2 ((beq_bytes _ _).1 hbq)
          clear hbq dx hns
          simp only [Bool.not_true]
          go_wp2_with fail
          go_loopw [9] (fun i wi => ∃ (k : Nat) (bs : List Bool), i = .int .i64 (k : Int) ∧ k ≤ x.size ∧ bs.length = N ∧ RG wi p N (a + 1) q2 (rowF a bs M) ∧ Ext V wi ∧ Hid (rowP x a N = rowGo a N (x.data.toList.drop k) bs)) (fun i _ => x.size - (intOf i).toNat)
          case atStart => exact ⟨2, _, rfl, h2, by simp, R3, t6, HG0⟩
          case round =>
            clear R3 t6 HG0
            obtain ⟨k, bs, rfl, hk, hbl, R, hxi, HG⟩ := hrel
            obtain ⟨wi, rfl⟩ : ∃ wi : World, wi = wr := ⟨_, rfl⟩
            have p1 := ext_cell hxi p0
            by_cases hlk : k < x.size
            · have hex := extract_at x k hlk
              have hdr := drop_at x k hlk
              obtain ⟨b, hb0⟩ : ∃ b, b = x.data.toList[k]'(by simpa using hlk) := ⟨_, rfl⟩
              rw [← hb0] at hdr hex
              have HEX := Lib.hid hex
              have HDR := Lib.hid hdr
              clear hdr hex hb0
              go_wp2_with fail
              rw [HEX.out]
              refine (refLevel_any ⟨#[b]⟩ wi (by show 1 ≤ 9223372036854775807; omega)).mono ?_
              rintro e w5 ⟨rfl, rfl⟩
              cases hlv : lvl ⟨#[b]⟩ with
              | none =>
                have hno : rowP x a N = none := by rw [HG.out, HDR.out, rowGo, hlv]
                have HBN : Hid (parseM s = ([], 10)) := by
                  show _ = _
                  have h1 : rowsGo (pcs s) N (a + 1) = none := by rw [HS.out, hno]
                  have h2 := rowsGo_none h1 (N - (a + 1))
                  rw [show a + 1 + (N - (a + 1)) = N by omega] at h2
                  rw [HP.out, h2]; rfl
                rw [show lvlV none = .tuple #[.int .i64 0, .bool false] from rfl]
                clear hlv hno R p1
                have b3 := b1.ext (hxi)
                have f3 := b3.frozen 0
                have c3 := b3.cell 0
                simp only [List.getElem?_toArray, List.getElem?_cons_zero] at c3
                have b2 := b3.set_ 0 (.slice none 0 0)
                simp only [List.setIfInBounds_toArray, List.set_cons_zero] at b2
                have r2 := b2.cell 0
                simp only [List.getElem?_toArray, List.getElem?_cons_zero] at r2
                have x2 : Ext w (wi.setCell ⟨g, 0, none⟩ (.slice none 0 0)) := (ext_trans y1 (hxi)).setCell (by rw [HGZ.out]; exact Nat.le_refl _) _
                go_wp2
                refine bodyPost_ret (v := .tuple #[.agg #[.slice none 0 0], .int .i64 10]) (by simp [results, Tryd.results10, go_sem, r2]) rfl (HBAD.out 10 HBN.out _ x2)
              | some j =>
                have hj6 := lvl_lt hlv
                rw [show lvlV (some j) = .tuple #[.int .i64 (j : Int), .bool true] from rfl]
                have HSJ : Hid (rowGo a N (x.data.toList.drop k) bs = if N ≤ j ∨ j = a ∨ bs.getD j false = true then none else rowGo a N (x.data.toList.drop (k + 1)) (bs.set j true)) := by
                  show _ = _
                  rw [HDR.out, rowGo, hlv]
                clear hlv p1
                by_cases g1 : N ≤ j
                · have hno : rowP x a N = none := by rw [HG.out, HSJ.out, if_pos (.inl g1)]
                  have HBN : Hid (parseM s = ([], 10)) := by
                    show _ = _
                    have h1 : rowsGo (pcs s) N (a + 1) = none := by rw [HS.out, hno]
                    have h2 := rowsGo_none h1 (N - (a + 1))
                    rw [show a + 1 + (N - (a + 1)) = N by omega] at h2
                    rw [HP.out, h2]; rfl
                  clear hno R
                  have dj : decide ((N : Int) ≤ (j : Int)) = true := by rw [decide_eq_true_eq]; omega
                  have b3 := b1.ext (hxi)
                  have f3 := b3.frozen 0
                  have c3 := b3.cell 0
                  simp only [List.getElem?_toArray, List.getElem?_cons_zero] at c3
                  have b2 := b3.set_ 0 (.slice none 0 0)
                  simp only [List.setIfInBounds_toArray, List.set_cons_zero] at b2
                  have r2 := b2.cell 0
                  simp only [List.getElem?_toArray, List.getElem?_cons_zero] at r2
                  have x2 : Ext w (wi.setCell ⟨g, 0, none⟩ (.slice none 0 0)) := (ext_trans y1 (hxi)).setCell (by rw [HGZ.out]; exact Nat.le_refl _) _
                  go_wp2
                  refine bodyPost_ret (v := .tuple #[.agg #[.slice none 0 0], .int .i64 10]) (by simp [results, Tryd.results10, go_sem, r2]) rfl (HBAD.out 10 HBN.out _ x2)
                · have dj : decide ((N : Int) ≤ (j : Int)) = false := by rw [decide_eq_false_iff_not]; omega
                  by_cases g2 : j = a
                  · have hno : rowP x a N = none := by rw [HG.out, HSJ.out, if_pos (.inr (.inl g2))]
                    have HBN : Hid (parseM s = ([], 10)) := by
                      show _ = _
                      have h1 : rowsGo (pcs s) N (a + 1) = none := by rw [HS.out, hno]
                      have h2 := rowsGo_none h1 (N - (a + 1))
                      rw [show a + 1 + (N - (a + 1)) = N by omega] at h2
                      rw [HP.out, h2]; rfl
                    clear hno R
                    subst g2
                    have b3 := b1.ext (hxi)
                    have f3 := b3.frozen 0
                    have c3 := b3.cell 0
                    simp only [List.getElem?_toArray, List.getElem?_cons_zero] at c3
                    have b2 := b3.set_ 0 (.slice none 0 0)
                    simp only [List.setIfInBounds_toArray, List.set_cons_zero] at b2
                    have r2 := b2.cell 0
                    simp only [List.getElem?_toArray, List.getElem?_cons_zero] at r2
                    have x2 : Ext w (wi.setCell ⟨g, 0, none⟩ (.slice none 0 0)) := (ext_trans y1 (hxi)).setCell (by rw [HGZ.out]; exact Nat.le_refl _) _
                    go_wp2
                    refine bodyPost_ret (v := .tuple #[.agg #[.slice none 0 0], .int .i64 10]) (by simp [results, Tryd.results10, go_sem, r2]) rfl (HBAD.out 10 HBN.out _ x2)
                  · have dja : ((j : Int) == (a : Int)) = false := by rw [beq_eq_false_iff_ne]; omega
                    have u0 := R.top (Nat.lt_succ_self a)
                    have u1 := R.cell (Nat.lt_succ_self a) (show j < N by omega)
                    have hrf : rowF a bs M a j = bs.getD j false := by
                      unfold rowF
                      rw [if_pos rfl, List.getD_eq_getElem?_getD, List.getD_eq_getElem?_getD, List.getElem?_set_ne (Ne.symm g2)]
                    rw [hrf] at u1
                    cases hbq : bs.getD j false
                    · rw [hbq] at u1
                      have u2 := R.free (Nat.lt_succ_self a) j
                      have HN2 : Hid (rowP x a N = rowGo a N (x.data.toList.drop (k + 1)) (bs.set j true)) := by
                        show _ = _
                        rw [HG.out, HSJ.out, if_neg (by rw [hbq]; simp; omega)]
                      have R5 := R.set (Nat.lt_succ_self a) (show j < N by omega) true
                      rw [rowF_set a j N bs M hbl (by omega)] at R5
                      have x5 : Ext V (wi.setCell ⟨q2 a, j, none⟩ (.bool true)) := hxi.setCell hqv _
                      clear hbq hrf R hxi
                      go_wp2
                      go_roundw
                      case rel => exact ⟨k + 1, bs.set j true, by go_num, hlk, by simpa using hbl, R5, x5, HN2⟩
                      case measure => simp [intOf]; omega
                    · rw [hbq] at u1
                      have hno : rowP x a N = none := by rw [HG.out, HSJ.out, if_pos (.inr (.inr hbq))]
                      have HBN : Hid (parseM s = ([], 10)) := by
                        show _ = _
                        have h1 : rowsGo (pcs s) N (a + 1) = none := by rw [HS.out, hno]
                        have h2 := rowsGo_none h1 (N - (a + 1))
                        rw [show a + 1 + (N - (a + 1)) = N by omega] at h2
                        rw [HP.out, h2]; rfl
                      clear hno hbq hrf
                      have b3 := b1.ext (hxi)
                      have f3 := b3.frozen 0
                      have c3 := b3.cell 0
                      simp only [List.getElem?_toArray, List.getElem?_cons_zero] at c3
                      have b2 := b3.set_ 0 (.slice none 0 0)
                      simp only [List.setIfInBounds_toArray, List.set_cons_zero] at b2
                      have r2 := b2.cell 0
                      simp only [List.getElem?_toArray, List.getElem?_cons_zero] at r2
                      have x2 : Ext w (wi.setCell ⟨g, 0, none⟩ (.slice none 0 0)) := (ext_trans y1 (hxi)).setCell (by rw [HGZ.out]; exact Nat.le_refl _) _
                      go_wp2
                      refine bodyPost_ret (v := .tuple #[.agg #[.slice none 0 0], .int .i64 10]) (by simp [results, Tryd.results10, go_sem, r2]) rfl (HBAD.out 10 HBN.out _ x2)
            · obtain rfl : k = x.size := by omega
              have hf : rowP x a N = some (bs.set a true) := by
                rw [HG.out, show x.data.toList.drop x.size = [] from List.drop_eq_nil_of_le (by simp)]
                rfl
              have HF : Hid (rowsGo (pcs s) N (a + 1) = some (M ++ [bs.set a true])) := by
                show _ = _
                rw [HS.out, hf]
              have R5 := R.congr (g := at2 (M ++ [bs.set a true])) (fun i hi b _ => rowF_done a bs M HML.out hi b)
              clear hf R
              go_wp2
              go_roundw
              case rel => exact ⟨a + 1, _, q2, by go_num, hlt, R5, hxi, HF, HQ2⟩
              case measure => simp [intOf]; omega
    · obtain rfl : N = a := by omega
      clear hlt
      have hml := rowsGo_len HR.out
      have HE : Hid (parseM s = parseC (closeM M)) := by
        show _ = _
        rw [HP.out, HR.out]; rfl
      have HCM : Hid (gridM N (close N (at2 M) N) = closeM M) := by
        show _ = _
        rw [closeM, hml]
      have hsq := lchk_closeM (m := M) (by omega) (by omega)
      have HSQ := Lib.hid hsq
      have G0 := R.grid
      have hgp : g < p := by have := b1.lt; rw [HPZ.out] at this; exact this
      have HGP := Lib.hid hgp
      clear hsq hgp hml R
      obtain ⟨F0, hF0⟩ : ∃ F0, F0 = at2 M := ⟨_, rfl⟩
      rw [← hF0] at G0 HCM
      clear hF0 HR
      go_wp2_with fail
      go_loopw [12] (fun i wr => ∃ k : Nat, i = .int .i64 (k : Int) ∧ k ≤ N ∧ Grid wr p N q (close N F0 k) ∧ Ext V wr) (fun i _ => N - (intOf i).toNat)
      case atStart => exact ⟨0, rfl, Nat.zero_le _, G0, hx⟩
      case round =>
        clear G0 hx
        obtain ⟨k, rfl, hk, G, hx⟩ := hrel
        by_cases hlt : k < N
        · have HC : Hid (close N F0 (k + 1) = rowsUp N (close N F0 k) k N) := rfl
          obtain ⟨F, hF⟩ : ∃ F, F = close N F0 k := ⟨_, rfl⟩
          rw [← hF] at G HC
          clear hF
          go_wp2_with fail
          go_loopw [13] (fun i wr => ∃ a : Nat, i = .int .i64 (a : Int) ∧ a ≤ N ∧ Grid wr p N q (rowsUp N F k a) ∧ Ext V wr) (fun i _ => N - (intOf i).toNat)
          case atStart => exact ⟨0, rfl, Nat.zero_le _, G, hx⟩
          case round =>
            clear G hx
            obtain ⟨a, rfl, ha, G, hx⟩ := hrel
            by_cases hla : a < N
            · have HR : Hid (rowsUp N F k (a + 1) = stepR (rowsUp N F k a) a k N) := rfl
              obtain ⟨E, hE⟩ : ∃ E, E = rowsUp N F k a := ⟨_, rfl⟩
              rw [← hE] at G HR
              clear hE
              go_wp2_with fail
              go_loopw [14] (fun i wr => ∃ j : Nat, i = .int .i64 (j : Int) ∧ j ≤ N ∧ Grid wr p N q (stepR E a k j) ∧ Ext V wr) (fun i _ => N - (intOf i).toNat)
              case atStart => exact ⟨0, rfl, Nat.zero_le _, by rw [stepR_zero]; exact G, hx⟩
              case round =>
                clear G hx
                obtain ⟨j, rfl, hj, G, hx⟩ := hrel
                obtain ⟨wo, rfl⟩ : ∃ wo : World, wo = wr := ⟨_, rfl⟩
                by_cases hlj : j < N
                · obtain ⟨ca, p0⟩ := G.top a hla
                  obtain ⟨cb, p1⟩ := G.top k hlt
                  have p2 := G.cell hla hlj
                  have p3 := G.cell hla hlt
                  have p4 := G.cell hlt hlj
                  rw [stepR_here] at p2
                  rw [stepR_way] at p3
                  rw [stepR_there] at p4
                  have f0 := G.free hla j
                  have y0 := fun x (h : Ext wo x) => ext_cell h p0
                  have y1 := fun x (h : Ext wo x) => ext_cell h p1
                  have y2 := fun x (h : Ext wo x) => ext_cell h p2
                  have y3 := fun x (h : Ext wo x) => ext_cell h p3
                  have y4 := fun x (h : Ext wo x) => ext_cell h p4
                  have G2 := (G.set hla hlj (E a j || (E a k && E k j))).ext (ext_drewN _ 1)
                  have hx2 : Ext V (wo.setCell ⟨q a, j, none⟩ (.bool (E a j || (E a k && E k j)))).drew := ext_trans (hx.setCell (HQ.out a hla) _) (ext_drewN _ 1)
                  have HE2 : Hid ((fun a' b' => if a' = a ∧ b' = j then E a j || (E a k && E k j) else stepR E a k j a' b') = stepR E a k (j + 1)) := stepR_succ E a k j
                  rw [HE2.out] at G2
                  clear p1 p3 p4 G hx
                  cases hv : E a j <;> rw [hv] at y2 p2 G2 hx2
                  · cases hv2 : E a k <;> rw [hv2] at y3 G2 hx2
                    · simp only [Bool.false_or, Bool.false_and] at G2 hx2
                      go_upto_region 29 with fail
                      refine wp_region_planH (.reads 0 (.reads 1 (.reads 2 (.reads 3 (.reads 4 (.reads 5 (.reads 6 (.reads 7 (.reads 8 (.reads 9 (.reads 10 (.reads 11 (.reads 12 (.reads 13 (.reads 14 (.reads 15 (.reads 16 (.reads 17 (.reads 18 (.reads 19 (.reads 20 (.reads 21 (.reads 22 (.reads 23 (.reads 24 (.reads 25 (.reads 26 (.reads 27 (.reads 28 (.reads 29 (.reads 30 (.turns 31 (.done))))))))))))))))))))))))))))))))) (by kernel_rfl) (by kernel_rfl) (fun x => Ext wo x) (ext_drewN wo 1) (fun ops HOPS => ?_)
                      (refine segH_pure _ _ _ _ _ _ (hid_get HOPS 0 _ rfl) rfl wanted_none (fun _ _ _ _ h => h) ?_; intro K hK; go_big_quiet_op; go_big_quiet_on)
                      (refine segH_pure _ _ _ _ _ _ (hid_get HOPS 1 _ rfl) rfl wanted_none (fun _ _ _ _ h => h) ?_; intro K hK; go_big_quiet_op; go_big_quiet_on)
                      (refine segH_pure _ _ _ _ _ _ (hid_get HOPS 2 _ rfl) rfl wanted_none (fun _ _ _ _ h => h) ?_; intro K hK; go_big_quiet_op; go_big_quiet_on)
                      (refine segH_load _ _ _ _ _ _ _ _ _ (hid_get HOPS 3 _ rfl) wanted_none rfl (fun _ _ _ _ h => h) (fun y hy => by go_simp; try with_reducible rfl) ?_; simp only [Act.put, List.setIfInBounds_toArray, List.set_cons_zero, List.set_cons_succ])
                      (refine segH_pure _ _ _ _ _ _ (hid_get HOPS 4 _ rfl) rfl wanted_none (fun _ _ _ _ h => h) ?_; intro K hK; go_big_quiet_op; go_big_quiet_on)
                      (refine segH_pure _ _ _ _ _ _ (hid_get HOPS 5 _ rfl) rfl wanted_none (fun _ _ _ _ h => h) ?_; intro K hK; go_big_quiet_op; go_big_quiet_on)
                      (refine segH_pure _ _ _ _ _ _ (hid_get HOPS 6 _ rfl) rfl wanted_none (fun _ _ _ _ h => h) ?_; intro K hK; go_big_quiet_op; go_big_quiet_on)
                      (refine segH_pure _ _ _ _ _ _ (hid_get HOPS 7 _ rfl) rfl wanted_none (fun _ _ _ _ h => h) ?_; intro K hK; go_big_quiet_op; go_big_quiet_on)
                      (refine segH_load _ _ _ _ _ _ _ _ _ (hid_get HOPS 8 _ rfl) wanted_none rfl (fun _ _ _ _ h => h) (fun y hy => by go_simp; try with_reducible rfl) ?_; simp only [Act.put, List.setIfInBounds_toArray, List.set_cons_zero, List.set_cons_succ])
                      (refine segH_pure _ _ _ _ _ _ (hid_get HOPS 9 _ rfl) rfl wanted_none (fun _ _ _ _ h => h) ?_; intro K hK; go_big_quiet_op; go_big_quiet_on)
                      (refine segH_pure _ _ _ _ _ _ (hid_get HOPS 10 _ rfl) rfl wanted_none (fun _ _ _ _ h => h) ?_; intro K hK; go_big_quiet_op; go_big_quiet_on)
                      (refine segH_load _ _ _ _ _ _ _ _ _ (hid_get HOPS 11 _ rfl) wanted_none rfl (fun _ _ _ _ h => h) (fun y hy => by go_simp; try with_reducible rfl) ?_; simp only [Act.put, List.setIfInBounds_toArray, List.set_cons_zero, List.set_cons_succ])
                      (refine segH_pure _ _ _ _ _ _ (hid_get HOPS 12 _ rfl) rfl wanted_none (fun _ _ _ _ h => h) ?_; intro K hK; go_big_quiet_op; go_big_quiet_on)
                      first | (refine segH_pass _ _ _ _ _ _ (hid_get HOPS 13 _ rfl) (wanted_some (hid_get HOPS 12 _ rfl) rfl rfl rfl) (fun _ _ _ _ h => h) ?_; simp only [Act.put, List.setIfInBounds_toArray, List.set_cons_zero, List.set_cons_succ]) | (refine segH_pure _ _ _ _ _ _ (hid_get HOPS 13 _ rfl) rfl (wanted_some (hid_get HOPS 12 _ rfl) rfl rfl rfl) (fun _ _ _ _ h => h) ?_; intro K hK; go_big_quiet_op; go_big_quiet_on) | (refine segH_pass _ _ _ _ _ _ (hid_get HOPS 13 _ rfl) (wanted_gone (hid_get HOPS 12 _ rfl) rfl rfl) (fun _ _ _ _ h => h) ?_; simp only [Act.put, List.setIfInBounds_toArray, List.set_cons_zero, List.set_cons_succ])
                      first | (refine segH_pass _ _ _ _ _ _ (hid_get HOPS 14 _ rfl) (wanted_some (hid_get HOPS 12 _ rfl) rfl rfl rfl) (fun _ _ _ _ h => h) ?_; simp only [Act.put, List.setIfInBounds_toArray, List.set_cons_zero, List.set_cons_succ]) | (refine segH_pure _ _ _ _ _ _ (hid_get HOPS 14 _ rfl) rfl (wanted_some (hid_get HOPS 12 _ rfl) rfl rfl rfl) (fun _ _ _ _ h => h) ?_; intro K hK; go_big_quiet_op; go_big_quiet_on) | (refine segH_pass _ _ _ _ _ _ (hid_get HOPS 14 _ rfl) (wanted_gone (hid_get HOPS 12 _ rfl) rfl rfl) (fun _ _ _ _ h => h) ?_; simp only [Act.put, List.setIfInBounds_toArray, List.set_cons_zero, List.set_cons_succ])
                      first | (refine segH_pass _ _ _ _ _ _ (hid_get HOPS 15 _ rfl) (wanted_some (hid_get HOPS 12 _ rfl) rfl rfl rfl) (fun _ _ _ _ h => h) ?_; simp only [Act.put, List.setIfInBounds_toArray, List.set_cons_zero, List.set_cons_succ]) | (refine segH_pure _ _ _ _ _ _ (hid_get HOPS 15 _ rfl) rfl (wanted_some (hid_get HOPS 12 _ rfl) rfl rfl rfl) (fun _ _ _ _ h => h) ?_; intro K hK; go_big_quiet_op; go_big_quiet_on) | (refine segH_pass _ _ _ _ _ _ (hid_get HOPS 15 _ rfl) (wanted_gone (hid_get HOPS 12 _ rfl) rfl rfl) (fun _ _ _ _ h => h) ?_; simp only [Act.put, List.setIfInBounds_toArray, List.set_cons_zero, List.set_cons_succ])
                      first | (refine segH_pass _ _ _ _ _ _ (hid_get HOPS 16 _ rfl) (wanted_some (hid_get HOPS 12 _ rfl) rfl rfl rfl) (fun _ _ _ _ h => h) ?_; simp only [Act.put, List.setIfInBounds_toArray, List.set_cons_zero, List.set_cons_succ]) | (refine segH_load _ _ _ _ _ _ _ _ _ (hid_get HOPS 16 _ rfl) (wanted_some (hid_get HOPS 12 _ rfl) rfl rfl rfl) rfl (fun _ _ _ _ h => h) (fun y hy => by go_simp; try with_reducible rfl) ?_; simp only [Act.put, List.setIfInBounds_toArray, List.set_cons_zero, List.set_cons_succ]) | (refine segH_pass _ _ _ _ _ _ (hid_get HOPS 16 _ rfl) (wanted_gone (hid_get HOPS 12 _ rfl) rfl rfl) (fun _ _ _ _ h => h) ?_; simp only [Act.put, List.setIfInBounds_toArray, List.set_cons_zero, List.set_cons_succ])
                      first | (refine segH_pass _ _ _ _ _ _ (hid_get HOPS 17 _ rfl) (wanted_some (hid_get HOPS 12 _ rfl) rfl rfl rfl) (fun _ _ _ _ h => h) ?_; simp only [Act.put, List.setIfInBounds_toArray, List.set_cons_zero, List.set_cons_succ]) | (refine segH_pure _ _ _ _ _ _ (hid_get HOPS 17 _ rfl) rfl (wanted_some (hid_get HOPS 12 _ rfl) rfl rfl rfl) (fun _ _ _ _ h => h) ?_; intro K hK; go_big_quiet_op; go_big_quiet_on) | (refine segH_pass _ _ _ _ _ _ (hid_get HOPS 17 _ rfl) (wanted_gone (hid_get HOPS 12 _ rfl) rfl rfl) (fun _ _ _ _ h => h) ?_; simp only [Act.put, List.setIfInBounds_toArray, List.set_cons_zero, List.set_cons_succ])
                      first | (refine segH_pass _ _ _ _ _ _ (hid_get HOPS 18 _ rfl) (wanted_some (hid_get HOPS 12 _ rfl) rfl rfl rfl) (fun _ _ _ _ h => h) ?_; simp only [Act.put, List.setIfInBounds_toArray, List.set_cons_zero, List.set_cons_succ]) | (refine segH_pure _ _ _ _ _ _ (hid_get HOPS 18 _ rfl) rfl (wanted_some (hid_get HOPS 12 _ rfl) rfl rfl rfl) (fun _ _ _ _ h => h) ?_; intro K hK; go_big_quiet_op; go_big_quiet_on) | (refine segH_pass _ _ _ _ _ _ (hid_get HOPS 18 _ rfl) (wanted_gone (hid_get HOPS 12 _ rfl) rfl rfl) (fun _ _ _ _ h => h) ?_; simp only [Act.put, List.setIfInBounds_toArray, List.set_cons_zero, List.set_cons_succ])
                      first | (refine segH_pass _ _ _ _ _ _ (hid_get HOPS 19 _ rfl) (wanted_some (hid_get HOPS 12 _ rfl) rfl rfl rfl) (fun _ _ _ _ h => h) ?_; simp only [Act.put, List.setIfInBounds_toArray, List.set_cons_zero, List.set_cons_succ]) | (refine segH_load _ _ _ _ _ _ _ _ _ (hid_get HOPS 19 _ rfl) (wanted_some (hid_get HOPS 12 _ rfl) rfl rfl rfl) rfl (fun _ _ _ _ h => h) (fun y hy => by go_simp; try with_reducible rfl) ?_; simp only [Act.put, List.setIfInBounds_toArray, List.set_cons_zero, List.set_cons_succ]) | (refine segH_pass _ _ _ _ _ _ (hid_get HOPS 19 _ rfl) (wanted_gone (hid_get HOPS 12 _ rfl) rfl rfl) (fun _ _ _ _ h => h) ?_; simp only [Act.put, List.setIfInBounds_toArray, List.set_cons_zero, List.set_cons_succ])
                      first | (refine segH_pass _ _ _ _ _ _ (hid_get HOPS 20 _ rfl) (wanted_some (hid_get HOPS 12 _ rfl) rfl rfl rfl) (fun _ _ _ _ h => h) ?_; simp only [Act.put, List.setIfInBounds_toArray, List.set_cons_zero, List.set_cons_succ]) | (refine segH_pure _ _ _ _ _ _ (hid_get HOPS 20 _ rfl) rfl (wanted_some (hid_get HOPS 12 _ rfl) rfl rfl rfl) (fun _ _ _ _ h => h) ?_; intro K hK; go_big_quiet_op; go_big_quiet_on) | (refine segH_pass _ _ _ _ _ _ (hid_get HOPS 20 _ rfl) (wanted_gone (hid_get HOPS 12 _ rfl) rfl rfl) (fun _ _ _ _ h => h) ?_; simp only [Act.put, List.setIfInBounds_toArray, List.set_cons_zero, List.set_cons_succ])
                      first | (refine segH_pass _ _ _ _ _ _ (hid_get HOPS 21 _ rfl) (wanted_some (hid_get HOPS 20 _ rfl) rfl rfl rfl) (fun _ _ _ _ h => h) ?_; simp only [Act.put, List.setIfInBounds_toArray, List.set_cons_zero, List.set_cons_succ]) | (refine segH_pure _ _ _ _ _ _ (hid_get HOPS 21 _ rfl) rfl (wanted_some (hid_get HOPS 20 _ rfl) rfl rfl rfl) (fun _ _ _ _ h => h) ?_; intro K hK; go_big_quiet_op; go_big_quiet_on) | (refine segH_pass _ _ _ _ _ _ (hid_get HOPS 21 _ rfl) (wanted_gone (hid_get HOPS 20 _ rfl) rfl rfl) (fun _ _ _ _ h => h) ?_; simp only [Act.put, List.setIfInBounds_toArray, List.set_cons_zero, List.set_cons_succ])
                      first | (refine segH_pass _ _ _ _ _ _ (hid_get HOPS 22 _ rfl) (wanted_some (hid_get HOPS 20 _ rfl) rfl rfl rfl) (fun _ _ _ _ h => h) ?_; simp only [Act.put, List.setIfInBounds_toArray, List.set_cons_zero, List.set_cons_succ]) | (refine segH_pure _ _ _ _ _ _ (hid_get HOPS 22 _ rfl) rfl (wanted_some (hid_get HOPS 20 _ rfl) rfl rfl rfl) (fun _ _ _ _ h => h) ?_; intro K hK; go_big_quiet_op; go_big_quiet_on) | (refine segH_pass _ _ _ _ _ _ (hid_get HOPS 22 _ rfl) (wanted_gone (hid_get HOPS 20 _ rfl) rfl rfl) (fun _ _ _ _ h => h) ?_; simp only [Act.put, List.setIfInBounds_toArray, List.set_cons_zero, List.set_cons_succ])
                      first | (refine segH_pass _ _ _ _ _ _ (hid_get HOPS 23 _ rfl) (wanted_some (hid_get HOPS 20 _ rfl) rfl rfl rfl) (fun _ _ _ _ h => h) ?_; simp only [Act.put, List.setIfInBounds_toArray, List.set_cons_zero, List.set_cons_succ]) | (refine segH_pure _ _ _ _ _ _ (hid_get HOPS 23 _ rfl) rfl (wanted_some (hid_get HOPS 20 _ rfl) rfl rfl rfl) (fun _ _ _ _ h => h) ?_; intro K hK; go_big_quiet_op; go_big_quiet_on) | (refine segH_pass _ _ _ _ _ _ (hid_get HOPS 23 _ rfl) (wanted_gone (hid_get HOPS 20 _ rfl) rfl rfl) (fun _ _ _ _ h => h) ?_; simp only [Act.put, List.setIfInBounds_toArray, List.set_cons_zero, List.set_cons_succ])
                      first | (refine segH_pass _ _ _ _ _ _ (hid_get HOPS 24 _ rfl) (wanted_some (hid_get HOPS 20 _ rfl) rfl rfl rfl) (fun _ _ _ _ h => h) ?_; simp only [Act.put, List.setIfInBounds_toArray, List.set_cons_zero, List.set_cons_succ]) | (refine segH_load _ _ _ _ _ _ _ _ _ (hid_get HOPS 24 _ rfl) (wanted_some (hid_get HOPS 20 _ rfl) rfl rfl rfl) rfl (fun _ _ _ _ h => h) (fun y hy => by go_simp; try with_reducible rfl) ?_; simp only [Act.put, List.setIfInBounds_toArray, List.set_cons_zero, List.set_cons_succ]) | (refine segH_pass _ _ _ _ _ _ (hid_get HOPS 24 _ rfl) (wanted_gone (hid_get HOPS 20 _ rfl) rfl rfl) (fun _ _ _ _ h => h) ?_; simp only [Act.put, List.setIfInBounds_toArray, List.set_cons_zero, List.set_cons_succ])
                      first | (refine segH_pass _ _ _ _ _ _ (hid_get HOPS 25 _ rfl) (wanted_some (hid_get HOPS 20 _ rfl) rfl rfl rfl) (fun _ _ _ _ h => h) ?_; simp only [Act.put, List.setIfInBounds_toArray, List.set_cons_zero, List.set_cons_succ]) | (refine segH_pure _ _ _ _ _ _ (hid_get HOPS 25 _ rfl) rfl (wanted_some (hid_get HOPS 20 _ rfl) rfl rfl rfl) (fun _ _ _ _ h => h) ?_; intro K hK; go_big_quiet_op; go_big_quiet_on) | (refine segH_pass _ _ _ _ _ _ (hid_get HOPS 25 _ rfl) (wanted_gone (hid_get HOPS 20 _ rfl) rfl rfl) (fun _ _ _ _ h => h) ?_; simp only [Act.put, List.setIfInBounds_toArray, List.set_cons_zero, List.set_cons_succ])
                      first | (refine segH_pass _ _ _ _ _ _ (hid_get HOPS 26 _ rfl) (wanted_some (hid_get HOPS 20 _ rfl) rfl rfl rfl) (fun _ _ _ _ h => h) ?_; simp only [Act.put, List.setIfInBounds_toArray, List.set_cons_zero, List.set_cons_succ]) | (refine segH_pure _ _ _ _ _ _ (hid_get HOPS 26 _ rfl) rfl (wanted_some (hid_get HOPS 20 _ rfl) rfl rfl rfl) (fun _ _ _ _ h => h) ?_; intro K hK; go_big_quiet_op; go_big_quiet_on) | (refine segH_pass _ _ _ _ _ _ (hid_get HOPS 26 _ rfl) (wanted_gone (hid_get HOPS 20 _ rfl) rfl rfl) (fun _ _ _ _ h => h) ?_; simp only [Act.put, List.setIfInBounds_toArray, List.set_cons_zero, List.set_cons_succ])
                      first | (refine segH_pass _ _ _ _ _ _ (hid_get HOPS 27 _ rfl) (wanted_some (hid_get HOPS 20 _ rfl) rfl rfl rfl) (fun _ _ _ _ h => h) ?_; simp only [Act.put, List.setIfInBounds_toArray, List.set_cons_zero, List.set_cons_succ]) | (refine segH_load _ _ _ _ _ _ _ _ _ (hid_get HOPS 27 _ rfl) (wanted_some (hid_get HOPS 20 _ rfl) rfl rfl rfl) rfl (fun _ _ _ _ h => h) (fun y hy => by go_simp; try with_reducible rfl) ?_; simp only [Act.put, List.setIfInBounds_toArray, List.set_cons_zero, List.set_cons_succ]) | (refine segH_pass _ _ _ _ _ _ (hid_get HOPS 27 _ rfl) (wanted_gone (hid_get HOPS 20 _ rfl) rfl rfl) (fun _ _ _ _ h => h) ?_; simp only [Act.put, List.setIfInBounds_toArray, List.set_cons_zero, List.set_cons_succ])
                      first | (refine segH_pass _ _ _ _ _ _ (hid_get HOPS 28 _ rfl) (wanted_some (hid_get HOPS 12 _ rfl) rfl rfl rfl) (fun _ _ _ _ h => h) ?_; simp only [Act.put, List.setIfInBounds_toArray, List.set_cons_zero, List.set_cons_succ]) | (refine segH_pure _ _ _ _ _ _ (hid_get HOPS 28 _ rfl) rfl (wanted_some (hid_get HOPS 12 _ rfl) rfl rfl rfl) (fun _ _ _ _ h => h) ?_; intro K hK; go_big_quiet_op; go_big_quiet_on) | (refine segH_pass _ _ _ _ _ _ (hid_get HOPS 28 _ rfl) (wanted_gone (hid_get HOPS 12 _ rfl) rfl rfl) (fun _ _ _ _ h => h) ?_; simp only [Act.put, List.setIfInBounds_toArray, List.set_cons_zero, List.set_cons_succ])
                      (refine segH_pure _ _ _ _ _ _ (hid_get HOPS 29 _ rfl) rfl wanted_none (fun _ _ _ _ h => h) ?_; intro K hK; go_big_quiet_op; go_big_quiet_on)
                      (refine segH_pure _ _ _ _ _ _ (hid_get HOPS 30 _ rfl) rfl wanted_none (fun _ _ _ _ h => h) ?_; intro K hK; go_big_quiet_op; go_big_quiet_on)
                      refine segH_turns _ _ _ _ _ _ (hid_get HOPS 31 _ rfl) wanted_none (fun K hK => ?_)
                      go_big_op
                      refine hK _ _ (fun _ => True) trivial ?_
                      clear hK
                      refine seg_done ?_
                      clear HOPS
                      clear y0 y1 y2 y3 y4 p0 p2 f0
                      go_wp2
                      go_roundw
                      case rel => exact ⟨j + 1, by go_num, hlj, G2, hx2⟩
                      case measure => simp [intOf]; omega
                    · simp only [Bool.false_or, Bool.true_and] at G2 hx2
                      go_upto_region 29 with fail
                      refine wp_region_planH (.reads 0 (.reads 1 (.reads 2 (.reads 3 (.reads 4 (.reads 5 (.reads 6 (.reads 7 (.reads 8 (.reads 9 (.reads 10 (.reads 11 (.reads 12 (.reads 13 (.reads 14 (.reads 15 (.reads 16 (.reads 17 (.reads 18 (.reads 19 (.reads 20 (.reads 21 (.reads 22 (.reads 23 (.reads 24 (.reads 25 (.reads 26 (.reads 27 (.reads 28 (.reads 29 (.reads 30 (.turns 31 (.done))))))))))))))))))))))))))))))))) (by kernel_rfl) (by kernel_rfl) (fun x => Ext wo x) (ext_drewN wo 1) (fun ops HOPS => ?_)
                      (refine segH_pure _ _ _ _ _ _ (hid_get HOPS 0 _ rfl) rfl wanted_none (fun _ _ _ _ h => h) ?_; intro K hK; go_big_quiet_op; go_big_quiet_on)
                      (refine segH_pure _ _ _ _ _ _ (hid_get HOPS 1 _ rfl) rfl wanted_none (fun _ _ _ _ h => h) ?_; intro K hK; go_big_quiet_op; go_big_quiet_on)
                      (refine segH_pure _ _ _ _ _ _ (hid_get HOPS 2 _ rfl) rfl wanted_none (fun _ _ _ _ h => h) ?_; intro K hK; go_big_quiet_op; go_big_quiet_on)
                      (refine segH_load _ _ _ _ _ _ _ _ _ (hid_get HOPS 3 _ rfl) wanted_none rfl (fun _ _ _ _ h => h) (fun y hy => by go_simp; try with_reducible rfl) ?_; simp only [Act.put, List.setIfInBounds_toArray, List.set_cons_zero, List.set_cons_succ])
                      (refine segH_pure _ _ _ _ _ _ (hid_get HOPS 4 _ rfl) rfl wanted_none (fun _ _ _ _ h => h) ?_; intro K hK; go_big_quiet_op; go_big_quiet_on)
                      (refine segH_pure _ _ _ _ _ _ (hid_get HOPS 5 _ rfl) rfl wanted_none (fun _ _ _ _ h => h) ?_; intro K hK; go_big_quiet_op; go_big_quiet_on)
                      (refine segH_pure _ _ _ _ _ _ (hid_get HOPS 6 _ rfl) rfl wanted_none (fun _ _ _ _ h => h) ?_; intro K hK; go_big_quiet_op; go_big_quiet_on)
                      (refine segH_pure _ _ _ _ _ _ (hid_get HOPS 7 _ rfl) rfl wanted_none (fun _ _ _ _ h => h) ?_; intro K hK; go_big_quiet_op; go_big_quiet_on)
                      (refine segH_load _ _ _ _ _ _ _ _ _ (hid_get HOPS 8 _ rfl) wanted_none rfl (fun _ _ _ _ h => h) (fun y hy => by go_simp; try with_reducible rfl) ?_; simp only [Act.put, List.setIfInBounds_toArray, List.set_cons_zero, List.set_cons_succ])
                      (refine segH_pure _ _ _ _ _ _ (hid_get HOPS 9 _ rfl) rfl wanted_none (fun _ _ _ _ h => h) ?_; intro K hK; go_big_quiet_op; go_big_quiet_on)
                      (refine segH_pure _ _ _ _ _ _ (hid_get HOPS 10 _ rfl) rfl wanted_none (fun _ _ _ _ h => h) ?_; intro K hK; go_big_quiet_op; go_big_quiet_on)
                      (refine segH_load _ _ _ _ _ _ _ _ _ (hid_get HOPS 11 _ rfl) wanted_none rfl (fun _ _ _ _ h => h) (fun y hy => by go_simp; try with_reducible rfl) ?_; simp only [Act.put, List.setIfInBounds_toArray, List.set_cons_zero, List.set_cons_succ])
                      (refine segH_pure _ _ _ _ _ _ (hid_get HOPS 12 _ rfl) rfl wanted_none (fun _ _ _ _ h => h) ?_; intro K hK; go_big_quiet_op; go_big_quiet_on)
                      first | (refine segH_pass _ _ _ _ _ _ (hid_get HOPS 13 _ rfl) (wanted_some (hid_get HOPS 12 _ rfl) rfl rfl rfl) (fun _ _ _ _ h => h) ?_; simp only [Act.put, List.setIfInBounds_toArray, List.set_cons_zero, List.set_cons_succ]) | (refine segH_pure _ _ _ _ _ _ (hid_get HOPS 13 _ rfl) rfl (wanted_some (hid_get HOPS 12 _ rfl) rfl rfl rfl) (fun _ _ _ _ h => h) ?_; intro K hK; go_big_quiet_op; go_big_quiet_on) | (refine segH_pass _ _ _ _ _ _ (hid_get HOPS 13 _ rfl) (wanted_gone (hid_get HOPS 12 _ rfl) rfl rfl) (fun _ _ _ _ h => h) ?_; simp only [Act.put, List.setIfInBounds_toArray, List.set_cons_zero, List.set_cons_succ])
                      first | (refine segH_pass _ _ _ _ _ _ (hid_get HOPS 14 _ rfl) (wanted_some (hid_get HOPS 12 _ rfl) rfl rfl rfl) (fun _ _ _ _ h => h) ?_; simp only [Act.put, List.setIfInBounds_toArray, List.set_cons_zero, List.set_cons_succ]) | (refine segH_pure _ _ _ _ _ _ (hid_get HOPS 14 _ rfl) rfl (wanted_some (hid_get HOPS 12 _ rfl) rfl rfl rfl) (fun _ _ _ _ h => h) ?_; intro K hK; go_big_quiet_op; go_big_quiet_on) | (refine segH_pass _ _ _ _ _ _ (hid_get HOPS 14 _ rfl) (wanted_gone (hid_get HOPS 12 _ rfl) rfl rfl) (fun _ _ _ _ h => h) ?_; simp only [Act.put, List.setIfInBounds_toArray, List.set_cons_zero, List.set_cons_succ])
                      first | (refine segH_pass _ _ _ _ _ _ (hid_get HOPS 15 _ rfl) (wanted_some (hid_get HOPS 12 _ rfl) rfl rfl rfl) (fun _ _ _ _ h => h) ?_; simp only [Act.put, List.setIfInBounds_toArray, List.set_cons_zero, List.set_cons_succ]) | (refine segH_pure _ _ _ _ _ _ (hid_get HOPS 15 _ rfl) rfl (wanted_some (hid_get HOPS 12 _ rfl) rfl rfl rfl) (fun _ _ _ _ h => h) ?_; intro K hK; go_big_quiet_op; go_big_quiet_on) | (refine segH_pass _ _ _ _ _ _ (hid_get HOPS 15 _ rfl) (wanted_gone (hid_get HOPS 12 _ rfl) rfl rfl) (fun _ _ _ _ h => h) ?_; simp only [Act.put, List.setIfInBounds_toArray, List.set_cons_zero, List.set_cons_succ])
                      first | (refine segH_pass _ _ _ _ _ _ (hid_get HOPS 16 _ rfl) (wanted_some (hid_get HOPS 12 _ rfl) rfl rfl rfl) (fun _ _ _ _ h => h) ?_; simp only [Act.put, List.setIfInBounds_toArray, List.set_cons_zero, List.set_cons_succ]) | (refine segH_load _ _ _ _ _ _ _ _ _ (hid_get HOPS 16 _ rfl) (wanted_some (hid_get HOPS 12 _ rfl) rfl rfl rfl) rfl (fun _ _ _ _ h => h) (fun y hy => by go_simp; try with_reducible rfl) ?_; simp only [Act.put, List.setIfInBounds_toArray, List.set_cons_zero, List.set_cons_succ]) | (refine segH_pass _ _ _ _ _ _ (hid_get HOPS 16 _ rfl) (wanted_gone (hid_get HOPS 12 _ rfl) rfl rfl) (fun _ _ _ _ h => h) ?_; simp only [Act.put, List.setIfInBounds_toArray, List.set_cons_zero, List.set_cons_succ])
                      first | (refine segH_pass _ _ _ _ _ _ (hid_get HOPS 17 _ rfl) (wanted_some (hid_get HOPS 12 _ rfl) rfl rfl rfl) (fun _ _ _ _ h => h) ?_; simp only [Act.put, List.setIfInBounds_toArray, List.set_cons_zero, List.set_cons_succ]) | (refine segH_pure _ _ _ _ _ _ (hid_get HOPS 17 _ rfl) rfl (wanted_some (hid_get HOPS 12 _ rfl) rfl rfl rfl) (fun _ _ _ _ h => h) ?_; intro K hK; go_big_quiet_op; go_big_quiet_on) | (refine segH_pass _ _ _ _ _ _ (hid_get HOPS 17 _ rfl) (wanted_gone (hid_get HOPS 12 _ rfl) rfl rfl) (fun _ _ _ _ h => h) ?_; simp only [Act.put, List.setIfInBounds_toArray, List.set_cons_zero, List.set_cons_succ])
                      first | (refine segH_pass _ _ _ _ _ _ (hid_get HOPS 18 _ rfl) (wanted_some (hid_get HOPS 12 _ rfl) rfl rfl rfl) (fun _ _ _ _ h => h) ?_; simp only [Act.put, List.setIfInBounds_toArray, List.set_cons_zero, List.set_cons_succ]) | (refine segH_pure _ _ _ _ _ _ (hid_get HOPS 18 _ rfl) rfl (wanted_some (hid_get HOPS 12 _ rfl) rfl rfl rfl) (fun _ _ _ _ h => h) ?_; intro K hK; go_big_quiet_op; go_big_quiet_on) | (refine segH_pass _ _ _ _ _ _ (hid_get HOPS 18 _ rfl) (wanted_gone (hid_get HOPS 12 _ rfl) rfl rfl) (fun _ _ _ _ h => h) ?_; simp only [Act.put, List.setIfInBounds_toArray, List.set_cons_zero, List.set_cons_succ])
                      first | (refine segH_pass _ _ _ _ _ _ (hid_get HOPS 19 _ rfl) (wanted_some (hid_get HOPS 12 _ rfl) rfl rfl rfl) (fun _ _ _ _ h => h) ?_; simp only [Act.put, List.setIfInBounds_toArray, List.set_cons_zero, List.set_cons_succ]) | (refine segH_load _ _ _ _ _ _ _ _ _ (hid_get HOPS 19 _ rfl) (wanted_some (hid_get HOPS 12 _ rfl) rfl rfl rfl) rfl (fun _ _ _ _ h => h) (fun y hy => by go_simp; try with_reducible rfl) ?_; simp only [Act.put, List.setIfInBounds_toArray, List.set_cons_zero, List.set_cons_succ]) | (refine segH_pass _ _ _ _ _ _ (hid_get HOPS 19 _ rfl) (wanted_gone (hid_get HOPS 12 _ rfl) rfl rfl) (fun _ _ _ _ h => h) ?_; simp only [Act.put, List.setIfInBounds_toArray, List.set_cons_zero, List.set_cons_succ])
                      first | (refine segH_pass _ _ _ _ _ _ (hid_get HOPS 20 _ rfl) (wanted_some (hid_get HOPS 12 _ rfl) rfl rfl rfl) (fun _ _ _ _ h => h) ?_; simp only [Act.put, List.setIfInBounds_toArray, List.set_cons_zero, List.set_cons_succ]) | (refine segH_pure _ _ _ _ _ _ (hid_get HOPS 20 _ rfl) rfl (wanted_some (hid_get HOPS 12 _ rfl) rfl rfl rfl) (fun _ _ _ _ h => h) ?_; intro K hK; go_big_quiet_op; go_big_quiet_on) | (refine segH_pass _ _ _ _ _ _ (hid_get HOPS 20 _ rfl) (wanted_gone (hid_get HOPS 12 _ rfl) rfl rfl) (fun _ _ _ _ h => h) ?_; simp only [Act.put, List.setIfInBounds_toArray, List.set_cons_zero, List.set_cons_succ])
                      first | (refine segH_pass _ _ _ _ _ _ (hid_get HOPS 21 _ rfl) (wanted_some (hid_get HOPS 20 _ rfl) rfl rfl rfl) (fun _ _ _ _ h => h) ?_; simp only [Act.put, List.setIfInBounds_toArray, List.set_cons_zero, List.set_cons_succ]) | (refine segH_pure _ _ _ _ _ _ (hid_get HOPS 21 _ rfl) rfl (wanted_some (hid_get HOPS 20 _ rfl) rfl rfl rfl) (fun _ _ _ _ h => h) ?_; intro K hK; go_big_quiet_op; go_big_quiet_on) | (refine segH_pass _ _ _ _ _ _ (hid_get HOPS 21 _ rfl) (wanted_gone (hid_get HOPS 20 _ rfl) rfl rfl) (fun _ _ _ _ h => h) ?_; simp only [Act.put, List.setIfInBounds_toArray, List.set_cons_zero, List.set_cons_succ])
                      first | (refine segH_pass _ _ _ _ _ _ (hid_get HOPS 22 _ rfl) (wanted_some (hid_get HOPS 20 _ rfl) rfl rfl rfl) (fun _ _ _ _ h => h) ?_; simp only [Act.put, List.setIfInBounds_toArray, List.set_cons_zero, List.set_cons_succ]) | (refine segH_pure _ _ _ _ _ _ (hid_get HOPS 22 _ rfl) rfl (wanted_some (hid_get HOPS 20 _ rfl) rfl rfl rfl) (fun _ _ _ _ h => h) ?_; intro K hK; go_big_quiet_op; go_big_quiet_on) | (refine segH_pass _ _ _ _ _ _ (hid_get HOPS 22 _ rfl) (wanted_gone (hid_get HOPS 20 _ rfl) rfl rfl) (fun _ _ _ _ h => h) ?_; simp only [Act.put, List.setIfInBounds_toArray, List.set_cons_zero, List.set_cons_succ])
                      first | (refine segH_pass _ _ _ _ _ _ (hid_get HOPS 23 _ rfl) (wanted_some (hid_get HOPS 20 _ rfl) rfl rfl rfl) (fun _ _ _ _ h => h) ?_; simp only [Act.put, List.setIfInBounds_toArray, List.set_cons_zero, List.set_cons_succ]) | (refine segH_pure _ _ _ _ _ _ (hid_get HOPS 23 _ rfl) rfl (wanted_some (hid_get HOPS 20 _ rfl) rfl rfl rfl) (fun _ _ _ _ h => h) ?_; intro K hK; go_big_quiet_op; go_big_quiet_on) | (refine segH_pass _ _ _ _ _ _ (hid_get HOPS 23 _ rfl) (wanted_gone (hid_get HOPS 20 _ rfl) rfl rfl) (fun _ _ _ _ h => h) ?_; simp only [Act.put, List.setIfInBounds_toArray, List.set_cons_zero, List.set_cons_succ])
                      first | (refine segH_pass _ _ _ _ _ _ (hid_get HOPS 24 _ rfl) (wanted_some (hid_get HOPS 20 _ rfl) rfl rfl rfl) (fun _ _ _ _ h => h) ?_; simp only [Act.put, List.setIfInBounds_toArray, List.set_cons_zero, List.set_cons_succ]) | (refine segH_load _ _ _ _ _ _ _ _ _ (hid_get HOPS 24 _ rfl) (wanted_some (hid_get HOPS 20 _ rfl) rfl rfl rfl) rfl (fun _ _ _ _ h => h) (fun y hy => by go_simp; try with_reducible rfl) ?_; simp only [Act.put, List.setIfInBounds_toArray, List.set_cons_zero, List.set_cons_succ]) | (refine segH_pass _ _ _ _ _ _ (hid_get HOPS 24 _ rfl) (wanted_gone (hid_get HOPS 20 _ rfl) rfl rfl) (fun _ _ _ _ h => h) ?_; simp only [Act.put, List.setIfInBounds_toArray, List.set_cons_zero, List.set_cons_succ])
                      first | (refine segH_pass _ _ _ _ _ _ (hid_get HOPS 25 _ rfl) (wanted_some (hid_get HOPS 20 _ rfl) rfl rfl rfl) (fun _ _ _ _ h => h) ?_; simp only [Act.put, List.setIfInBounds_toArray, List.set_cons_zero, List.set_cons_succ]) | (refine segH_pure _ _ _ _ _ _ (hid_get HOPS 25 _ rfl) rfl (wanted_some (hid_get HOPS 20 _ rfl) rfl rfl rfl) (fun _ _ _ _ h => h) ?_; intro K hK; go_big_quiet_op; go_big_quiet_on) | (refine segH_pass _ _ _ _ _ _ (hid_get HOPS 25 _ rfl) (wanted_gone (hid_get HOPS 20 _ rfl) rfl rfl) (fun _ _ _ _ h => h) ?_; simp only [Act.put, List.setIfInBounds_toArray, List.set_cons_zero, List.set_cons_succ])
                      first | (refine segH_pass _ _ _ _ _ _ (hid_get HOPS 26 _ rfl) (wanted_some (hid_get HOPS 20 _ rfl) rfl rfl rfl) (fun _ _ _ _ h => h) ?_; simp only [Act.put, List.setIfInBounds_toArray, List.set_cons_zero, List.set_cons_succ]) | (refine segH_pure _ _ _ _ _ _ (hid_get HOPS 26 _ rfl) rfl (wanted_some (hid_get HOPS 20 _ rfl) rfl rfl rfl) (fun _ _ _ _ h => h) ?_; intro K hK; go_big_quiet_op; go_big_quiet_on) | (refine segH_pass _ _ _ _ _ _ (hid_get HOPS 26 _ rfl) (wanted_gone (hid_get HOPS 20 _ rfl) rfl rfl) (fun _ _ _ _ h => h) ?_; simp only [Act.put, List.setIfInBounds_toArray, List.set_cons_zero, List.set_cons_succ])
                      first | (refine segH_pass _ _ _ _ _ _ (hid_get HOPS 27 _ rfl) (wanted_some (hid_get HOPS 20 _ rfl) rfl rfl rfl) (fun _ _ _ _ h => h) ?_; simp only [Act.put, List.setIfInBounds_toArray, List.set_cons_zero, List.set_cons_succ]) | (refine segH_load _ _ _ _ _ _ _ _ _ (hid_get HOPS 27 _ rfl) (wanted_some (hid_get HOPS 20 _ rfl) rfl rfl rfl) rfl (fun _ _ _ _ h => h) (fun y hy => by go_simp; try with_reducible rfl) ?_; simp only [Act.put, List.setIfInBounds_toArray, List.set_cons_zero, List.set_cons_succ]) | (refine segH_pass _ _ _ _ _ _ (hid_get HOPS 27 _ rfl) (wanted_gone (hid_get HOPS 20 _ rfl) rfl rfl) (fun _ _ _ _ h => h) ?_; simp only [Act.put, List.setIfInBounds_toArray, List.set_cons_zero, List.set_cons_succ])
                      first | (refine segH_pass _ _ _ _ _ _ (hid_get HOPS 28 _ rfl) (wanted_some (hid_get HOPS 12 _ rfl) rfl rfl rfl) (fun _ _ _ _ h => h) ?_; simp only [Act.put, List.setIfInBounds_toArray, List.set_cons_zero, List.set_cons_succ]) | (refine segH_pure _ _ _ _ _ _ (hid_get HOPS 28 _ rfl) rfl (wanted_some (hid_get HOPS 12 _ rfl) rfl rfl rfl) (fun _ _ _ _ h => h) ?_; intro K hK; go_big_quiet_op; go_big_quiet_on) | (refine segH_pass _ _ _ _ _ _ (hid_get HOPS 28 _ rfl) (wanted_gone (hid_get HOPS 12 _ rfl) rfl rfl) (fun _ _ _ _ h => h) ?_; simp only [Act.put, List.setIfInBounds_toArray, List.set_cons_zero, List.set_cons_succ])
                      (refine segH_pure _ _ _ _ _ _ (hid_get HOPS 29 _ rfl) rfl wanted_none (fun _ _ _ _ h => h) ?_; intro K hK; go_big_quiet_op; go_big_quiet_on)
                      (refine segH_pure _ _ _ _ _ _ (hid_get HOPS 30 _ rfl) rfl wanted_none (fun _ _ _ _ h => h) ?_; intro K hK; go_big_quiet_op; go_big_quiet_on)
                      refine segH_turns _ _ _ _ _ _ (hid_get HOPS 31 _ rfl) wanted_none (fun K hK => ?_)
                      go_big_op
                      refine hK _ _ (fun _ => True) trivial ?_
                      clear hK
                      refine seg_done ?_
                      clear HOPS
                      clear y0 y1 y2 y3 y4 p0 p2 f0
                      go_wp2
                      go_roundw
                      case rel => exact ⟨j + 1, by go_num, hlj, G2, hx2⟩
                      case measure => simp [intOf]; omega
                  · simp only [Bool.true_or] at G2 hx2
                    go_upto_region 29 with fail
                    refine wp_region_planH (.reads 0 (.reads 1 (.reads 2 (.reads 3 (.reads 4 (.reads 5 (.reads 6 (.reads 7 (.reads 8 (.reads 9 (.reads 10 (.reads 11 (.reads 12 (.reads 13 (.reads 14 (.reads 15 (.reads 16 (.reads 17 (.reads 18 (.reads 19 (.reads 20 (.reads 21 (.reads 22 (.reads 23 (.reads 24 (.reads 25 (.reads 26 (.reads 27 (.reads 28 (.reads 29 (.reads 30 (.turns 31 (.done))))))))))))))))))))))))))))))))) (by kernel_rfl) (by kernel_rfl) (fun x => Ext wo x) (ext_drewN wo 1) (fun ops HOPS => ?_)
                    (refine segH_pure _ _ _ _ _ _ (hid_get HOPS 0 _ rfl) rfl wanted_none (fun _ _ _ _ h => h) ?_; intro K hK; go_big_quiet_op; go_big_quiet_on)
                    (refine segH_pure _ _ _ _ _ _ (hid_get HOPS 1 _ rfl) rfl wanted_none (fun _ _ _ _ h => h) ?_; intro K hK; go_big_quiet_op; go_big_quiet_on)
                    (refine segH_pure _ _ _ _ _ _ (hid_get HOPS 2 _ rfl) rfl wanted_none (fun _ _ _ _ h => h) ?_; intro K hK; go_big_quiet_op; go_big_quiet_on)
                    (refine segH_load _ _ _ _ _ _ _ _ _ (hid_get HOPS 3 _ rfl) wanted_none rfl (fun _ _ _ _ h => h) (fun y hy => by go_simp; try with_reducible rfl) ?_; simp only [Act.put, List.setIfInBounds_toArray, List.set_cons_zero, List.set_cons_succ])
                    (refine segH_pure _ _ _ _ _ _ (hid_get HOPS 4 _ rfl) rfl wanted_none (fun _ _ _ _ h => h) ?_; intro K hK; go_big_quiet_op; go_big_quiet_on)
                    (refine segH_pure _ _ _ _ _ _ (hid_get HOPS 5 _ rfl) rfl wanted_none (fun _ _ _ _ h => h) ?_; intro K hK; go_big_quiet_op; go_big_quiet_on)
                    (refine segH_pure _ _ _ _ _ _ (hid_get HOPS 6 _ rfl) rfl wanted_none (fun _ _ _ _ h => h) ?_; intro K hK; go_big_quiet_op; go_big_quiet_on)
                    (refine segH_pure _ _ _ _ _ _ (hid_get HOPS 7 _ rfl) rfl wanted_none (fun _ _ _ _ h => h) ?_; intro K hK; go_big_quiet_op; go_big_quiet_on)
                    (refine segH_load _ _ _ _ _ _ _ _ _ (hid_get HOPS 8 _ rfl) wanted_none rfl (fun _ _ _ _ h => h) (fun y hy => by go_simp; try with_reducible rfl) ?_; simp only [Act.put, List.setIfInBounds_toArray, List.set_cons_zero, List.set_cons_succ])
                    (refine segH_pure _ _ _ _ _ _ (hid_get HOPS 9 _ rfl) rfl wanted_none (fun _ _ _ _ h => h) ?_; intro K hK; go_big_quiet_op; go_big_quiet_on)
                    (refine segH_pure _ _ _ _ _ _ (hid_get HOPS 10 _ rfl) rfl wanted_none (fun _ _ _ _ h => h) ?_; intro K hK; go_big_quiet_op; go_big_quiet_on)
                    (refine segH_load _ _ _ _ _ _ _ _ _ (hid_get HOPS 11 _ rfl) wanted_none rfl (fun _ _ _ _ h => h) (fun y hy => by go_simp; try with_reducible rfl) ?_; simp only [Act.put, List.setIfInBounds_toArray, List.set_cons_zero, List.set_cons_succ])
                    (refine segH_pure _ _ _ _ _ _ (hid_get HOPS 12 _ rfl) rfl wanted_none (fun _ _ _ _ h => h) ?_; intro K hK; go_big_quiet_op; go_big_quiet_on)
                    first | (refine segH_pass _ _ _ _ _ _ (hid_get HOPS 13 _ rfl) (wanted_some (hid_get HOPS 12 _ rfl) rfl rfl rfl) (fun _ _ _ _ h => h) ?_; simp only [Act.put, List.setIfInBounds_toArray, List.set_cons_zero, List.set_cons_succ]) | (refine segH_pure _ _ _ _ _ _ (hid_get HOPS 13 _ rfl) rfl (wanted_some (hid_get HOPS 12 _ rfl) rfl rfl rfl) (fun _ _ _ _ h => h) ?_; intro K hK; go_big_quiet_op; go_big_quiet_on) | (refine segH_pass _ _ _ _ _ _ (hid_get HOPS 13 _ rfl) (wanted_gone (hid_get HOPS 12 _ rfl) rfl rfl) (fun _ _ _ _ h => h) ?_; simp only [Act.put, List.setIfInBounds_toArray, List.set_cons_zero, List.set_cons_succ])
                    first | (refine segH_pass _ _ _ _ _ _ (hid_get HOPS 14 _ rfl) (wanted_some (hid_get HOPS 12 _ rfl) rfl rfl rfl) (fun _ _ _ _ h => h) ?_; simp only [Act.put, List.setIfInBounds_toArray, List.set_cons_zero, List.set_cons_succ]) | (refine segH_pure _ _ _ _ _ _ (hid_get HOPS 14 _ rfl) rfl (wanted_some (hid_get HOPS 12 _ rfl) rfl rfl rfl) (fun _ _ _ _ h => h) ?_; intro K hK; go_big_quiet_op; go_big_quiet_on) | (refine segH_pass _ _ _ _ _ _ (hid_get HOPS 14 _ rfl) (wanted_gone (hid_get HOPS 12 _ rfl) rfl rfl) (fun _ _ _ _ h => h) ?_; simp only [Act.put, List.setIfInBounds_toArray, List.set_cons_zero, List.set_cons_succ])
                    first | (refine segH_pass _ _ _ _ _ _ (hid_get HOPS 15 _ rfl) (wanted_some (hid_get HOPS 12 _ rfl) rfl rfl rfl) (fun _ _ _ _ h => h) ?_; simp only [Act.put, List.setIfInBounds_toArray, List.set_cons_zero, List.set_cons_succ]) | (refine segH_pure _ _ _ _ _ _ (hid_get HOPS 15 _ rfl) rfl (wanted_some (hid_get HOPS 12 _ rfl) rfl rfl rfl) (fun _ _ _ _ h => h) ?_; intro K hK; go_big_quiet_op; go_big_quiet_on) | (refine segH_pass _ _ _ _ _ _ (hid_get HOPS 15 _ rfl) (wanted_gone (hid_get HOPS 12 _ rfl) rfl rfl) (fun _ _ _ _ h => h) ?_; simp only [Act.put, List.setIfInBounds_toArray, List.set_cons_zero, List.set_cons_succ])
                    first | (refine segH_pass _ _ _ _ _ _ (hid_get HOPS 16 _ rfl) (wanted_some (hid_get HOPS 12 _ rfl) rfl rfl rfl) (fun _ _ _ _ h => h) ?_; simp only [Act.put, List.setIfInBounds_toArray, List.set_cons_zero, List.set_cons_succ]) | (refine segH_load _ _ _ _ _ _ _ _ _ (hid_get HOPS 16 _ rfl) (wanted_some (hid_get HOPS 12 _ rfl) rfl rfl rfl) rfl (fun _ _ _ _ h => h) (fun y hy => by go_simp; try with_reducible rfl) ?_; simp only [Act.put, List.setIfInBounds_toArray, List.set_cons_zero, List.set_cons_succ]) | (refine segH_pass _ _ _ _ _ _ (hid_get HOPS 16 _ rfl) (wanted_gone (hid_get HOPS 12 _ rfl) rfl rfl) (fun _ _ _ _ h => h) ?_; simp only [Act.put, List.setIfInBounds_toArray, List.set_cons_zero, List.set_cons_succ])
                    first | (refine segH_pass _ _ _ _ _ _ (hid_get HOPS 17 _ rfl) (wanted_some (hid_get HOPS 12 _ rfl) rfl rfl rfl) (fun _ _ _ _ h => h) ?_; simp only [Act.put, List.setIfInBounds_toArray, List.set_cons_zero, List.set_cons_succ]) | (refine segH_pure _ _ _ _ _ _ (hid_get HOPS 17 _ rfl) rfl (wanted_some (hid_get HOPS 12 _ rfl) rfl rfl rfl) (fun _ _ _ _ h => h) ?_; intro K hK; go_big_quiet_op; go_big_quiet_on) | (refine segH_pass _ _ _ _ _ _ (hid_get HOPS 17 _ rfl) (wanted_gone (hid_get HOPS 12 _ rfl) rfl rfl) (fun _ _ _ _ h => h) ?_; simp only [Act.put, List.setIfInBounds_toArray, List.set_cons_zero, List.set_cons_succ])
                    first | (refine segH_pass _ _ _ _ _ _ (hid_get HOPS 18 _ rfl) (wanted_some (hid_get HOPS 12 _ rfl) rfl rfl rfl) (fun _ _ _ _ h => h) ?_; simp only [Act.put, List.setIfInBounds_toArray, List.set_cons_zero, List.set_cons_succ]) | (refine segH_pure _ _ _ _ _ _ (hid_get HOPS 18 _ rfl) rfl (wanted_some (hid_get HOPS 12 _ rfl) rfl rfl rfl) (fun _ _ _ _ h => h) ?_; intro K hK; go_big_quiet_op; go_big_quiet_on) | (refine segH_pass _ _ _ _ _ _ (hid_get HOPS 18 _ rfl) (wanted_gone (hid_get HOPS 12 _ rfl) rfl rfl) (fun _ _ _ _ h => h) ?_; simp only [Act.put, List.setIfInBounds_toArray, List.set_cons_zero, List.set_cons_succ])
                    first | (refine segH_pass _ _ _ _ _ _ (hid_get HOPS 19 _ rfl) (wanted_some (hid_get HOPS 12 _ rfl) rfl rfl rfl) (fun _ _ _ _ h => h) ?_; simp only [Act.put, List.setIfInBounds_toArray, List.set_cons_zero, List.set_cons_succ]) | (refine segH_load _ _ _ _ _ _ _ _ _ (hid_get HOPS 19 _ rfl) (wanted_some (hid_get HOPS 12 _ rfl) rfl rfl rfl) rfl (fun _ _ _ _ h => h) (fun y hy => by go_simp; try with_reducible rfl) ?_; simp only [Act.put, List.setIfInBounds_toArray, List.set_cons_zero, List.set_cons_succ]) | (refine segH_pass _ _ _ _ _ _ (hid_get HOPS 19 _ rfl) (wanted_gone (hid_get HOPS 12 _ rfl) rfl rfl) (fun _ _ _ _ h => h) ?_; simp only [Act.put, List.setIfInBounds_toArray, List.set_cons_zero, List.set_cons_succ])
                    first | (refine segH_pass _ _ _ _ _ _ (hid_get HOPS 20 _ rfl) (wanted_some (hid_get HOPS 12 _ rfl) rfl rfl rfl) (fun _ _ _ _ h => h) ?_; simp only [Act.put, List.setIfInBounds_toArray, List.set_cons_zero, List.set_cons_succ]) | (refine segH_pure _ _ _ _ _ _ (hid_get HOPS 20 _ rfl) rfl (wanted_some (hid_get HOPS 12 _ rfl) rfl rfl rfl) (fun _ _ _ _ h => h) ?_; intro K hK; go_big_quiet_op; go_big_quiet_on) | (refine segH_pass _ _ _ _ _ _ (hid_get HOPS 20 _ rfl) (wanted_gone (hid_get HOPS 12 _ rfl) rfl rfl) (fun _ _ _ _ h => h) ?_; simp only [Act.put, List.setIfInBounds_toArray, List.set_cons_zero, List.set_cons_succ])
                    first | (refine segH_pass _ _ _ _ _ _ (hid_get HOPS 21 _ rfl) (wanted_some (hid_get HOPS 20 _ rfl) rfl rfl rfl) (fun _ _ _ _ h => h) ?_; simp only [Act.put, List.setIfInBounds_toArray, List.set_cons_zero, List.set_cons_succ]) | (refine segH_pure _ _ _ _ _ _ (hid_get HOPS 21 _ rfl) rfl (wanted_some (hid_get HOPS 20 _ rfl) rfl rfl rfl) (fun _ _ _ _ h => h) ?_; intro K hK; go_big_quiet_op; go_big_quiet_on) | (refine segH_pass _ _ _ _ _ _ (hid_get HOPS 21 _ rfl) (wanted_gone (hid_get HOPS 20 _ rfl) rfl rfl) (fun _ _ _ _ h => h) ?_; simp only [Act.put, List.setIfInBounds_toArray, List.set_cons_zero, List.set_cons_succ])
                    first | (refine segH_pass _ _ _ _ _ _ (hid_get HOPS 22 _ rfl) (wanted_some (hid_get HOPS 20 _ rfl) rfl rfl rfl) (fun _ _ _ _ h => h) ?_; simp only [Act.put, List.setIfInBounds_toArray, List.set_cons_zero, List.set_cons_succ]) | (refine segH_pure _ _ _ _ _ _ (hid_get HOPS 22 _ rfl) rfl (wanted_some (hid_get HOPS 20 _ rfl) rfl rfl rfl) (fun _ _ _ _ h => h) ?_; intro K hK; go_big_quiet_op; go_big_quiet_on) | (refine segH_pass _ _ _ _ _ _ (hid_get HOPS 22 _ rfl) (wanted_gone (hid_get HOPS 20 _ rfl) rfl rfl) (fun _ _ _ _ h => h) ?_; simp only [Act.put, List.setIfInBounds_toArray, List.set_cons_zero, List.set_cons_succ])
                    first | (refine segH_pass _ _ _ _ _ _ (hid_get HOPS 23 _ rfl) (wanted_some (hid_get HOPS 20 _ rfl) rfl rfl rfl) (fun _ _ _ _ h => h) ?_; simp only [Act.put, List.setIfInBounds_toArray, List.set_cons_zero, List.set_cons_succ]) | (refine segH_pure _ _ _ _ _ _ (hid_get HOPS 23 _ rfl) rfl (wanted_some (hid_get HOPS 20 _ rfl) rfl rfl rfl) (fun _ _ _ _ h => h) ?_; intro K hK; go_big_quiet_op; go_big_quiet_on) | (refine segH_pass _ _ _ _ _ _ (hid_get HOPS 23 _ rfl) (wanted_gone (hid_get HOPS 20 _ rfl) rfl rfl) (fun _ _ _ _ h => h) ?_; simp only [Act.put, List.setIfInBounds_toArray, List.set_cons_zero, List.set_cons_succ])
                    first | (refine segH_pass _ _ _ _ _ _ (hid_get HOPS 24 _ rfl) (wanted_some (hid_get HOPS 20 _ rfl) rfl rfl rfl) (fun _ _ _ _ h => h) ?_; simp only [Act.put, List.setIfInBounds_toArray, List.set_cons_zero, List.set_cons_succ]) | (refine segH_load _ _ _ _ _ _ _ _ _ (hid_get HOPS 24 _ rfl) (wanted_some (hid_get HOPS 20 _ rfl) rfl rfl rfl) rfl (fun _ _ _ _ h => h) (fun y hy => by go_simp; try with_reducible rfl) ?_; simp only [Act.put, List.setIfInBounds_toArray, List.set_cons_zero, List.set_cons_succ]) | (refine segH_pass _ _ _ _ _ _ (hid_get HOPS 24 _ rfl) (wanted_gone (hid_get HOPS 20 _ rfl) rfl rfl) (fun _ _ _ _ h => h) ?_; simp only [Act.put, List.setIfInBounds_toArray, List.set_cons_zero, List.set_cons_succ])
                    first | (refine segH_pass _ _ _ _ _ _ (hid_get HOPS 25 _ rfl) (wanted_some (hid_get HOPS 20 _ rfl) rfl rfl rfl) (fun _ _ _ _ h => h) ?_; simp only [Act.put, List.setIfInBounds_toArray, List.set_cons_zero, List.set_cons_succ]) | (refine segH_pure _ _ _ _ _ _ (hid_get HOPS 25 _ rfl) rfl (wanted_some (hid_get HOPS 20 _ rfl) rfl rfl rfl) (fun _ _ _ _ h => h) ?_; intro K hK; go_big_quiet_op; go_big_quiet_on) | (refine segH_pass _ _ _ _ _ _ (hid_get HOPS 25 _ rfl) (wanted_gone (hid_get HOPS 20 _ rfl) rfl rfl) (fun _ _ _ _ h => h) ?_; simp only [Act.put, List.setIfInBounds_toArray, List.set_cons_zero, List.set_cons_succ])
                    first | (refine segH_pass _ _ _ _ _ _ (hid_get HOPS 26 _ rfl) (wanted_some (hid_get HOPS 20 _ rfl) rfl rfl rfl) (fun _ _ _ _ h => h) ?_; simp only [Act.put, List.setIfInBounds_toArray, List.set_cons_zero, List.set_cons_succ]) | (refine segH_pure _ _ _ _ _ _ (hid_get HOPS 26 _ rfl) rfl (wanted_some (hid_get HOPS 20 _ rfl) rfl rfl rfl) (fun _ _ _ _ h => h) ?_; intro K hK; go_big_quiet_op; go_big_quiet_on) | (refine segH_pass _ _ _ _ _ _ (hid_get HOPS 26 _ rfl) (wanted_gone (hid_get HOPS 20 _ rfl) rfl rfl) (fun _ _ _ _ h => h) ?_; simp only [Act.put, List.setIfInBounds_toArray, List.set_cons_zero, List.set_cons_succ])
                    first | (refine segH_pass _ _ _ _ _ _ (hid_get HOPS 27 _ rfl) (wanted_some (hid_get HOPS 20 _ rfl) rfl rfl rfl) (fun _ _ _ _ h => h) ?_; simp only [Act.put, List.setIfInBounds_toArray, List.set_cons_zero, List.set_cons_succ]) | (refine segH_load _ _ _ _ _ _ _ _ _ (hid_get HOPS 27 _ rfl) (wanted_some (hid_get HOPS 20 _ rfl) rfl rfl rfl) rfl (fun _ _ _ _ h => h) (fun y hy => by go_simp; try with_reducible rfl) ?_; simp only [Act.put, List.setIfInBounds_toArray, List.set_cons_zero, List.set_cons_succ]) | (refine segH_pass _ _ _ _ _ _ (hid_get HOPS 27 _ rfl) (wanted_gone (hid_get HOPS 20 _ rfl) rfl rfl) (fun _ _ _ _ h => h) ?_; simp only [Act.put, List.setIfInBounds_toArray, List.set_cons_zero, List.set_cons_succ])
                    first | (refine segH_pass _ _ _ _ _ _ (hid_get HOPS 28 _ rfl) (wanted_some (hid_get HOPS 12 _ rfl) rfl rfl rfl) (fun _ _ _ _ h => h) ?_; simp only [Act.put, List.setIfInBounds_toArray, List.set_cons_zero, List.set_cons_succ]) | (refine segH_pure _ _ _ _ _ _ (hid_get HOPS 28 _ rfl) rfl (wanted_some (hid_get HOPS 12 _ rfl) rfl rfl rfl) (fun _ _ _ _ h => h) ?_; intro K hK; go_big_quiet_op; go_big_quiet_on) | (refine segH_pass _ _ _ _ _ _ (hid_get HOPS 28 _ rfl) (wanted_gone (hid_get HOPS 12 _ rfl) rfl rfl) (fun _ _ _ _ h => h) ?_; simp only [Act.put, List.setIfInBounds_toArray, List.set_cons_zero, List.set_cons_succ])
                    (refine segH_pure _ _ _ _ _ _ (hid_get HOPS 29 _ rfl) rfl wanted_none (fun _ _ _ _ h => h) ?_; intro K hK; go_big_quiet_op; go_big_quiet_on)
                    (refine segH_pure _ _ _ _ _ _ (hid_get HOPS 30 _ rfl) rfl wanted_none (fun _ _ _ _ h => h) ?_; intro K hK; go_big_quiet_op; go_big_quiet_on)
                    refine segH_turns _ _ _ _ _ _ (hid_get HOPS 31 _ rfl) wanted_none (fun K hK => ?_)
                    go_big_op
                    refine hK _ _ (fun _ => True) trivial ?_
                    clear hK
                    refine seg_done ?_
                    clear HOPS
                    clear y0 y1 y2 y3 y4 p0 p2 f0
                    go_wp2
                    go_roundw
                    case rel => exact ⟨j + 1, by go_num, hlj, G2, hx2⟩
                    case measure => simp [intOf]; omega
                · obtain rfl : j = N := by omega
                  go_wp2_with fail
                  go_roundw
                  case rel => exact ⟨a + 1, by go_num, hla, by rw [HR.out]; exact G, hx⟩
                  case measure => simp [intOf]; omega
            · obtain rfl : a = N := by omega
              go_wp2_with fail
              go_roundw
              case rel => exact ⟨k + 1, by go_num, hlt, by rw [HC.out]; exact G, hx⟩
              case measure => simp [intOf]; omega
        · obtain rfl : N = k := by omega
          clear hlt
          obtain ⟨rs5, hl5, hm6, hM5⟩ := G.matAt 0
          rw [HCM.out] at hm6
          have z5 := ext_alloc wr (.cells #[.slice (some ⟨p, 0, none⟩) N N] 24)
          have bz := Blk.new wr 24 #[.slice (some ⟨p, 0, none⟩) N N]
          obtain ⟨gz, hgz⟩ : ∃ gz, gz = wr.heap.size := ⟨_, rfl⟩
          rw [← hgz] at bz
          have G5 := G.ext z5
          have b5 := (b1.ext hx).ext z5
          have x5 := ext_trans y1 (ext_trans hx z5)
          have hM6 := hM5.ext z5
          clear G hM5 hx
          go_upto_region 31 with fail
          rw [← hgz]
          clear hgz
          generalize wr.alloc (.cells #[.slice (some ⟨p, 0, none⟩) N N] 24) = w5 at G5 b5 x5 hM6 bz z5 ⊢
          have hchk := refCheck_any (some ⟨p, 0, none⟩) N rs5 w5 0 hM6 (by omega)
          rw [hm6, hl5] at hchk
          have c5 := bz.cell 0
          simp only [List.getElem?_toArray, List.getElem?_cons_zero] at c5
          clear hM6 z5
          go_wp2_with fail
          refine hchk.mono ?_
          clear hchk
          rintro e w6 ⟨rfl, x6⟩
          have G6 := G5.ext x6
          have b6 := b5.ext x6
          have bz6 := bz.ext x6
          have y6 := ext_trans x5 x6
          have c6 := bz6.cell 0
          simp only [List.getElem?_toArray, List.getElem?_cons_zero] at c6
          have f6 := b6.frozen 0
          have c7 := b6.cell 0
          simp only [List.getElem?_toArray, List.getElem?_cons_zero] at c7
          clear c5 G5 b5 bz x6 x5
          by_cases hz : lchk (closeM M) = 0
          · have HZ := Lib.hid hz
            rw [hz]
            clear hz
            have b2 := b6.set_ 0 (.slice (some ⟨p, 0, none⟩) N N)
            simp only [List.setIfInBounds_toArray, List.set_cons_zero] at b2
            have r2 := b2.cell 0
            simp only [List.getElem?_toArray, List.getElem?_cons_zero] at r2
            have x2 : Ext w (w6.setCell ⟨g, 0, none⟩ (.slice (some ⟨p, 0, none⟩) N N)) := y6.setCell (by rw [HGZ.out]; exact Nat.le_refl _) _
            have G7 := G6.mods1 b6 (by decide) (by decide) (mods_setCell w6 ⟨g, 0, none⟩ (.slice (some ⟨p, 0, none⟩) N N))
            obtain ⟨rs7, hl7, hm7, hM7⟩ := G7.matAt w.heap.size
            rw [HCM.out] at hm7
            clear G6 G7 hl5 hm6
            go_wp2
            refine bodyPost_ret (v := .tuple #[.agg #[.slice (some ⟨p, 0, none⟩) N N], .int .i64 0]) (by simp [results, Tryd.results10, go_sem, r2]) rfl ?_
            refine ⟨some ⟨p, 0, none⟩, N, rs7, ?_, ?_, hM7, x2⟩
            · rw [HE.out, parseC, if_pos HZ.out, hl7]; rfl
            · rw [HE.out, parseC, if_pos HZ.out, hm7]
          · have hz11 : lchk (closeM M) = 11 := by have := HSQ.out; omega
            have HB11 : Hid (parseM s = ([], 11)) := by
              show _ = _
              rw [HE.out, parseC, if_neg hz, hz11]
            rw [hz11]
            clear hz hz11
            have b2 := b6.set_ 0 (.slice none 0 0)
            simp only [List.setIfInBounds_toArray, List.set_cons_zero] at b2
            have r2 := b2.cell 0
            simp only [List.getElem?_toArray, List.getElem?_cons_zero] at r2
            have x2 : Ext w (w6.setCell ⟨g, 0, none⟩ (.slice none 0 0)) := y6.setCell (by rw [HGZ.out]; exact Nat.le_refl _) _
            clear G6 hl5 hm6
            go_wp2
            refine bodyPost_ret (v := .tuple #[.agg #[.slice none 0 0], .int .i64 11]) (by simp [results, Tryd.results10, go_sem, r2]) rfl (HBAD.out 11 HB11.out _ x2)
end Go.Proofs.YtdknkbpgkkakhaaDoor
