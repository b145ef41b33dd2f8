/- Layer 20: the document's Put: what it tells, and the words of its steps. -/
import Derived.Test.YtdknkbpgkkakhaaInt21
namespace Go.Proofs.Ytdknkbpgkkakhaa
open Go.RowKit Go.Maps

def rfCame (s : RfSt) (a : Nat) (x : It) : RfSt := { s with came := fun b => if b = a then s.came b ++ [x] else s.came b }
def rfHold (s : RfSt) (l : List It) : RfSt := { s with held := l }
def rfPull (s : RfSt) (i : Nat) : RfSt := { s with held := s.held.eraseIdx i }
/-- The held ones that come behind. -/
def rowR : Nat → RfSt → Nat → RfSt × List It
  | 0, s, _ => (s, [])
  | k + 1, s, a =>
    match s.held.findIdx? (hKey (a : Int) (((s.came a).length : Int) + 1)) with
    | none => (s, [])
    | some i => match s.held[i]? with
      | none => (s, [])
      | some y => if y.turn = (overL (s.came a) : Int) then ((rowR k (rfCame (rfPull s i) a y) a).1, y :: (rowR k (rfCame (rfPull s i) a y) a).2) else (rfPull s i, [])
def putRN (ms : Mat) (lev : Int) (s : RfSt) (x : It) : Nat :=
  if x.is = true then
    if labove ms lev x.level = true then
      if x.n ≤ rfHave s x.level ∨ 0 ≤ hIx s.held x.level x.n then 0
      else if rfHave s x.level + 1 < x.n then (if s.held.length < 40 then 0 else 25)
      else if x.turn = rfOver s x.level then 0 else 22
    else 20
  else 10
def putRSt (ms : Mat) (lev : Int) (s : RfSt) (x : It) : RfSt × List It :=
  if x.is = true then
    if labove ms lev x.level = true then
      if x.n ≤ rfHave s x.level ∨ 0 ≤ hIx s.held x.level x.n then (s, [])
      else if rfHave s x.level + 1 < x.n then (if s.held.length < 40 then (rfHold s (s.held ++ [x]), []) else (s, []))
      else if x.turn = rfOver s x.level then ((rowR s.held.length (rfCame s x.level.toNat x) x.level.toNat).1, x :: (rowR s.held.length (rfCame s x.level.toNat x) x.level.toNat).2) else (s, [])
    else (s, [])
  else (s, [])
def RfInv (s : RfSt) : Prop := ∀ y ∈ s.held, y.is = true
theorem RfInv.pull {s : RfSt} (h : RfInv s) (i : Nat) : RfInv (rfPull s i) := fun y hy => h y (List.mem_of_mem_eraseIdx hy)
theorem RfInv.came {s : RfSt} (h : RfInv s) (a : Nat) (x : It) : RfInv (rfCame s a x) := h
theorem RfInv.row : ∀ (k : Nat) (s : RfSt) (a : Nat), RfInv s → RfInv (rowR k s a).1 := by
  intro k
  induction k with
  | zero => exact fun s a h => h
  | succ k ih =>
    intro s a h
    unfold rowR
    split
    · exact h
    · split
      · exact h
      · split
        · exact ih _ _ ((h.pull _).came _ _)
        · exact h.pull _
theorem RfInv.put {s : RfSt} (h : RfInv s) (ms : Mat) (lev : Int) (x : It) : RfInv (putRSt ms lev s x).1 := by
  unfold putRSt
  split
  · rename_i hx
    split
    · split
      · exact h
      · split
        · split
          · intro y hy
            rcases List.mem_append.1 hy with hy | hy
            · exact h y hy
            · have : y = x := by simpa using hy
              rw [this]; exact hx
          · exact h
        · split
          · exact RfInv.row _ _ _ (h.came _ _)
          · exact h
    · exact h
  · exact h
theorem Own.of_block {w : World} {g B : Nat} {y : Iv} (hb : Blk w g 33 y.cells.toArray) (hB : B ≤ g) : Own elIv w B (.slice (some ⟨g, 0, none⟩) 1 1) [y] := by
  refine ⟨by simp [flat, Iv.cells_len, elIv, Iv.cells], .inr ⟨g, 1, y.cells.toArray, rfl, hB, hb, Nat.le_refl _, by decide, by simp [Iv.cells_len, elIv], ?_⟩⟩
  simp [flat, elIv, Iv.cells]
theorem flat_drop5 {α : Type} {f : α → List Value} {s : Nat} (h : ∀ x, (f x).length = s) : ∀ (k : Nat) (xs : List α), flat f (xs.drop k) = (flat f xs).drop (k * s)
  | 0, xs => by simp
  | k + 1, [] => by simp [flat]
  | k + 1, x :: xs => by
    have h2 : (f x ++ flat f xs).drop s = flat f xs := by rw [← h x]; exact List.drop_left
    rw [List.drop_succ_cons, flat_drop5 h k xs, flat_cons, Nat.add_mul, Nat.one_mul, Nat.add_comm (k * s) s, ← List.drop_drop, h2]
theorem Off.drop_ {w : World} {g n c : Nat} {xs : List Iv} {base : Nat} (h : Off elIv w base (.slice (some ⟨g, 0, none⟩) n c) xs) {m : Nat} (hn : m ≤ n) : Off elIv w base (.slice (some ⟨g, m * 5, none⟩) (n - m) (c - m)) (xs.drop m) := by
  rcases h with ⟨h, _⟩ | ⟨g', off, cap, cur, hv, hb, hg, hnc, hcm, hcs, hc⟩
  · cases h
  · injection hv with e1 e2 e3
    injection e1 with e1
    injection e1 with e1 e4 _
    subst e1 e3 e4
    have hcs' : 0 + c * 5 ≤ cur.size := hcs
    refine .inr ⟨g, m * 5, c - m, cur, by rw [List.length_drop, e2], hb, hg, by rw [List.length_drop]; omega, by omega, by show m * 5 + (c - m) * 5 ≤ _; omega, fun j u hj => ?_⟩
    rw [flat_drop5 (f := elIv.f) (s := 5) Iv.cells_len, List.getElem?_drop] at hj
    have := hc _ u hj
    rw [← this]
    congr 1
    omega
theorem hIx_some {l : List It} {lv n : Int} {k : Nat} (h : hIx l lv n = (k : Int)) : l.findIdx? (hKey lv n) = some k ∧ ∃ hk : k < l.length, l[k].level = lv ∧ l[k].n = n := by
  unfold hIx at h
  cases hf : l.findIdx? (hKey lv n) with
  | none => rw [hf] at h; simp at h
  | some i =>
    rw [hf] at h
    simp only at h
    have e : i = k := by omega
    subst e
    refine ⟨rfl, ?_⟩
    rw [List.findIdx?_eq_some_iff_getElem] at hf
    obtain ⟨h1, h2, _⟩ := hf
    refine ⟨h1, ?_⟩
    simpa [hKey] using h2
theorem hIx_neg {l : List It} {lv n : Int} (h : hIx l lv n < 0) : l.findIdx? (hKey lv n) = none := by
  unfold hIx at h
  cases hf : l.findIdx? (hKey lv n) with
  | none => rfl
  | some i => rw [hf] at h; simp only at h; omega
theorem hIx_lo (l : List It) (lv n : Int) : -1 ≤ hIx l lv n := by
  unfold hIx
  split <;> omega

def RfMem.toTo (r : RfMem) (a : Nat) (v : Value) : RfMem := { r with cs := r.cs.setIfInBounds (2 + a) v, to_ := fun b => if b = a then v else r.to_ b }
def RfMem.heldTo (r : RfMem) (v : Value) : RfMem := { r with cs := r.cs.setIfInBounds 8 v, vh := v }
section
variable {w w' w0 w1 : World} {B : Nat} {A : Option Addr} {c : Nat} {rs : List Rw} {lev : Int} {r : RfMem} {s : RfSt}
theorem RfGo.set (h : RfAt w B A c rs lev r s) (X : Ext w w') (i : Nat) (v : Value) {r' : RfMem} (hg : r'.g = r.g) (hs : ∀ g, RfOwn r' g → RfOwn r g ∨ w.heap.size ≤ g) : RfGo B w r (w'.setCell ⟨r.g, i, none⟩ v) r' :=
  ⟨(X.mono h.base_le).setCell h.base _, (Mods.of_below X _).trans (mods_setCell w' ⟨r.g, i, none⟩ _) (fun _ _ e => e), hs, hg⟩
theorem RfAt.setTo (h : RfAt w B A c rs lev r s) (X : Ext w w') {a : Nat} (ha : a < 6) {v : Value} {zs : List Iv} {x : It} (hO : Own elIv w' w.heap.size v zs) (hst : its zs = s.came a ++ [x]) (hok : ∀ z ∈ zs, IvOk w' B z) (hlen : (s.came a).length < 1000000) :
    RfAt (w'.setCell ⟨r.g, 2 + a, none⟩ v) B A c rs lev (r.toTo a v) (rfCame s a x) ∧ RfGo B w r (w'.setCell ⟨r.g, 2 + a, none⟩ v) (r.toTo a v) := by
  have h' := h.ext X
  refine ⟨h'.put (2 + a) v (r.toTo a v) (rfCame s a x) ⟨rfl, rfl⟩ (by omega) (fun b hb => ?_) ?_ ?_ (fun b hb => ?_) h'.helds (fun b hb => ?_) h'.fewh, RfGo.set h X _ _ rfl fun g hg => ?_⟩
  · show _ = some (if b = a then v else r.to_ b)
    by_cases e : b = a
    · subst e
      rw [if_pos rfl, get_set_eq (by rw [h.size]; omega)]
    · rw [if_neg e, get_set_ne (by omega)]; exact h.toc b hb
  · rw [get_set_ne (by omega)]; exact h.heldc
  · rw [get_set_ne (by omega)]; exact h.firc
  · show ∃ ys : List Iv, Own elIv w' B (if b = a then v else r.to_ b) ys ∧ its ys = (if b = a then s.came b ++ [x] else s.came b) ∧ _
    by_cases e : b = a
    · subst e
      exact ⟨zs, by rw [if_pos rfl]; exact hO.le h.base_le, by rw [if_pos rfl]; exact hst, hok⟩
    · rw [if_neg e, if_neg e]
      exact h'.cames b hb
  · show (if b = a then s.came b ++ [x] else s.came b).length ≤ _
    split
    · rename_i e; subst e; simp; omega
    · exact h.fewc b hb
  · rcases hg with hg | hg | ⟨b, hb, hg⟩
    · exact .inl (.inl hg)
    · exact .inl (.inr (.inl hg))
    · have hg' : (if b = a then v else r.to_ b).ownBlock = some g := hg
      split at hg'
      · exact .inr (hO.typed hg').1
      · exact .inl (.inr (.inr ⟨b, hb, hg'⟩))
theorem RfAt.setHeld (h : RfAt w B A c rs lev r s) (X : Ext w w') {v : Value} {zs : List Iv} {l : List It} (hO : Own elIv w' w.heap.size v zs) (hst : its zs = l) (hok : ∀ z ∈ zs, IvOk w' B z) (hlen : l.length ≤ 1000000) :
    RfAt (w'.setCell ⟨r.g, 8, none⟩ v) B A c rs lev (r.heldTo v) (rfHold s l) ∧ RfGo B w r (w'.setCell ⟨r.g, 8, none⟩ v) (r.heldTo v) := by
  have h' := h.ext X
  refine ⟨h'.put 8 v (r.heldTo v) (rfHold s l) ⟨rfl, rfl⟩ (by omega) (fun b hb => ?_) ?_ ?_ h'.cames ⟨zs, hO.le h.base_le, hst, hok⟩ h'.fewc hlen, RfGo.set h X _ _ rfl fun g hg => ?_⟩
  · rw [get_set_ne (by omega)]; exact h.toc b hb
  · rw [get_set_eq (by rw [h.size]; omega)]; rfl
  · rw [get_set_ne (by omega)]; exact h.firc
  · rcases hg with hg | hg | hg
    · exact .inl (.inl hg)
    · exact .inr (hO.typed hg).1
    · exact .inl (.inr (.inr hg))
/-- A block that the intake does not own stays beside it. -/
theorem RfGo.free {r' : RfMem} (h : RfGo B w r w' r') {g : Nat} (hg : g < w.heap.size) (hn : ¬ RfOwn r g) : ¬ RfOwn r' g ∧ w'.heap[g]? = w.heap[g]? :=
  ⟨fun e => (h.sub g e).elim hn (fun e => by omega), h.mods.block g hg (fun e => hn (.inl e))⟩
theorem RfGo.keeps {r' : RfMem} (h : RfGo B w r w' r') (hr : RfAt w B A c rs lev r s) : Keeps B [101] w w' := hr.keeps101 h.mods
def RfPutPost (w : World) (B : Nat) (A : Option Addr) (c : Nat) (rs : List Rw) (lev : Int) (r : RfMem) (s : RfSt) (x : It) (e : Ending) (w' : World) : Prop :=
  ∃ v zs r', e = .returned (.tuple #[v, .int .i64 (putRN (mat rs) lev s x : Int)]) ∧ Own elIv w' w.heap.size v zs ∧ its zs = (putRSt (mat rs) lev s x).2 ∧ (∀ z ∈ zs, IvOk w' B z) ∧ RfAt w' B A c rs lev r' (putRSt (mat rs) lev s x).1 ∧ RfGo B w r w' r'
theorem rfPutPost_nil {x : It} {n : Nat} (h : RfAt w' B A c rs lev r s) (k : RfGo B w r w' r) (hn : putRN (mat rs) lev s x = n) (hs : putRSt (mat rs) lev s x = (s, [])) :
    RfPutPost w B A c rs lev r s x (.returned (.tuple #[.slice none 0 0, .int .i64 (n : Int)])) w' :=
  ⟨_, [], r, by rw [hn], Own.nil _ _, by rw [hs]; rfl, by simp, by rw [hs]; exact h, k⟩
end
end Go.Proofs.Ytdknkbpgkkakhaa
