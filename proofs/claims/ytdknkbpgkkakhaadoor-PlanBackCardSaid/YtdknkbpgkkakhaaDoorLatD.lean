/- Layer 1: a lattice in the making whose rows lie apart; one place turned. -/
import Derived.Test.YtdknkbpgkkakhaaDoorLat12
namespace Go.Proofs.YtdknkbpgkkakhaaDoor
open Go.RowKit

/-- A row in a block of its own. -/
def RowBlk (w : World) (r : Rw) (q : Nat) : Prop := r.A = some ⟨q, 0, none⟩ ∧ ∃ cs, Blk w q 4 cs ∧ ∀ b, (h : b < r.bs.length) → cs[b]? = some (.bool r.bs[b])
theorem RowBlk.ext {w w' : World} {r : Rw} {q : Nat} (h : RowBlk w r q) (x : Ext w w') : RowBlk w' r q := by
  obtain ⟨h1, cs, h2, h3⟩ := h
  exact ⟨h1, cs, h2.ext x, h3⟩
theorem RowBlk.mods {S : Nat → Prop} {w w' : World} {r : Rw} {q : Nat} (h : RowBlk w r q) (x : Mods S w w') (hq : ¬ S q) : RowBlk w' r q := by
  obtain ⟨h1, cs, h2, h3⟩ := h
  exact ⟨h1, cs, h2.mods x hq, h3⟩
theorem RowBlk.bits {w : World} {r : Rw} {q B : Nat} (h : RowBlk w r q) : BitsAt w B r.A r.bs := by
  obtain ⟨h1, cs, h2, h3⟩ := h
  intro i hi
  refine ⟨_, h1, .inr ⟨_, _, h2⟩, fun j v hj => ?_⟩
  have hj0 : j = 0 := by
    have := (List.getElem?_eq_some_iff.1 hj).1
    simp [bitCells] at this; exact this
  subst hj0
  have hv : v = .bool r.bs[i] := by simpa [bitCells] using hj.symm
  rw [hv, Nat.mul_one, add_zero, addr_at rfl rfl, h2.cell, h3 i hi]
theorem RowBlk.lt {w : World} {r : Rw} {q : Nat} (h : RowBlk w r q) : q < w.heap.size := by
  obtain ⟨h1, cs, h2, h3⟩ := h; exact h2.lt

/-- A lattice in the making. -/
structure Making2 (w : World) (B g : Nat) (M : Mat) (A : Option Addr) (c : Nat) (rs : List Rw) : Prop where
  blk : Blk w g 24 #[.slice A rs.length c]
  own : Own elRw w (g + 1) (.slice A rs.length c) rs
  base : B ≤ g
  each : ∀ r ∈ rs, ∃ q, g < q ∧ RowBlk w r q
  apart : (rs.map Rw.A).Nodup
  is : mat rs = M
section
variable {w w' W w4 : World} {B g : Nat} {M : Mat} {A A2 : Option Addr} {c c2 : Nat} {rs : List Rw} {r : Rw}
theorem Making2.ext (h : Making2 w B g M A c rs) (x : Ext w w') : Making2 w' B g M A c rs :=
  ⟨h.blk.ext x, h.own.ext x, h.base, fun r hr => by obtain ⟨q, h1, h2⟩ := h.each r hr; exact ⟨q, h1, h2.ext x⟩, h.apart, h.is⟩
theorem Making2.matAt (h : Making2 w B g M A c rs) (B' : Nat) : MatAt w B' A rs :=
  ⟨h.own.rows, fun r hr => by obtain ⟨q, _, h2⟩ := h.each r hr; exact h2.bits⟩
theorem Making2.len (h : Making2 w B g M A c rs) : rs.length = M.length := by rw [← h.is, mat_length]
theorem Making2.step (h : Making2 W B g M A c rs) {q : Nat} (hq : g < q) (hr : RowBlk W r q) (hn : r.A ∉ rs.map Rw.A)
    (hown : Own elRw w4 (g + 1) (.slice A2 (rs ++ [r]).length c2) (rs ++ [r])) (hg : W.grownBy w4 (Value.slice A rs.length c).ownBlock) :
    Making2 (w4.setCell ⟨g, 0, none⟩ (.slice A2 (rs.length + 1) c2)) B g (M ++ [r.bs]) A2 c2 (rs ++ [r]) ∧ Below g W (w4.setCell ⟨g, 0, none⟩ (.slice A2 (rs.length + 1) c2)) ∧
      w4.cell? ⟨g, 0, none⟩ = some (.slice A rs.length c) ∧ w4.frozen? ⟨g, 0, none⟩ = false := by
  have hng : ∀ b, (Value.slice A rs.length c).ownBlock = some b → b ≠ g := fun b hb => by have := (h.own.typed hb).1; omega
  have hng2 : ∀ b, (Value.slice A2 (rs ++ [r]).length c2).ownBlock = some b → b ≠ g := fun b hb => by have := (hown.typed hb).1; omega
  have hm := Mods.grown hg
  have hb4 : Blk w4 g 24 #[.slice A rs.length c] := h.blk.mods hm (fun e => hng g e rfl)
  have hsz := h.blk.lt
  have hbel : Below g W w4 := hm.below (by omega) (fun b hb => by have := (h.own.typed hb).1; omega)
  refine ⟨⟨by simpa using hb4.set_ 0 (.slice A2 (rs.length + 1) c2), hown.mods (mods_setCell _ _ _) (fun b hb => hng2 b hb), h.base, ?_, ?_, ?_⟩, ?_, ?_, ?_⟩
  · intro x hx
    have : ∃ q, g < q ∧ RowBlk W x q := by
      rcases List.mem_append.1 hx with h1 | h1
      · exact h.each x h1
      · have e : x = r := by simpa using h1
        rw [e]; exact ⟨q, hq, hr⟩
    obtain ⟨q', h1, h2⟩ := this
    refine ⟨q', h1, (h2.mods hm ?_).mods (mods_setCell _ _ _) ?_⟩
    · obtain ⟨_, cs, h3, _⟩ := h2
      exact fun e => h3.ne_own h.own (by decide) e
    · intro e
      have e' : q' = g := e
      omega
  · rw [List.map_append, List.nodup_append]
    refine ⟨h.apart, by simp, fun a ha b hb e => ?_⟩
    have hb' : b = r.A := by simpa using hb
    rw [e, hb'] at ha
    exact hn ha
  · rw [mat_append, h.is]
  · exact hbel.setCell (Nat.le_refl _) _
  · simpa using hb4.cell 0
  · exact hb4.frozen 0

def setM (m : Mat) (a b : Nat) (x : Bool) : Mat := m.set a ((m.getD a []).set b x)
theorem at2_set_same {m : Mat} {a b : Nat} {x : Bool} (ha : a < m.length) (hb : b < (m.getD a []).length) : at2 (setM m a b x) a b = x := by
  simp only [List.getD_eq_getElem?_getD] at hb
  simp [at2, setM, ha] at hb ⊢
  simp [hb]
theorem at2_set_ne {m : Mat} {a b a' b' : Nat} {x : Bool} (h : a ≠ a' ∨ b ≠ b') : at2 (setM m a b x) a' b' = at2 m a' b' := by
  by_cases ha : a = a'
  · subst ha
    have hb : b ≠ b' := by rcases h with h | h; exact absurd rfl h; exact h
    by_cases hl : a < m.length
    · simp [at2, setM, hl, List.getElem?_set_ne hb]
    · simp [at2, setM, Nat.le_of_not_lt hl]
  · simp [at2, setM, List.getElem?_set_ne ha]
theorem setM_length (m : Mat) (a b : Nat) (x : Bool) : (setM m a b x).length = m.length := by simp [setM]
theorem setM_square {m : Mat} {a b : Nat} {x : Bool} (h : squareB m = true) : squareB (setM m a b x) = true := by
  simp only [squareB, Bool.and_eq_true, List.all_eq_true, decide_eq_true_eq, beq_iff_eq, setM_length] at h ⊢
  refine ⟨⟨fun r hr => ?_, h.1.2⟩, h.2⟩
  by_cases ha : a < m.length
  · rcases List.mem_or_eq_of_mem_set hr with h1 | h1
    · exact h.1.1 r h1
    · rw [h1, List.length_set]
      have := h.1.1 m[a] (List.getElem_mem ha)
      simp [ha, this]
  · rw [setM, List.set_eq_of_length_le (by omega)] at hr
    exact h.1.1 r hr

theorem flat_set {rs : List Rw} {a : Nat} {r' : Rw} (ha : a < rs.length) (h : r'.cells = rs[a].cells) : flat Rw.cells (rs.set a r') = flat Rw.cells rs := by
  induction rs generalizing a with
  | nil => rfl
  | cons x xs ih =>
    cases a with
    | zero => simp only [List.set_cons_zero, flat_cons]; rw [show r'.cells = x.cells from h]
    | succ a => simp only [List.set_cons_succ, flat_cons]; rw [ih (by simpa using ha) (by simpa using h)]

def setRow (r : Rw) (b : Nat) (x : Bool) : Rw := ⟨r.A, r.c, r.bs.set b x⟩
/-- One place of a lattice in the making is turned. -/
theorem Making2.setBit (h : Making2 w B g M A c rs) {a b : Nat} (ha : a < rs.length) (hb : b < rs[a].bs.length) (x : Bool) :
    ∃ q, rs[a].A = some ⟨q, 0, none⟩ ∧ g < q ∧ w.cell? ((⟨q, 0, none⟩ : Addr).add b) = some (.bool rs[a].bs[b]) ∧ w.frozen? ((⟨q, 0, none⟩ : Addr).add b) = false ∧
      Making2 (w.setCell ((⟨q, 0, none⟩ : Addr).add b) (.bool x)) B g (setM M a b x) A c (rs.set a (setRow rs[a] b x)) ∧ Below (g + 1) w (w.setCell ((⟨q, 0, none⟩ : Addr).add b) (.bool x)) := by
  obtain ⟨q, hq, hA, cs, hcs, hcell⟩ := h.each rs[a] (List.getElem_mem ha)
  have hadd : (⟨q, 0, none⟩ : Addr).add b = ⟨q, b, none⟩ := addr_at rfl rfl b
  refine ⟨q, hA, hq, ?_, ?_, ?_, ?_⟩
  · rw [hadd, hcs.cell, hcell b hb]
  · rw [hadd]; exact hcs.frozen b
  · rw [hadd]
    have hm := mods_setCell w ⟨q, b, none⟩ (.bool x)
    have hcells : (setRow rs[a] b x).cells = rs[a].cells := by simp [setRow, Rw.cells]
    refine ⟨by rw [List.length_set]; exact h.blk.mods hm (fun e => by have e' : g = q := e; omega), ?_, h.base, ?_, ?_, ?_⟩
    · have := h.own.mods hm (fun b' hb' e => hcs.ne_own h.own (by decide) (by have e' : b' = q := e; rw [← e']; exact hb'))
      unfold Own at this ⊢
      rw [List.length_set, show flat elRw.f (rs.set a (setRow rs[a] b x)) = flat elRw.f rs from flat_set ha hcells]
      exact this
    · intro r hr
      obtain ⟨i, hi, rfl⟩ := List.getElem_of_mem hr
      have hi' : i < rs.length := by simpa using hi
      by_cases hai : a = i
      · subst hai
        rw [List.getElem_set_self]
        refine ⟨q, hq, hA, _, hcs.set_ b (.bool x), fun b' hb' => ?_⟩
        have hb2 : b' < rs[a].bs.length := by simpa [setRow] using hb'
        rw [Array.getElem?_setIfInBounds]
        by_cases hbb : b = b'
        · subst hbb
          have hlt : b < cs.size := by
            have := hcell b hb
            exact (Array.getElem?_eq_some_iff.1 this).1
          rw [if_pos rfl, if_pos hlt]
          simp [setRow]
        · rw [if_neg hbb, hcell b' hb2]
          simp [setRow, List.getElem_set_ne hbb]
      · rw [List.getElem_set_ne hai]
        obtain ⟨q', h1, h2⟩ := h.each rs[i] (List.getElem_mem hi')
        refine ⟨q', h1, h2.mods hm (fun e => ?_)⟩
        have e' : q' = q := e
        have hnd := h.apart
        have h5 : (rs.map Rw.A)[a]'(by simpa using ha) = (rs.map Rw.A)[i]'(by simpa using hi') := by
          simp only [List.getElem_map]
          rw [hA, h2.1, e']
        exact hai ((List.getElem_inj hnd).1 h5)
    · have : (rs.set a (setRow rs[a] b x)).map Rw.A = rs.map Rw.A := by
        apply List.ext_getElem
        · simp
        · intro i h1 h2
          simp only [List.getElem_map, List.getElem_set]
          split
          · rename_i e; subst e; rfl
          · rfl
      rw [this]; exact h.apart
    · rw [← h.is]
      apply List.ext_getElem
      · simp [mat, setM]
      · intro i h1 h2
        have hi : i < rs.length := by simpa [mat] using h1
        simp only [mat, setM, List.getElem_map, List.getElem_set]
        split
        · rename_i e; subst e; simp [setRow, ha]
        · rfl
  · exact (Below.refl _ _).setCell (by rw [hadd]; exact hq) _
end
end Go.Proofs.YtdknkbpgkkakhaaDoor
