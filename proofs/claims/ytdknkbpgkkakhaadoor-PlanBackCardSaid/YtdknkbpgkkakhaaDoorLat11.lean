/- Layer 1: chains, of the program. -/
import Derived.Test.YtdknkbpgkkakhaaDoorLat10
namespace Go.Proofs.YtdknkbpgkkakhaaDoor
open Go.RowKit
theorem addr_at {ad : Addr} (h : ad.off = 0) (hv : ad.spot = none) (b : Nat) : ad.add b = ⟨ad.block, b, none⟩ := by
  obtain ⟨k, o, v⟩ := ad
  dsimp only at h hv
  subst h hv
  unfold Addr.add
  by_cases hb : b = 0
  · subst hb; rfl
  · rw [if_neg hb]; simp

theorem info23 : (Tryd.prog.info? 38).map (fun i => (i.zero, i.size, i.bytes)) = some (some (.slice none 0 0), 1, 24) := by kernel_rfl
theorem Rw.one (x : Rw) : ∀ u ∈ Rw.cells x, u.oneCell' = true := by intro u hu; simp [Rw.cells] at hu; subst hu; rfl
def elRw : Elem Rw := ⟨Rw.cells, 22, 38, 1, 24, _, fun _ => rfl, Rw.one, Tryd.underlying22, info23, rfl, by decide⟩
theorem rows_rw {w : World} {B : Nat} (r : Rw) : RowsAt (w.alloc (.cells #[.slice r.A r.bs.length r.c] 38)) B 38 1 Rw.cells (some ⟨w.heap.size, 0, none⟩) [r] :=
  rows_block (E := elRw) r (Blk.new w 38 #[.slice r.A r.bs.length r.c])

/-- A row of bools in the making: the first l of N are true. -/
def RowUp (w : World) (ad : Addr) (N l : Nat) : Prop :=
  (∃ cs, Blk w ad.block 4 cs ∧ cs.size = N ∧ ∀ b, b < N → cs[b]? = some (.bool (decide (b < l)))) ∧ ad.off = 0 ∧ ad.spot = none
theorem RowUp.new (w : World) (N : Nat) : RowUp (w.alloc (.cells (madeCells #[.bool false] N) 4)) ⟨w.heap.size, 0, none⟩ N 0 :=
  ⟨⟨_, Blk.new w 4 _, size_madeCells _ _, fun b hb => by simp [madeCells, hb, Nat.mod_one]⟩, rfl, rfl⟩
theorem RowUp.cell {w : World} {ad : Addr} {N l : Nat} (h : RowUp w ad N l) {b : Nat} (hb : b < N) : w.cell? (ad.add b) = some (.bool (decide (b < l))) := by
  obtain ⟨⟨cs, h1, h2, h3⟩, h4, h5⟩ := h
  rw [addr_at h4 h5, h1.cell, h3 b hb]
theorem RowUp.free {w : World} {ad : Addr} {N l : Nat} (h : RowUp w ad N l) (b : Nat) : w.frozen? (ad.add b) = false := by
  obtain ⟨⟨cs, h1, h2, h3⟩, h4, h5⟩ := h
  rw [addr_at h4 h5]; exact h1.frozen b
theorem RowUp.set {w : World} {ad : Addr} {N l : Nat} (h : RowUp w ad N l) (hl : l < N) : RowUp (w.setCell (ad.add l) (.bool true)) ad N (l + 1) := by
  obtain ⟨⟨cs, h1, h2, h3⟩, h4, h5⟩ := h
  rw [addr_at h4 h5]
  refine ⟨⟨_, h1.set_ l _, by simpa using h2, fun b hb => ?_⟩, h4, h5⟩
  rw [Array.getElem?_setIfInBounds]
  by_cases hab : l = b
  · subst hab
    rw [if_pos rfl, if_pos (by omega)]
    simp
  · rw [if_neg hab, h3 b hb]
    have : (b < l + 1) = (b < l) := by rw [eq_iff_iff]; omega
    simp only [this]
theorem RowUp.bits {w : World} {B : Nat} {ad : Addr} {N a : Nat} (h : RowUp w ad N (a + 1)) : BitsAt w B (some ad) (chainRow N a) := by
  intro i hi
  have hiN : i < N := by simpa [chainRow] using hi
  obtain ⟨cs, h1, h2, h3⟩ := h.1
  refine ⟨ad, rfl, .inr ⟨_, _, h1⟩, fun j v hj => ?_⟩
  have hj0 : j = 0 := by
    have := (List.getElem?_eq_some_iff.1 hj).1
    simp [bitCells] at this; exact this
  subst hj0
  have hv : v = .bool (chainRow N a)[i] := by simpa [bitCells] using hj.symm
  rw [hv, Nat.mul_one, add_zero, h.cell hiN]
  simp [chainRow, Nat.lt_succ_iff]
theorem chainRow_length (N a : Nat) : (chainRow N a).length = N := by simp [chainRow]
def chainUp (N k : Nat) : Mat := (List.range k).map fun a => chainRow N a
theorem chainUp_succ (N k : Nat) : chainUp N (k + 1) = chainUp N k ++ [chainRow N k] := by simp [chainUp, List.range_succ]
theorem chainUp_all (n : Int) : chainUp (chainK n) (chainK n) = lchain n := rfl
theorem chainK_le (n : Int) : 1 ≤ chainK n ∧ chainK n ≤ 6 := by unfold chainK; omega
theorem mat_append (rs : List Rw) (r : Rw) : mat (rs ++ [r]) = mat rs ++ [r.bs] := by simp [mat]

theorem keeps_set1 {w : World} {B g : Nat} {t : TypeId} {cs : Array Value} (hb : Blk w g t cs) (hB : B ≤ g) (i : Nat) (u : Value) : Keeps B [t] w (w.setCell ⟨g, i, none⟩ u) :=
  Keeps.of_mods (mods_setCell w ⟨g, i, none⟩ u) fun k hk => by
    subst hk
    refine ⟨hB, fun cs' t' fr hk => ?_⟩
    unfold Blk at hb
    rw [hb] at hk
    injection hk with hk
    injection hk with _ hk
    simp [hk]

/-- A lattice in the making: a variable that holds it, its rows. -/
structure Making (w : World) (B g : Nat) (N k : Nat) (A : Option Addr) (c : Nat) (rs : List Rw) : Prop where
  blk : Blk w g 24 #[.slice A rs.length c]
  own : Own elRw w (g + 1) (.slice A rs.length c) rs
  base : B ≤ g
  each : ∀ r ∈ rs, BitsAt w B r.A r.bs
  is : mat rs = chainUp N k
theorem Making.len {w : World} {B g N k : Nat} {A : Option Addr} {c : Nat} {rs : List Rw} (h : Making w B g N k A c rs) : rs.length = k := by
  have := congrArg List.length h.is
  simpa [mat, chainUp] using this
theorem Making.ext {w w' : World} {B g N k : Nat} {A : Option Addr} {c : Nat} {rs : List Rw} (h : Making w B g N k A c rs) (x : Ext w w') : Making w' B g N k A c rs :=
  ⟨h.blk.ext x, h.own.ext x, h.base, fun r hr => RowsAt.ext (h.each r hr) x, h.is⟩
theorem Making.step {W w4 : World} {B g N k : Nat} {A A2 : Option Addr} {c c2 : Nat} {rs : List Rw} {r : Rw} (h : Making W B g N k A c rs) (hr : BitsAt W B r.A r.bs) (hb : r.bs = chainRow N k)
    (hown : Own elRw w4 (g + 1) (.slice A2 (rs ++ [r]).length c2) (rs ++ [r])) (hg : W.grownBy w4 (Value.slice A rs.length c).ownBlock) :
    Making (w4.setCell ⟨g, 0, none⟩ (.slice A2 (rs.length + 1) c2)) B g N (k + 1) A2 c2 (rs ++ [r]) ∧ Below g W (w4.setCell ⟨g, 0, none⟩ (.slice A2 (rs.length + 1) c2)) ∧ w4.cell? ⟨g, 0, none⟩ = some (.slice A rs.length c) ∧ w4.frozen? ⟨g, 0, none⟩ = false := by
  have hng : ∀ b, (Value.slice A rs.length c).ownBlock = some b → b ≠ g := fun b hb => by have := (h.own.typed hb).1; omega
  have hng2 : ∀ b, (Value.slice A2 (rs ++ [r]).length c2).ownBlock = some b → b ≠ g := fun b hb => by have := (hown.typed hb).1; omega
  have hB := h.base
  have hk : Keeps B [38] W w4 := h.own.keeps hg (by omega)
  have hm := Mods.grown hg
  have hb4 : Blk w4 g 24 #[.slice A rs.length c] := h.blk.mods hm (fun e => hng g e rfl)
  have hsz := h.blk.lt
  have hbel : Below g W w4 := hm.below (by omega) (fun b hb => by have := (h.own.typed hb).1; omega)
  refine ⟨⟨by simpa using hb4.set_ 0 (.slice A2 (rs.length + 1) c2), hown.mods (mods_setCell _ _ _) (fun b hb => hng2 b hb), h.base, ?_, ?_⟩, ?_, ?_, ?_⟩
  · intro x hx
    have : BitsAt W B x.A x.bs := by
      rcases List.mem_append.1 hx with h1 | h1
      · exact h.each x h1
      · have e : x = r := by simpa using h1
        rw [e]; exact hr
    exact ((RowsAt.keeps this hk (by decide)).keeps (T := [24]) (keeps_set1 hb4 hB 0 _) (by decide))
  · rw [mat_append, h.is, chainUp_succ, hb]
  · exact hbel.setCell (Nat.le_refl _) _
  · simpa using hb4.cell 0
  · exact hb4.frozen 0

def ChainPost (w : World) (m : Mat) (e : Ending) (w' : World) : Prop :=
  ∃ A c rs, e = .returned (.agg #[.slice A rs.length c]) ∧ mat rs = m ∧ MatAt w' w.heap.size A rs ∧ Ext w w'

end Go.Proofs.YtdknkbpgkkakhaaDoor
