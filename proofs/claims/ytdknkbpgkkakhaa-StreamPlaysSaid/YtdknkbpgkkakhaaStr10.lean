/- What the walk of StreamPlays needs: Add in one word, a region whose end is told in one word. -/
import Derived.Test.YtdknkbpgkkakhaaStr9
import Derived.Test.YtdknkbpgkkakhaaPlanT
namespace Go.Proofs.Ytdknkbpgkkakhaa
open Go.RowKit

/-- What Add does, in one word. -/
def AddAny (w : World) (B : Nat) (T : TypeId) (g : Nat) (lev turn : Int) (xs : List Iv) (v : Value) (x : It) (e : Ending) (w' : World) : Prop :=
  ∃ xs' v', e = .returned (.int .i64 (addErr lev turn xs.length x)) ∧ StrAt w' B T g lev (if addErr lev turn xs.length x = 0 ∧ x.shut = true then turn + 1 else turn) xs' v' ∧
    its xs' = (if addErr lev turn xs.length x = 0 then its xs ++ [x] else its xs) ∧ Mods (fun k => k = g ∨ RowOf v k) w w' ∧ (v'.ownBlock = v.ownBlock ∨ ∀ b, v'.ownBlock = some b → w.heap.size ≤ b)

theorem strAdd_both {w : World} {B g : Nat} {lev turn : Int} {xs : List Iv} {v : Value} (h : StrAt w B 121 g lev turn xs v) (x : It) (A : Option Addr) (c : Nat) (hA : WrsAt w B A x.ws) (hok : ∀ y ∈ x.ws, y.ok) (hl : x.ws.length * 40 ≤ 140737488351232) :
    Calls Try.prog 28 #[.pointer (some ⟨g, 0, none⟩), .agg #[.int .i64 x.level, .int .i64 x.n, .int .i64 x.turn, .bool x.shut, .slice A x.ws.length c]] w
      (AddAny w B 121 g lev turn xs v x) := by
  by_cases herr : addErr lev turn xs.length x = 0
  · refine (strAdd_ok h x A c hA hok hl herr).mono ?_
    rintro e w' ⟨x', v', rfl, hx, hs, hm, ho⟩
    refine ⟨xs ++ [x'], v', by rw [herr], ?_, by rw [if_pos herr, its_append]; simp [its, hx], hm, ho⟩
    have e1 : (if addErr lev turn xs.length x = 0 ∧ x.shut = true then turn + 1 else turn) = (if x.shut then turn + 1 else turn) := by simp [herr]
    rw [e1]; exact hs
  · refine (strAdd_err h x A c B hA hok (by omega) herr).mono ?_
    rintro e w' ⟨rfl, hx⟩
    refine ⟨xs, v, rfl, ?_, by rw [if_neg herr], Mods.of_below hx _, .inl rfl⟩
    rw [if_neg (fun h => herr h.1)]
    exact h.ext hx
theorem refAdd_both {w : World} {B g : Nat} {lev turn : Int} {xs : List Iv} {v : Value} (h : StrAt w B 30 g lev turn xs v) (x : It) (A : Option Addr) (c : Nat) (hA : WrsAt w B A x.ws) (hok : ∀ y ∈ x.ws, y.ok) (hl : x.ws.length * 40 ≤ 140737488351232) :
    Calls Try.prog 30 #[.pointer (some ⟨g, 0, none⟩), .agg #[.int .i64 x.level, .int .i64 x.n, .int .i64 x.turn, .bool x.shut, .slice A x.ws.length c]] w
      (AddAny w B 30 g lev turn xs v x) := by
  by_cases herr : addErr lev turn xs.length x = 0
  · refine (refAdd_ok h x A c hA hok hl herr).mono ?_
    rintro e w' ⟨x', v', rfl, hx, hs, hm, ho⟩
    refine ⟨xs ++ [x'], v', by rw [herr], ?_, by rw [if_pos herr, its_append]; simp [its, hx], hm, ho⟩
    have e1 : (if addErr lev turn xs.length x = 0 ∧ x.shut = true then turn + 1 else turn) = (if x.shut then turn + 1 else turn) := by simp [herr]
    rw [e1]; exact hs
  · refine (refAdd_err h x A c B hA hok (by omega) herr).mono ?_
    rintro e w' ⟨rfl, hx⟩
    refine ⟨xs, v, rfl, ?_, by rw [if_neg herr], Mods.of_below hx _, .inl rfl⟩
    rw [if_neg (fun h => herr h.1)]
    exact h.ext hx

/-- A region, its end told in one word. -/
theorem region_fin {α : Type} {P : Program} {id : Nat} {l : Array Oper} {d : Bool} {a : Act} {w : World} {Q : Exit → Act → World → Prop} (F : α → World → Prop) (put : α → Act → Act)
    (h1 : (Code.region id l d).wp P (fun e a' w' => match e with | .normal => ∃ z, F z w' ∧ a' = put z a | _ => False) a w) (h2 : ∀ z w', F z w' → Q .normal (put z a) w') : (Code.region id l d).wp P Q a w := by
  refine Code.wp_mono (fun e a' w' h => ?_) h1
  cases e with
  | normal =>
    obtain ⟨z, hz, rfl⟩ := h
    exact h2 z w' hz
  | _ => exact h.elim

theorem Blk.other {w : World} {g g' i : Nat} {t : TypeId} {cs : Array Value} {u : Value} (h : Blk w g t cs) (hne : g ≠ g') : Blk (w.setCell ⟨g', i, none⟩ u) g t cs := h.mods (mods_setCell w _ u) hne

structure Z11 where
  x : Nat
  y : Nat
  A : Option Addr
  c : Nat
  v58 : Value
  v59 : Value
  v60 : Value
  v61 : Value
  v62 : Value
  v63 : Value
  v64 : Value
  v65 : Value
  v66 : Value
  v67 : Value
  v68 : Value
  v69 : Value
  v70 : Value
  v71 : Value
  v72 : Value
  v73 : Value

def Z11.put (z : Z11) (a : Act) : Act := (((((((((((((((((a.put (some 15) (.pointer (some ⟨z.x, 0, none⟩))).put (some 16) (.pointer (some ⟨z.y, 0, none⟩))).put (some 58) z.v58).put (some 59) z.v59).put (some 60) z.v60).put (some 61) z.v61).put (some 62) z.v62).put (some 63) z.v63).put (some 64) z.v64).put (some 65) z.v65).put (some 66) z.v66).put (some 67) z.v67).put (some 68) z.v68).put (some 69) z.v69).put (some 70) z.v70).put (some 71) z.v71).put (some 72) z.v72).put (some 73) z.v73

theorem alloc_named (W : World) : ∃ (W' : World) (x : Nat), W' = W.alloc zero33 ∧ x = W.heap.size ∧ Blk W' x 33 #[.int .i64 0, .int .i64 0, .int .i64 0, .bool false, .slice none 0 0] ∧ Ext W W' :=
  ⟨_, _, rfl, rfl, Blk.new _ _ _, ext_alloc _ _⟩

theorem store5 {W : World} {x B : Nat} {z0 z1 z2 z3 z4 : Value} (u0 u1 u2 u3 u4 : Value) (bx : Blk W x 33 #[z0, z1, z2, z3, z4]) (hB : B ≤ x) :
    Blk (((((W.setCell ⟨x, 0, none⟩ u0).setCell ⟨x, 1, none⟩ u1).setCell ⟨x, 2, none⟩ u2).setCell ⟨x, 3, none⟩ u3).setCell ⟨x, 4, none⟩ u4) x 33 #[u0, u1, u2, u3, u4] ∧ Keeps B [33] W (((((W.setCell ⟨x, 0, none⟩ u0).setCell ⟨x, 1, none⟩ u1).setCell ⟨x, 2, none⟩ u2).setCell ⟨x, 3, none⟩ u3).setCell ⟨x, 4, none⟩ u4) ∧ Below B W (((((W.setCell ⟨x, 0, none⟩ u0).setCell ⟨x, 1, none⟩ u1).setCell ⟨x, 2, none⟩ u2).setCell ⟨x, 3, none⟩ u3).setCell ⟨x, 4, none⟩ u4) ∧ ∀ y t cs, y ≠ x → Blk W y t cs → Blk (((((W.setCell ⟨x, 0, none⟩ u0).setCell ⟨x, 1, none⟩ u1).setCell ⟨x, 2, none⟩ u2).setCell ⟨x, 3, none⟩ u3).setCell ⟨x, 4, none⟩ u4) y t cs := by
  have b1 := bx.set_ 0 u0
  have b2 := b1.set_ 1 u1
  have b3 := b2.set_ 2 u2
  have b4 := b3.set_ 3 u3
  have b5 := b4.set_ 4 u4
  refine ⟨b5, ?_, ?_, fun y t cs hne hy => ?_⟩
  · exact ((((keeps_set bx hB 0 u0).trans (keeps_set b1 hB 1 u1)).trans (keeps_set b2 hB 2 u2)).trans (keeps_set b3 hB 3 u3)).trans (keeps_set b4 hB 4 u4)
  · iterate 5 (refine Below.setCell ?_ (by simpa using hB) _)
    exact Below.refl _ _
  · exact ((((hy.other hne).other hne).other hne).other hne).other hne

theorem next_end {wc W : World} {x y B : Nat} {A7 : Option Addr} {ws : List Wr} {u0 u1 u2 u3 u4 v0 v1 v2 v3 v4 : Value} (bx : Blk W x 33 #[.int .i64 0, .int .i64 0, .int .i64 0, .bool false, .slice none 0 0]) (by_ : Blk W y 33 #[.int .i64 0, .int .i64 0, .int .i64 0, .bool false, .slice none 0 0])
    (hne : x ≠ y) (nx : wc.heap.size ≤ x) (ny : wc.heap.size ≤ y) (hB : B ≤ wc.heap.size) (hW : Ext wc W) (h7 : WrsAt W B A7 ws) :
    Ext wc ((((((((((W.setCell ⟨x, 0, none⟩ u0).setCell ⟨x, 1, none⟩ u1).setCell ⟨x, 2, none⟩ u2).setCell ⟨x, 3, none⟩ u3).setCell ⟨x, 4, none⟩ u4).setCell ⟨y, 0, none⟩ v0).setCell ⟨y, 1, none⟩ v1).setCell ⟨y, 2, none⟩ v2).setCell ⟨y, 3, none⟩ v3).setCell ⟨y, 4, none⟩ v4) ∧ Blk ((((((((((W.setCell ⟨x, 0, none⟩ u0).setCell ⟨x, 1, none⟩ u1).setCell ⟨x, 2, none⟩ u2).setCell ⟨x, 3, none⟩ u3).setCell ⟨x, 4, none⟩ u4).setCell ⟨y, 0, none⟩ v0).setCell ⟨y, 1, none⟩ v1).setCell ⟨y, 2, none⟩ v2).setCell ⟨y, 3, none⟩ v3).setCell ⟨y, 4, none⟩ v4) x 33 #[u0, u1, u2, u3, u4] ∧ Blk ((((((((((W.setCell ⟨x, 0, none⟩ u0).setCell ⟨x, 1, none⟩ u1).setCell ⟨x, 2, none⟩ u2).setCell ⟨x, 3, none⟩ u3).setCell ⟨x, 4, none⟩ u4).setCell ⟨y, 0, none⟩ v0).setCell ⟨y, 1, none⟩ v1).setCell ⟨y, 2, none⟩ v2).setCell ⟨y, 3, none⟩ v3).setCell ⟨y, 4, none⟩ v4) y 33 #[v0, v1, v2, v3, v4] ∧ WrsAt ((((((((((W.setCell ⟨x, 0, none⟩ u0).setCell ⟨x, 1, none⟩ u1).setCell ⟨x, 2, none⟩ u2).setCell ⟨x, 3, none⟩ u3).setCell ⟨x, 4, none⟩ u4).setCell ⟨y, 0, none⟩ v0).setCell ⟨y, 1, none⟩ v1).setCell ⟨y, 2, none⟩ v2).setCell ⟨y, 3, none⟩ v3).setCell ⟨y, 4, none⟩ v4) B A7 ws := by
  obtain ⟨a1, a2, a3, a4⟩ := store5 u0 u1 u2 u3 u4 bx nx
  obtain ⟨c1, c2, c3, c4⟩ := store5 v0 v1 v2 v3 v4 (a4 y 33 _ (Ne.symm hne) by_) ny
  obtain ⟨-, d2, -, -⟩ := store5 (B := B) u0 u1 u2 u3 u4 bx (by omega)
  obtain ⟨-, e2, -, -⟩ := store5 (B := B) v0 v1 v2 v3 v4 (a4 y 33 _ (Ne.symm hne) by_) (by omega)
  exact ⟨(hW.trans a3).trans c3, c4 x 33 _ hne a1, c1, (RowsAt.keeps h7 d2 (by decide)).keeps e2 (by decide)⟩
end Go.Proofs.Ytdknkbpgkkakhaa
