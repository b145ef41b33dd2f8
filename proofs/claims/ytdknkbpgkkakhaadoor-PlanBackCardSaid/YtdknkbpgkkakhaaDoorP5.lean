/- Layer 2: a Builder's words. -/
import Derived.Test.YtdknkbpgkkakhaaDoorP4
import Derived.Test.YtdknkbpgkkakhaaDoorShelf
namespace Go.Proofs.YtdknkbpgkkakhaaDoor
open Go.RowKit

/-- The Builder in block b holds s. -/
def Bld (w : World) (B b : Nat) (s : ByteArray) : Prop := Lib.IsBuilderF 59 5 B b (Lib.strCells s) w
theorem strCells_app (s t : ByteArray) : Lib.strCells (s ++ t) = Lib.strCells s ++ Lib.strCells t := by simp [Lib.strCells, ByteArray.data_append]
theorem Bld.ext {w w' : World} {B b : Nat} {s : ByteArray} (h : Bld w B b s) (k : Ext w w') : Bld w' B b s := by
  have hstep : ∀ p, Lib.BuilderAtF 59 5 B b p (Lib.strCells s) w → Lib.BuilderAtF 59 5 B b p (Lib.strCells s) w' := by
    rintro p ⟨hB, v, hb, ⟨h1, h2⟩, hne⟩
    refine ⟨hB, v, (k.block b (Array.getElem?_eq_some_iff.1 hb).1).trans hb, ⟨h1, ?_⟩, hne⟩
    rcases h2 with h2 | ⟨g, cap, cur, fz, e1, e2, e3, rest⟩
    · exact .inl h2
    · exact .inr ⟨g, cap, cur, fz, e1, e2, (k.block g (Array.getElem?_eq_some_iff.1 e3).1).trans e3, rest⟩
  exact h.elim (fun x => .inl (hstep _ x)) (fun x => .inr (hstep _ x))
theorem Bld.lt {w : World} {B b : Nat} {s : ByteArray} (h : Bld w B b s) : B ≤ b ∧ b < w.heap.size := by
  rcases h with h | h
  · exact ⟨h.1, h.lt⟩
  · exact ⟨h.1, h.lt⟩
theorem Bld.new {w : World} {B : Nat} (hB : B ≤ w.heap.size) : Bld (w.alloc (.cells #[.pointer none, .slice none 0 0] 59)) B w.heap.size ⟨#[]⟩ :=
  .inl ⟨hB, .slice none 0 0, (Blk.new w 59 #[.pointer none, .slice none 0 0]), World.ownsRowF_nil _ _ _ _, by simp [Value.ownBlock]⟩
/- Builder_WriteString_k is not laid (lays240 fails): to be found out why.
theorem write_any {w : World} {B b : Nat} {s : ByteArray} (h : Bld w B b s) (t : ByteArray) (hlen : s.size + t.size ≤ 140737488355328) :
    Calls Tryd.prog 28 #[.pointer (some ⟨b, 0, none⟩), .string t] w fun e w' => e = .returned (.tuple #[.int .i64 t.size, .nilIface]) ∧ Bld w' B b (s ++ t) ∧ Below B w w' ∧ Lib.OthersKept 5 (some b) w w' := by
  have hl := h.lt
  refine (Tryd.Builder_WriteString_k B b (Lib.strCells s) t w h (by rw [Lib.strCells_length]; exact hlen) (by omega)).mono ?_
  rintro e w' ⟨rfl, h1, h2, h3⟩
  refine ⟨rfl, ?_, h2, h3⟩
  unfold Bld
  rw [strCells_app]
  exact .inr h1
-/
theorem string_any {w : World} {B b : Nat} {s : ByteArray} (h : Bld w B b s) :
    Calls Tryd.prog 30 #[.pointer (some ⟨b, 0, none⟩)] w fun e w' => e = .returned (.string s) ∧ Below B w w' := by
  have hl := h.lt
  refine (Tryd.Builder_String_any_k B b s.data.toList w h (by omega)).mono ?_
  rintro e w' ⟨rfl, _, h2, _⟩
  exact ⟨rfl, h2⟩
theorem Blk.others {w w' : World} {b g : Nat} {t : TypeId} {cs : Array Value} (h : Blk w g t cs) (k : Lib.OthersKept 5 (some b) w w') (hg : g ≠ b) (ht : t ≠ 5) : Blk w' g t cs := by
  unfold Blk at h ⊢
  exact k g _ h (by simpa using hg) (fun c fz e => ht (by injection e))
end Go.Proofs.YtdknkbpgkkakhaaDoor
