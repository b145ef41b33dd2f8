/- Layer 22: the plain law of RoadLattice. -/
import Derived.Test.YtdknkbpgkkakhaaRoad11
import Derived.Test.YtdknkbpgkkakhaaRoad7
namespace Go.Proofs.Ytdknkbpgkkakhaa
open Go.RowKit

structure LatInv (m : Mat) (f : Nat) (t : Int) (s : RoadSt) (n : Nat) : Prop where
  off0 : ∀ (a : Nat) (b : Int), (f < a ∨ a = f ∧ t ≤ b) → s.off ((a : Int), b) = 0
  und : ∀ b, (s.und b).length = ((List.range (if b < t then f + 1 else f)).filter fun a : Nat => labove m b a).length
  log : s.log.length = n
  few : (n : Int) ≤ 10 * f + t + 1

theorem labove_neg {m : Mat} {a b : Int} (h : a < 0 ∨ (levels m : Int) ≤ a) : labove m a b = false := by
  cases hc : labove m a b
  · rfl
  · have := ldom_lt (above_iff.1 hc).2
    omega
theorem filter_snoc (f : Nat) (p : Nat → Bool) : (List.range (f + 1)).filter p = (List.range f).filter p ++ if p f = true then [f] else [] := by
  rw [List.range_succ, List.filter_append]
  simp [List.filter_cons]
theorem LatInv.new (m : Mat) : LatInv m 0 (-1) RoadSt.new 0 := by
  refine ⟨fun _ _ _ => rfl, fun b => ?_, rfl, by omega⟩
  show 0 = _
  by_cases hb : b < -1
  · rw [if_pos hb, filter_snoc, labove_neg (.inl (by omega))]
    simp
  · rw [if_neg hb]; rfl
theorem shut_is {f : Nat} (hf : f < 6) : (shutIv f 1 0).it.is = true := by
  have h1 : betw (f : Int) 0 5 = true := by simp [betw]; omega
  simp only [It.is, shutIv, shutIt]
  rw [h1]; rfl
theorem last40_length (xs : List It) (h : xs.length ≤ 40) : last40 xs = xs := by
  rw [last40, Nat.sub_eq_zero_of_le h]; rfl
theorem LatInv.yes {m : Mat} {f n : Nat} {t : Int} {s : RoadSt} (h : LatInv m f t s n) (hf : f < 6) (hu : labove m t f = true) :
    offerN m s (shutIv f 1 0).it t = 0 ∧ LatInv m f (t + 1) (offerSt m s (shutIv f 1 0).it t) (n + 1) := by
  have h0 : offerN m s (shutIv f 1 0).it t = 0 := by
    have h1 : labove m t (shutIv f 1 0).it.level = true := hu
    rw [offerN, if_pos (shut_is hf), if_pos h1, if_pos]
    show (1 : Int) - 1 = s.off ((f : Int), t)
    rw [h.off0 f t (.inr ⟨rfl, Int.le_refl _⟩)]; rfl
  have hut := h.und t
  rw [if_neg (by omega)] at hut
  have hle : ((List.range f).filter fun a : Nat => labove m t a).length ≤ f := by
    have := List.length_filter_le (fun a : Nat => labove m t a) (List.range f)
    rw [List.length_range] at this
    exact this
  refine ⟨h0, ?_⟩
  rw [offerSt, if_pos h0]
  refine ⟨fun a b hab => ?_, fun b => ?_, by simp [h.log], by have := h.few; omega⟩
  · show (if ((a : Int), b) = ((f : Int), t) then (1 : Int) else s.off ((a : Int), b)) = 0
    rw [if_neg (by intro hc; simp only [Prod.mk.injEq] at hc; omega), h.off0 a b (by omega)]
  · show (if b = t then last40 (s.und t ++ [(shutIv f 1 0).it]) else s.und b).length = _
    by_cases hb : b = t
    · subst hb
      rw [if_pos rfl, last40_length _ (by rw [List.length_append, List.length_singleton]; omega), if_pos (by omega), filter_snoc, if_pos hu, List.length_append, List.length_append, hut]; rfl
    · rw [if_neg hb, h.und b]
      by_cases hbt : b < t
      · rw [if_pos hbt, if_pos (by omega)]
      · rw [if_neg hbt, if_neg (by omega)]
theorem LatInv.no {m : Mat} {f n : Nat} {t : Int} {s : RoadSt} (h : LatInv m f t s n) (hf : f < 6) (hu : labove m t f = false) :
    offerN m s (shutIv f 1 0).it t = 20 ∧ offerSt m s (shutIv f 1 0).it t = s ∧ LatInv m f (t + 1) s n := by
  have h0 : offerN m s (shutIv f 1 0).it t = 20 := by
    have h1 : labove m t (shutIv f 1 0).it.level = false := hu
    rw [offerN, if_pos (shut_is hf), if_neg (by rw [h1]; decide)]
  refine ⟨h0, by rw [offerSt, if_neg (by rw [h0]; decide)], fun a b hab => h.off0 a b (by omega), fun b => ?_, h.log, by have := h.few; omega⟩
  rw [h.und b]
  by_cases hb : b = t
  · subst hb
    rw [if_neg (by omega), if_pos (by omega), filter_snoc, hu]
    simp
  · by_cases hbt : b < t
    · rw [if_pos hbt, if_pos (by omega)]
    · rw [if_neg hbt, if_neg (by omega)]
theorem LatInv.row {m : Mat} {f n : Nat} {s : RoadSt} {L : Nat} (hL : levels m ≤ L) (hL6 : L ≤ 6) (h : LatInv m f ((L : Int) + 1) s n) : LatInv m (f + 1) (-1) s n := by
  refine ⟨fun a b hab => h.off0 a b (by omega), fun b => ?_, h.log, by have := h.few; omega⟩
  rw [h.und b]
  by_cases h1 : b < 0
  · rw [List.filter_eq_nil_iff.2 (fun a _ => by rw [labove_neg (.inl h1)]; decide), List.filter_eq_nil_iff.2 (fun a _ => by rw [labove_neg (.inl h1)]; decide)]
  · by_cases h2 : b < (L : Int) + 1
    · rw [if_pos h2, if_neg (by omega)]
    · rw [List.filter_eq_nil_iff.2 (fun a _ => by rw [labove_neg (.inr (by omega))]; decide), List.filter_eq_nil_iff.2 (fun a _ => by rw [labove_neg (.inr (by omega))]; decide)]
theorem LatInv.last {m : Mat} {n : Nat} {s : RoadSt} (h : LatInv m (levels m) (-1) s n) (b : Nat) : (s.und b).length = (lbelow m b).length := by
  rw [h.und b, if_neg (by omega)]; rfl
end Go.Proofs.Ytdknkbpgkkakhaa
