/- Layer 22: the plain laws of RoadFull. -/
import Derived.Test.YtdknkbpgkkakhaaRoad12
namespace Go.Proofs.Ytdknkbpgkkakhaa
open Go.RowKit

/-- The first p items of the lowest level. -/
def upTo (p : Nat) : List It := (List.range p).map fun q : Nat => shutIt 0 (q + 1) q
theorem upTo_succ (p : Nat) : upTo (p + 1) = upTo p ++ [shutIt 0 (p + 1) p] := by simp [upTo, List.range_succ]
theorem upTo_length (p : Nat) : (upTo p).length = p := by simp [upTo]
theorem upTo_get {p i : Nat} (h : i < p) : (upTo p)[i]'(by rw [upTo_length]; exact h) = shutIt 0 (i + 1) i := by simp [upTo]
theorem last40_snoc (xs : List It) (x : It) : last40 (last40 xs ++ [x]) = last40 (xs ++ [x]) := by
  simp only [last40, List.length_append, List.length_drop, List.length_singleton]
  by_cases h : xs.length ≤ 40
  · rw [show xs.length - 40 = 0 by omega]; simp
  · rw [show xs.length - (xs.length - 40) + 1 - 40 = 1 by omega, show xs.length + 1 - 40 = (xs.length - 40) + 1 by omega]
    rw [List.drop_append_of_le_length (by rw [List.length_drop]; omega), List.drop_append_of_le_length (by omega), List.drop_drop]
structure FullInv (p q : Nat) (s : RoadSt) : Prop where
  off1 : s.off (0, 1) = p
  off2 : s.off (0, 2) = q
  und1 : s.und 1 = last40 (upTo p)
  und2 : s.und 2 = last40 (upTo q)
  und0 : s.und 0 = []
  log : s.log.length = p + q
theorem FullInv.new : FullInv 0 0 RoadSt.new := ⟨rfl, rfl, rfl, rfl, rfl, rfl⟩
theorem upIt_is {p : Nat} (h : p < 1000000) : (shutIv 0 ((p : Int) + 1) p).it.is = true := by
  have h1 : betw ((p : Int) + 1) 1 1000000 = true := by simp [betw]; omega
  have h2 : betw (p : Int) 0 1000000 = true := by simp [betw]; omega
  simp only [It.is, shutIv, shutIt]
  rw [h1, h2]; rfl
theorem FullInv.one {p q : Nat} {s : RoadSt} (h : FullInv p q s) (hp : p < 100) (m : Mat) (hm : labove m 1 0 = true) :
    offerN m s (shutIv 0 ((p : Int) + 1) p).it 1 = 0 ∧ FullInv (p + 1) q (offerSt m s (shutIv 0 ((p : Int) + 1) p).it 1) := by
  have h0 : offerN m s (shutIv 0 ((p : Int) + 1) p).it 1 = 0 := by
    have h1 : labove m 1 (shutIv 0 ((p : Int) + 1) p).it.level = true := hm
    rw [offerN, if_pos (upIt_is (by omega)), if_pos h1, if_pos]
    show (p : Int) + 1 - 1 = s.off (0, 1)
    rw [h.off1]; omega
  refine ⟨h0, ?_⟩
  rw [offerSt, if_pos h0]
  refine ⟨?_, ?_, ?_, ?_, ?_, ?_⟩
  · show (if ((0 : Int), (1 : Int)) = (0, 1) then (p : Int) + 1 else s.off (0, 1)) = _
    rw [if_pos rfl]; omega
  · show (if ((0 : Int), (2 : Int)) = (0, 1) then (p : Int) + 1 else s.off (0, 2)) = _
    rw [if_neg (by decide)]; exact h.off2
  · show (if (1 : Int) = 1 then last40 (s.und 1 ++ [shutIt 0 ((p : Int) + 1) p]) else s.und 1) = _
    rw [if_pos rfl, h.und1, last40_snoc, upTo_succ]
  · show (if (2 : Int) = 1 then last40 (s.und 1 ++ [shutIt 0 ((p : Int) + 1) p]) else s.und 2) = _
    rw [if_neg (by decide)]; exact h.und2
  · show (if (0 : Int) = 1 then last40 (s.und 1 ++ [shutIt 0 ((p : Int) + 1) p]) else s.und 0) = _
    rw [if_neg (by decide)]; exact h.und0
  · have := h.log
    simp; omega
theorem FullInv.two {p q : Nat} {s : RoadSt} (h : FullInv p q s) (hq : q < 100) (m : Mat) (hm : labove m 2 0 = true) :
    offerN m s (shutIv 0 ((q : Int) + 1) q).it 2 = 0 ∧ FullInv p (q + 1) (offerSt m s (shutIv 0 ((q : Int) + 1) q).it 2) := by
  have h0 : offerN m s (shutIv 0 ((q : Int) + 1) q).it 2 = 0 := by
    have h1 : labove m 2 (shutIv 0 ((q : Int) + 1) q).it.level = true := hm
    rw [offerN, if_pos (upIt_is (by omega)), if_pos h1, if_pos]
    show (q : Int) + 1 - 1 = s.off (0, 2)
    rw [h.off2]; omega
  refine ⟨h0, ?_⟩
  rw [offerSt, if_pos h0]
  refine ⟨?_, ?_, ?_, ?_, ?_, ?_⟩
  · show (if ((0 : Int), (1 : Int)) = (0, 2) then (q : Int) + 1 else s.off (0, 1)) = _
    rw [if_neg (by decide)]; exact h.off1
  · show (if ((0 : Int), (2 : Int)) = (0, 2) then (q : Int) + 1 else s.off (0, 2)) = _
    rw [if_pos rfl]; omega
  · show (if (1 : Int) = 2 then last40 (s.und 2 ++ [shutIt 0 ((q : Int) + 1) q]) else s.und 1) = _
    rw [if_neg (by decide)]; exact h.und1
  · show (if (2 : Int) = 2 then last40 (s.und 2 ++ [shutIt 0 ((q : Int) + 1) q]) else s.und 2) = _
    rw [if_pos rfl, h.und2, last40_snoc, upTo_succ]
  · show (if (0 : Int) = 2 then last40 (s.und 2 ++ [shutIt 0 ((q : Int) + 1) q]) else s.und 0) = _
    rw [if_neg (by decide)]; exact h.und0
  · have := h.log
    simp; omega
/-- What For tells of the first p items. -/
theorem full_for {zs : List Iv} {p : Nat} (h : its zs = last40 (upTo p)) : zs.length = min p 40 ∧ ∀ i, (hi : i < zs.length) → zs[i].it.n = (p : Int) - zs.length + i + 1 := by
  have hl : zs.length = min p 40 := by
    have := congrArg List.length h
    rw [its_length, last40, List.length_drop, upTo_length] at this
    omega
  refine ⟨hl, fun i hi => ?_⟩
  have h1 : (its zs)[i]? = some zs[i].it := by simp [its, hi]
  rw [h, last40, List.getElem?_drop, upTo_length, List.getElem?_eq_getElem (by rw [upTo_length]; omega), upTo_get (by omega)] at h1
  have h2 := Option.some.inj h1
  rw [← h2]
  show ((p - 40 + i : Nat) : Int) + 1 = _
  omega
end Go.Proofs.Ytdknkbpgkkakhaa
