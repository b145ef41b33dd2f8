/- Layer 22: what stands beside a road; the plain laws of RoadOrder. -/
import Derived.Test.YtdknkbpgkkakhaaRoad15
namespace Go.Proofs.Ytdknkbpgkkakhaa
open Go.RowKit

section
variable {w w' : World} {B : Nat} {A : Option Addr} {c : Nat} {rs : List Rw} {m m' : RoadMem} {s : RoadSt} {S : Nat → Prop} {T : List TypeId}
theorem RoadAt.modsF (h : RoadAt w B A c rs m s) (k : Mods S w w') (hS : ∀ g, S g → ¬ RoadOwn m g) (hk : Keeps B T w w') (h23 : 23 ∉ T) (h4 : 4 ∉ T) (h47 : 47 ∉ T) : RoadAt w' B A c rs m s := by
  refine ⟨h.base, h.apart, h.blk.mods k (fun e => hS _ e (.inl rfl)), h.offm.mods k (fun e => hS _ e (.inr (.inl rfl))), h.offs, h.undm.mods k (fun e => hS _ e (.inr (.inr (.inl rfl)))), ?_, h.sep, ?_, h.mat.keeps hk h23 h4, h.few, h.loglen⟩
  · intro t
    obtain ⟨us, u1, u2, u3⟩ := h.unds t
    exact ⟨us, u1.mods k (fun b hb e => hS b e (.inr (.inr (.inr (.inr ⟨t, hb⟩))))), u2, fun z hz => (u3 z hz).keeps hk h47⟩
  · obtain ⟨ps, p1, p2, p3⟩ := h.log
    exact ⟨ps, p1.mods k (fun b hb e => hS b e (.inr (.inr (.inr (.inl hb))))), p2, fun p hp => (p3 p hp).keeps hk h47⟩
theorem RoadAt.not_own (h : RoadAt w B A c rs m s) {g : Nat} {t : TypeId} {cs : Array Value} (hb : Blk w g t cs) (h1 : t ≠ 133) (h2 : t ≠ 94) (h3 : t ≠ 33) : ¬ RoadOwn m g := by
  rintro (rfl | rfl | rfl | hg | ⟨u, hg⟩)
  · exact blk_ne hb h.blk h1 rfl
  · exact h.offm.not_blk hb rfl
  · exact h.undm.not_blk hb rfl
  · obtain ⟨ps, p1, _⟩ := h.log
    obtain ⟨_, cur, hB⟩ := p1.blk hg
    exact blk_ne hb hB h2 rfl
  · obtain ⟨ys, y1, _⟩ := h.unds u
    obtain ⟨_, _, cur, hB⟩ := y1.typed hg
    exact blk_ne hb hB h3 rfl
theorem RoadGo.nats (go : RoadGo B w m w' m') (h : RoadAt w B A c rs m s) {base : Nat} {v : Value} {xs : List Nat} (ho : Own elNat w base v xs) : Own elNat w' base v xs :=
  ho.mods go.mods fun b hb hc => by
    obtain ⟨_, cur, hB⟩ := ho.blk hb
    exact h.not_own hB (by decide) (by decide) (by decide) hc
theorem RoadAt.grown (h : RoadAt w B A c rs m s) {base : Nat} {v : Value} {xs : List Nat} (ho : Own elNat w base v xs) (hB : B ≤ base) (hg : w.grownBy w' v.ownBlock) : RoadAt w' B A c rs m s :=
  h.modsF (T := [3]) (Mods.grown hg) (fun b hb hc => by
    obtain ⟨_, cur, hB⟩ := ho.blk hb
    exact h.not_own hB (by decide) (by decide) (by decide) hc) (ho.keeps hg hB) (by decide) (by decide) (by decide)
end

def ordIt (n : Nat) : It := shutIt 0 (n : Int) ((n : Int) - 1)
structure OrdInv (o n : Nat) (ls : List Nat) (s : RoadSt) : Prop where
  off1 : s.off (0, 1) = o
  off0 : s.off (1, 0) = 0
  und1 : s.und 1 = ls.map ordIt
  log : s.log.length = n
theorem OrdInv.new : OrdInv 0 0 [] RoadSt.new := ⟨rfl, rfl, rfl, rfl⟩
theorem OrdInv.offer {o n : Nat} {ls : List Nat} {s : RoadSt} (h : OrdInv o n ls s) (ho : o < 100) (hl : ls.length < 40) (m : Mat) (hm : labove m 1 0 = true) :
    offerN m s (shutIv 0 ((o : Int) + 1) o).it 1 = 0 ∧ OrdInv (o + 1) (n + 1) (ls ++ [o + 1]) (offerSt m s (shutIv 0 ((o : Int) + 1) o).it 1) := by
  have h0 : offerN m s (shutIv 0 ((o : Int) + 1) o).it 1 = 0 := by
    have h1 : labove m 1 (shutIv 0 ((o : Int) + 1) o).it.level = true := hm
    rw [offerN, if_pos (upIt_is (by omega)), if_pos h1, if_pos]
    show (o : Int) + 1 - 1 = s.off (0, 1)
    rw [h.off1]; omega
  refine ⟨h0, ?_⟩
  rw [offerSt, if_pos h0]
  refine ⟨?_, ?_, ?_, ?_⟩
  · show (if ((0 : Int), (1 : Int)) = (0, 1) then (o : Int) + 1 else s.off (0, 1)) = _
    rw [if_pos rfl]; omega
  · show (if ((1 : Int), (0 : Int)) = (0, 1) then (o : Int) + 1 else s.off (1, 0)) = _
    rw [if_neg (by decide)]; exact h.off0
  · show (if (1 : Int) = 1 then last40 (s.und 1 ++ [shutIt 0 ((o : Int) + 1) o]) else s.und 1) = _
    rw [if_pos rfl, h.und1, last40_length _ (by simp; omega), List.map_append]
    have e : ordIt (o + 1) = shutIt 0 ((o : Int) + 1) o := by
      rw [ordIt, show ((o + 1 : Nat) : Int) = (o : Int) + 1 by omega, show (o : Int) + 1 - 1 = o by omega]
    rw [List.map_singleton, e]
  · have := h.log
    simp; omega
theorem OrdInv.take {o n : Nat} {ls : List Nat} {s : RoadSt} (h : OrdInv o n ls s) (j : Nat) : OrdInv o n (ls.eraseIdx j) ⟨s.off, fun u => if u = 1 then (s.und 1).eraseIdx j else s.und u, s.log⟩ := by
  refine ⟨h.off1, h.off0, ?_, h.log⟩
  show (if (1 : Int) = 1 then (s.und 1).eraseIdx j else s.und 1) = _
  rw [if_pos rfl, h.und1, List.eraseIdx_eq_take_drop_succ, List.eraseIdx_eq_take_drop_succ, List.map_append, List.map_take, List.map_drop]
theorem OrdInv.again {o n : Nat} {ls : List Nat} {s : RoadSt} (h : OrdInv o n ls s) (k : Nat) (m : Mat) (hm : labove m 1 0 = true) : OrdInv k n ls (againSt m s 0 1 k) := by
  rw [againSt, if_pos hm]
  refine ⟨?_, ?_, h.und1, h.log⟩
  · show (if ((0 : Int), (1 : Int)) = (0, 1) then max (k : Int) 0 else s.off (0, 1)) = _
    rw [if_pos rfl]; omega
  · show (if ((1 : Int), (0 : Int)) = (0, 1) then max (k : Int) 0 else s.off (1, 0)) = _
    rw [if_neg (by decide)]; exact h.off0
theorem OrdInv.at_ {o n : Nat} {ls : List Nat} {s : RoadSt} (h : OrdInv o n ls s) {j : Nat} (hj : j < ls.length) : ∃ hh : j < (s.und 1).length, (s.und 1)[j] = ordIt ls[j] := by
  have hh : j < (s.und 1).length := by rw [h.und1, List.length_map]; exact hj
  refine ⟨hh, ?_⟩
  simp [h.und1]
theorem chain2_up : labove (lchain 2) 1 0 = true ∧ labove (lchain 2) 0 1 = false := by decide +kernel
end Go.Proofs.Ytdknkbpgkkakhaa
