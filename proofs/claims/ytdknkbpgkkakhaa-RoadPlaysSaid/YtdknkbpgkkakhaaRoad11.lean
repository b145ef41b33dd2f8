/- Layer 22: known. -/
import Derived.Test.YtdknkbpgkkakhaaRoad10
import Derived.Test.YtdknkbpgkkakhaaLat12
namespace Go.Proofs.Ytdknkbpgkkakhaa
open Go.RowKit
open Go.ChangeMaps (setBlock)

/-- An item that shuts a turn. -/
def shutIt (l n t : Int) : It := ⟨l, n, t, true, []⟩
def shutIv (l n t : Int) : Iv := ⟨shutIt l n t, none, 0⟩
theorem shutIv_ok (w : World) (B : Nat) (l n t : Int) : IvOk w B (shutIv l n t) := ⟨RowsAt.nil, fun _ h => absurd h (by simp [shutIv, shutIt]), by simp [shutIv, shutIt]⟩
theorem wf_0 : wf64 0 := by unfold wf64; decide
theorem wf_1 : wf64 1 := by unfold wf64; decide

theorem MatAt.more {w : World} {B B' : Nat} {A : Option Addr} {rs : List Rw} (h : MatAt w B A rs) (hB : B ≤ B') : MatAt w B' A rs :=
  ⟨RowsAt.more h.rows hB, fun r hr => RowsAt.more (h.each r hr) hB⟩

theorem RoadGo.blk {B : Nat} {w w' : World} {m m' : RoadMem} (h : RoadGo B w m w' m') {g : Nat} {t : TypeId} {cs : Array Value} (hb : Blk w g t cs) (hn : ¬ RoadOwn m g) : Blk w' g t cs ∧ ¬ RoadOwn m' g :=
  ⟨(h.free hb.lt hn).2.trans hb, (h.free hb.lt hn).1⟩

def kn1 : RoadSt := ⟨fun y => if y = (0, 1) then 1 else 0, fun t => if t = 1 then [shutIt 0 1 0] else [], [(1, shutIt 0 1 0)]⟩
def kn2 : RoadSt := ⟨kn1.off, fun u => if u = 1 then [] else kn1.und u, kn1.log⟩
def kn3 : RoadSt := updOff kn2 (0, 1) 0
theorem kn_1 : offerN (lchain 2) RoadSt.new (shutIv 0 1 0).it 1 = 0 ∧ offerSt (lchain 2) RoadSt.new (shutIv 0 1 0).it 1 = kn1 := by
  have h1 : offerN (lchain 2) RoadSt.new (shutIv 0 1 0).it 1 = 0 := by decide +kernel
  exact ⟨h1, by rw [offerSt, if_pos h1]; rfl⟩
theorem kn_2 : offerN (lchain 2) kn1 (shutIv 0 1 0).it 1 = 23 ∧ offerSt (lchain 2) kn1 (shutIv 0 1 0).it 1 = kn1 := by
  have h1 : offerN (lchain 2) kn1 (shutIv 0 1 0).it 1 = 23 := by decide +kernel
  exact ⟨h1, by rw [offerSt, if_neg (by rw [h1]; decide)]⟩
theorem kn_3 : offerN (lchain 2) kn1 (shutIv 1 1 0).it 0 = 20 ∧ offerSt (lchain 2) kn1 (shutIv 1 1 0).it 0 = kn1 := by
  have h1 : offerN (lchain 2) kn1 (shutIv 1 1 0).it 0 = 20 := by decide +kernel
  exact ⟨h1, by rw [offerSt, if_neg (by rw [h1]; decide)]⟩
theorem kn_4 : againSt (lchain 2) kn2 0 1 0 = kn3 := by
  rw [againSt, if_pos (by decide +kernel)]; rfl
theorem kn_5 : offerN (lchain 2) kn3 (shutIv 0 1 0).it 1 = 0 ∧ (offerSt (lchain 2) kn3 (shutIv 0 1 0).it 1).und 1 = [shutIt 0 1 0] ∧ (offerSt (lchain 2) kn3 (shutIv 0 1 0).it 1).log.length = 2 := by
  have h1 : offerN (lchain 2) kn3 (shutIv 0 1 0).it 1 = 0 := by decide +kernel
  exact ⟨h1, by rw [offerSt, if_pos h1]; rfl, by rw [offerSt, if_pos h1]; rfl⟩

set_option maxRecDepth 100000 in
set_option maxHeartbeats 8000000 in
theorem known22_any (w : World) : Calls Try.prog 58 #[] w fun e w' => e = .returned (.bool true) ∧ Ext w w' := by
  go_enter Try.func58, Try.ntmps58
  go_wp2_with fail
  refine (refChain_any 2 w (by decide) (by decide)).mono ?_
  rintro e w1 ⟨A, c, rs, rfl, hm, hM, x1⟩
  have HM := Lib.hid hm
  have hl : rs.length ≤ 9223372036854775807 := by rw [← mat_length, hm]; decide
  have HL := Lib.hid hl
  clear hm hl
  go_wp2_with fail
  refine (roadNew_any A c rs w1 (hM.more x1.size)).mono ?_
  rintro e w2 ⟨m, rfl, h, x2⟩
  have x3 := ext_trans x1 x2
  have HB := Lib.hid x1.size
  generalize w1.heap.size = B at h HB
  clear hM x1 x2
  go_upto_region 5 with fail
  have bx1 := Blk.new w2 33 #[.int .i64 0, .int .i64 1, .int .i64 0, .bool true, .slice none 0 0]
  have hf1 : ¬ RoadOwn m w2.heap.size := fun hc => Nat.lt_irrefl _ (h.own_lt hc).2
  have h1 := h.ext (ext_alloc w2 (.cells #[.int .i64 0, .int .i64 1, .int .i64 0, .bool true, .slice none 0 0] 33))
  replace x3 := (ext_trans x3 (ext_alloc w2 (.cells #[.int .i64 0, .int .i64 1, .int .i64 0, .bool true, .slice none 0 0] 33)))
  clear h
  generalize w2.alloc (.cells #[.int .i64 0, .int .i64 1, .int .i64 0, .bool true, .slice none 0 0] 33) = w3 at bx1 h1 x3 ⊢
  generalize w2.heap.size = g at bx1 hf1 ⊢
  have d0 := bx1.cell 0
  have d1 := bx1.cell 1
  have d2 := bx1.cell 2
  have d3 := bx1.cell 3
  have d4 := bx1.cell 4
  simp only [List.getElem?_toArray, List.getElem?_cons_zero, List.getElem?_cons_succ] at d0 d1 d2 d3 d4
  go_wp2_with fail
  refine (roadOffer_any h1 (shutIv 0 1 0) (shutIv_ok _ _ _ _ _) wf_1 HL.out (by decide)).mono ?_
  rintro e w4 ⟨rfl, m2, hra, h2, go⟩
  rw [HM.out, kn_1.1]
  rw [HM.out, kn_1.2] at h2
  rw [← hra]
  obtain ⟨bx2, hf2⟩ := go.blk bx1 hf1
  replace x3 := x3.trans (go.below.mono HB.out)
  clear hra go h1 bx1 hf1 d0 d1 d2 d3 d4
  have d0 := bx2.cell 0
  have d1 := bx2.cell 1
  have d2 := bx2.cell 2
  have d3 := bx2.cell 3
  have d4 := bx2.cell 4
  simp only [List.getElem?_toArray, List.getElem?_cons_zero, List.getElem?_cons_succ] at d0 d1 d2 d3 d4
  go_wp2_with fail
  refine (roadOffer_any h2 (shutIv 0 1 0) (shutIv_ok _ _ _ _ _) wf_1 HL.out (by decide)).mono ?_
  rintro e w5 ⟨rfl, m3, hra, h3, go⟩
  rw [HM.out, kn_2.1]
  rw [HM.out, kn_2.2] at h3
  rw [← hra]
  obtain ⟨bx3, hf3⟩ := go.blk bx2 hf2
  replace x3 := x3.trans (go.below.mono HB.out)
  clear hra go h2 bx2 hf2 d0 d1 d2 d3 d4
  have d0 := bx3.cell 0
  have d1 := bx3.cell 1
  have d2 := bx3.cell 2
  have d3 := bx3.cell 3
  have d4 := bx3.cell 4
  simp only [List.getElem?_toArray, List.getElem?_cons_zero, List.getElem?_cons_succ] at d0 d1 d2 d3 d4
  go_wp2_with fail
  refine (roadOffer_any h3 (shutIv 1 1 0) (shutIv_ok _ _ _ _ _) wf_0 HL.out (by decide)).mono ?_
  rintro e w6 ⟨rfl, m4, hra, h4, go⟩
  rw [HM.out, kn_3.1]
  rw [HM.out, kn_3.2] at h4
  rw [← hra]
  obtain ⟨bx4, hf4⟩ := go.blk bx3 hf3
  replace x3 := x3.trans (go.below.mono HB.out)
  clear hra go h3 bx3 hf3 d0 d1 d2 d3 d4
  have d0 := bx4.cell 0
  have d1 := bx4.cell 1
  have d2 := bx4.cell 2
  have d3 := bx4.cell 3
  have d4 := bx4.cell 4
  simp only [List.getElem?_toArray, List.getElem?_cons_zero, List.getElem?_cons_succ] at d0 d1 d2 d3 d4
  go_wp2_with fail
  refine (roadTake_stays h4 (k := 0) wf_1 (by decide)).mono ?_
  rintro e w7 ⟨A7, c7, rfl, _, y⟩
  replace h4 := h4.ext y
  replace x3 := ext_trans x3 y
  replace bx4 := bx4.ext y
  clear y d0 d1 d2 d3 d4
  have d0 := bx4.cell 0
  have d1 := bx4.cell 1
  have d2 := bx4.cell 2
  have d3 := bx4.cell 3
  have d4 := bx4.cell 4
  simp only [List.getElem?_toArray, List.getElem?_cons_zero, List.getElem?_cons_succ] at d0 d1 d2 d3 d4
  rw [show (kn1.und 1)[0] = shutIt 0 1 0 from rfl]
  simp only [shutIt, List.length_nil]
  have b7 := Blk.new w7 33 #[.int .i64 0, .int .i64 1, .int .i64 0, .bool true, .slice A7 0 c7]
  have y := ext_alloc w7 (.cells #[.int .i64 0, .int .i64 1, .int .i64 0, .bool true, .slice A7 0 c7] 33)
  have hf7 : ¬ RoadOwn m4 w7.heap.size := fun hc => Nat.lt_irrefl _ (h4.own_lt hc).2
  go_upto_region 9 with fail
  clear d0 d1 d2 d3 d4
  generalize w7.alloc (.cells #[.int .i64 0, .int .i64 1, .int .i64 0, .bool true, .slice A7 0 c7] 33) = w8 at b7 y ⊢
  generalize w7.heap.size = g7 at b7 hf7 ⊢
  replace h4 := h4.ext y
  replace x3 := ext_trans x3 y
  replace bx4 := bx4.ext y
  clear y
  go_wp2_with fail
  refine (roadTake_goes h4 (k := 0) wf_1 (by decide)).mono ?_
  rintro e w9 ⟨A9, c9, rfl, _, m9, hra, h9, go⟩
  rw [show (kn1.und 1)[0] = shutIt 0 1 0 from rfl]
  simp only [shutIt, List.length_nil]
  rw [← hra]
  obtain ⟨bx9, hf9⟩ := go.blk bx4 hf4
  obtain ⟨b79, hf79⟩ := go.blk b7 hf7
  replace h9 : RoadAt w9 B A c rs m9 kn2 := h9
  replace x3 := x3.trans (go.below.mono HB.out)
  clear hra go h4 bx4 hf4 b7 hf7
  go_wp2_with fail
  refine (roadTake_none (h9.ext (ext_alloc _ _)) (n := 0) wf_1 false (by decide)).mono ?_
  rintro e w10 ⟨rfl, y⟩
  replace y := ext_trans (ext_alloc _ _) y
  replace h9 := h9.ext y
  replace x3 := ext_trans x3 y
  replace bx9 := bx9.ext y
  replace b79 := b79.ext y
  clear y
  go_wp2_with fail
  refine (roadAgain_any (h9.ext (ext_alloc _ _)) (n := 0) wf_0 wf_1 HL.out).mono ?_
  rintro e w11 ⟨rfl, m11, hra, h11, go⟩
  rw [HM.out, kn_4] at h11
  rw [← hra]
  replace x3 := ext_trans x3 (ext_alloc w10 (.cells #[.int .i64 0, .int .i64 0, .int .i64 0, .bool false, .slice none 0 0] 33))
  obtain ⟨bx11, hf11⟩ := go.blk (bx9.ext (ext_alloc _ _)) hf9
  obtain ⟨b711, hf711⟩ := go.blk (b79.ext (ext_alloc _ _)) hf79
  replace x3 := x3.trans (go.below.mono HB.out)
  clear hra go h9 bx9 hf9 b79 hf79 hf711
  have d0 := bx11.cell 0
  have d1 := bx11.cell 1
  have d2 := bx11.cell 2
  have d3 := bx11.cell 3
  have d4 := bx11.cell 4
  have q1 := b711.cell 1
  simp only [List.getElem?_toArray, List.getElem?_cons_zero, List.getElem?_cons_succ] at d0 d1 d2 d3 d4 q1
  go_wp2_with fail
  refine (roadOffered_any h11 wf_0 wf_1).mono ?_
  rintro e w' ⟨rfl, rfl⟩
  rw [show kn3.off (0, 1) = 0 from rfl]
  go_wp2_with fail
  refine (roadOffer_any h11 (shutIv 0 1 0) (shutIv_ok _ _ _ _ _) wf_1 HL.out (by decide)).mono ?_
  rintro e w12 ⟨rfl, m12, hra, h12, go⟩
  rw [HM.out, kn_5.1]
  rw [HM.out] at h12
  rw [← hra]
  replace x3 := x3.trans (go.below.mono HB.out)
  clear hra go h11 bx11 hf11 b711 d0 d1 d2 d3 d4 q1
  go_wp2_with fail
  refine (roadFor_any h12 wf_1).mono ?_
  rintro e w13 ⟨v13, zs, rfl, hown, hzs, _, y⟩
  obtain ⟨Az, cz, rfl⟩ := hown.form
  have hz1 : zs.length = 1 := by
    rw [kn_5.2.1] at hzs
    have := congrArg List.length hzs
    rw [its_length] at this
    exact this
  rw [hz1]
  replace h12 := h12.ext y
  replace x3 := ext_trans x3 y
  clear y hown hzs hz1
  go_wp2_with fail
  refine (roadLog_any h12).mono ?_
  rintro e w14 ⟨v14, ps, rfl, hown, hps, _, y⟩
  obtain ⟨Ap, cp, rfl⟩ := hown.form
  have hp1 : ps.length = 2 := by
    have := congrArg List.length hps
    rw [prs_length, kn_5.2.2] at this
    exact this
  rw [hp1]
  replace x3 := ext_trans x3 y
  clear y hown hps hp1 h12
  go_wp2
  go_ret
  exact ⟨rfl, x3⟩
end Go.Proofs.Ytdknkbpgkkakhaa
