/- Layer 1: known. -/
import Derived.Test.YtdknkbpgkkakhaaLat13
namespace Go.Proofs.Ytdknkbpgkkakhaa
open Go.RowKit

theorem run_field53 (A : Option Addr) (n c : Nat) (w : World) : (Instr.field 53 (.agg #[.slice A n c]) 0).run Try.prog w = .ok (.slice A n c) w := by kernel_rfl

set_option maxRecDepth 100000 in
set_option maxHeartbeats 4000000 in
theorem known1_any (w : World) : Calls Try.prog 36 #[] w fun e w' => e = .returned (.bool true) ∧ Ext w w' := by
  go_enter Try.func36, Try.ntmps36
  go_wp2_with fail
  refine (diamond_any w).mono ?_
  rintro e w1 ⟨A, c, rs, rfl, hm, hM, x1⟩
  have HD := Lib.hid hm
  have hl4 : rs.length = 4 := by rw [← mat_length, hm]; rfl
  have HL := Lib.hid hl4
  have hl : rs.length ≤ 9223372036854775807 := by omega
  clear hl4 hm
  have b0 : Blk (w1.alloc (.cells #[.slice A rs.length c] 53)) w1.heap.size 53 #[.slice A rs.length c] := Blk.new _ _ _
  have x2 := ext_trans x1 (ext_alloc w1 (.cells #[.slice A rs.length c] 53))
  have hM2 := hM.ext (ext_alloc w1 (.cells #[.slice A rs.length c] 53))
  clear hM x1
  go_upto_region 2 with fail
  generalize w1.alloc (.cells #[.slice A rs.length c] 53) = wA at b0 x2 hM2 ⊢
  generalize w1.heap.size = g at b0 ⊢
  have ck := b0.cell 0
  simp only [List.getElem?_toArray, List.getElem?_cons_zero] at ck
  have P : Ext wA wA := Below.refl _ _
  go_wp2_with fail
  refine (latCovers_any A c rs 3 _ _ (hM2.ext P) hl).mono ?_
  rintro e v1 ⟨v, rfl, hown, y⟩
  obtain ⟨A1, c1, rfl⟩ := hown.form
  rw [show (lcovers (mat rs) 3).length = 2 by rw [HD.out]; decide]
  clear hown
  replace P := ext_trans P y
  replace ck := ext_cell y ck
  clear y
  go_wp2_with fail
  refine (latOrder_any A c rs _ _ (hM2.ext P) hl).mono ?_
  rintro e v2 ⟨v, rfl, hown, y⟩
  obtain ⟨A2, c2, rfl⟩ := hown.form
  have hR : NatsAt v2 v1.heap.size A2 (lorder (mat rs)) := hown.rows
  have ho : lorder (mat rs) = [0, 1, 2, 3] := by rw [HD.out]; decide
  rw [ho] at hR
  rw [ho]
  clear hown ho
  have hRR := Lib.hid hR; clear hR
  replace P := ext_trans P y
  replace ck := ext_cell y ck
  clear y
  have P2 : Ext v2 v2 := Below.refl _ _
  go_wp2_with fail
  refine (latJoin_any A c rs 1 2 _ _ (hM2.ext P) hl).mono ?_
  rintro e v3 ⟨rfl, y⟩
  rw [show joinN (mat rs) 1 2 = 3 by rw [HD.out]; decide, show joinB (mat rs) 1 2 = true by rw [HD.out]; decide]
  replace P := ext_trans P y
  replace P2 := ext_trans P2 y
  replace ck := ext_cell y ck
  clear y
  go_wp2_with fail
  refine (check_any A c rs _ _ (hM2.ext P) hl).mono ?_
  rintro e v4 ⟨rfl, y⟩
  rw [show lchk (mat rs) = 0 by rw [HD.out]; decide]
  replace P := ext_trans P y
  replace P2 := ext_trans P2 y
  replace ck := ext_cell y ck
  clear y
  go_wp2_with fail
  refine (check_any none 0 [] _ 0 ⟨RowsAt.nil, by simp⟩ (by decide)).mono ?_
  rintro e v5 ⟨rfl, y⟩
  rw [show lchk (mat []) = 10 by decide]
  replace P := ext_trans P y
  replace P2 := ext_trans P2 y
  replace ck := ext_cell y ck
  clear y
  go_wp2_with fail
  have hF : MatAt ((v5.alloc (.cells #[.bool false] 4)).alloc (.cells #[.slice (some ⟨v5.heap.size, 0, none⟩) 1 1] 23)) 0 (some ⟨v5.heap.size + 1, 0, none⟩) [⟨some ⟨v5.heap.size, 0, none⟩, 1, [false]⟩] := by
    have q := Blk.new (v5.alloc (.cells #[.bool false] 4)) 23 #[.slice (some ⟨v5.heap.size, 0, none⟩) 1 1]
    rw [show (v5.alloc (.cells #[.bool false] 4)).heap.size = v5.heap.size + 1 by simp] at q
    refine ⟨rws_list _ q, fun r hr => ?_⟩
    have e : r = ⟨some ⟨v5.heap.size, 0, none⟩, 1, [false]⟩ := by simpa using hr
    subst e
    exact RowsAt.ext (bits_list [false] (Blk.new _ _ _)) (ext_alloc _ _)
  refine (check_any (some ⟨v5.heap.size + 1, 0, none⟩) 1 [⟨some ⟨v5.heap.size, 0, none⟩, 1, [false]⟩] _ 0 hF (by simp)).mono ?_
  clear hF
  rintro e v6 ⟨rfl, y⟩
  replace y := ext_trans (ext_alloc v5 (.cells #[.bool false] 4)) (ext_trans (ext_alloc _ (.cells #[.slice (some ⟨v5.heap.size, 0, none⟩) 1 1] 23)) y)
  rw [show lchk (mat [(⟨some ⟨v5.heap.size, 0, none⟩, 1, [false]⟩ : Rw)]) = 11 from by show lchk [[false]] = 11; decide]
  replace P := ext_trans P y
  replace P2 := ext_trans P2 y
  replace ck := ext_cell y ck
  clear y
  go_wp2_with fail
  refine (latLevels_any A c rs _ _ (hM2.ext P) hl).mono ?_
  rintro e v7 ⟨rfl, y⟩
  rw [show levels (mat rs) = 4 by rw [HD.out]; decide]
  replace P := ext_trans P y
  replace P2 := ext_trans P2 y
  replace ck := ext_cell y ck
  clear y
  go_wp2_with fail
  refine (latDom_any A c rs 3 0 _ _ (hM2.ext P) hl).mono ?_
  rintro e v8 ⟨rfl, y⟩
  rw [show ldom (mat rs) 3 0 = true by rw [HD.out]; decide]
  replace P := ext_trans P y
  replace P2 := ext_trans P2 y
  replace ck := ext_cell y ck
  clear y
  go_wp2_with fail
  refine (latDom_any A c rs 1 2 _ _ (hM2.ext P) hl).mono ?_
  rintro e v9 ⟨rfl, y⟩
  rw [show ldom (mat rs) 1 2 = false by rw [HD.out]; decide]
  replace P := ext_trans P y
  replace P2 := ext_trans P2 y
  replace ck := ext_cell y ck
  clear y
  go_wp2_with fail
  refine (latAbove_any A c rs 3 0 _ _ (hM2.ext P) hl).mono ?_
  rintro e v10 ⟨rfl, y⟩
  rw [show labove (mat rs) 3 0 = true by rw [HD.out]; decide]
  replace P := ext_trans P y
  replace P2 := ext_trans P2 y
  replace ck := ext_cell y ck
  clear y
  go_wp2_with fail
  refine (latAbove_any A c rs 3 3 _ _ (hM2.ext P) hl).mono ?_
  rintro e v11 ⟨rfl, y⟩
  rw [show labove (mat rs) 3 3 = false by rw [HD.out]; decide]
  replace P := ext_trans P y
  replace P2 := ext_trans P2 y
  replace ck := ext_cell y ck
  clear y
  go_wp2_with fail
  refine (latBelow_any A c rs 3 _ _ (hM2.ext P) hl).mono ?_
  rintro e v12 ⟨v, rfl, hown, y⟩
  obtain ⟨A3, c3, rfl⟩ := hown.form
  rw [show (lbelow (mat rs) 3).length = 3 by rw [HD.out]; decide]
  clear hown
  replace P := ext_trans P y
  replace P2 := ext_trans P2 y
  replace ck := ext_cell y ck
  clear y
  obtain ⟨ad, ea, p3⟩ := NatsAt.get (RowsAt.ext hRR.out P2) (k := 3) (by decide)
  subst ea
  change v12.cell? ⟨ad.block, ad.off + 3, none⟩ = some (.int .i64 3) at p3
  go_wp2_with fail
  refine (latChain_any 2 _ (by decide) (by decide)).mono ?_
  rintro e v13 ⟨A4, c4, rs4, rfl, hm4, hM4, y⟩
  replace P := ext_trans P y
  have hl4 : rs4.length = 2 := by rw [← mat_length, hm4]; decide
  rw [hl4]
  clear y hm4 hM4 hl4
  have hfld := run_field53 A4 2 c4
  go_wp2
  go_ret
  exact ⟨rfl, ext_trans x2 P⟩
end Go.Proofs.Ytdknkbpgkkakhaa
