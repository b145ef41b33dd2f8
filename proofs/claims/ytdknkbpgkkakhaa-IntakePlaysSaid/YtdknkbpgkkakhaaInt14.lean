/- Layer 20: known. -/
import Derived.Test.YtdknkbpgkkakhaaInt13
namespace Go.Proofs.Ytdknkbpgkkakhaa
open Go.RowKit Go.Maps

theorem MatAt.up {w : World} {B B' : Nat} {A : Option Addr} {rs : List Rw} (h : MatAt w B A rs) (hB : B ≤ B') : MatAt w B' A rs :=
  ⟨RowsAt.more h.rows hB, fun r hr => RowsAt.more (h.each r hr) hB⟩
theorem IntInv.new : IntInv IntSt.new 0 := ⟨fun _ => ⟨Int.le_refl _, Int.le_refl _, by show (0 : Int) ≤ 1000000; decide⟩, fun k y h => (by cases h), Nat.le_refl _⟩
def kq1 : IntSt := (putSt (lchain 2) 1 IntSt.new (itIt 0 2 0 true)).1
def kq2 : IntSt := (putSt (lchain 2) 1 kq1 (itIt 0 1 0 false)).1
def kq3 : IntSt := (putSt (lchain 2) 1 kq2 (itIt 1 1 0 false)).1
def kq4 : IntSt := (putSt (lchain 2) 1 kq3 (itIt 0 1 0 false)).1
theorem kq_1 : putN (lchain 2) 1 IntSt.new (itIt 0 2 0 true) = 0 ∧ (putSt (lchain 2) 1 IntSt.new (itIt 0 2 0 true)).2.length = 0 ∧ kq1.cnt = 1 := by decide +kernel
theorem kq_2 : putN (lchain 2) 1 kq1 (itIt 0 1 0 false) = 0 ∧ (putSt (lchain 2) 1 kq1 (itIt 0 1 0 false)).2.length = 2 := by decide +kernel
theorem kq_3 : putN (lchain 2) 1 kq2 (itIt 1 1 0 false) = 20 := by decide +kernel
theorem kq_4 : putN (lchain 2) 1 kq3 (itIt 0 1 0 false) = 0 ∧ (putSt (lchain 2) 1 kq3 (itIt 0 1 0 false)).2.length = 0 := by decide +kernel
theorem kq_5 : rdy (lchain 2) kq4.over 1 0 = true ∧ rdy (lchain 2) (dropSt kq4 0).over 1 1 = false := by decide +kernel
theorem kq_6 : (ofL (lchain 2) kq4.came kq4.first 0).length = 1 ∧ (ofL (lchain 2) (dropSt kq4 0).came (dropSt kq4 0).first 0).length = 0 := by decide +kernel
theorem kq_7 : lv6 (dropSt kq4 0).have_ 0 = 2 ∧ lv6 (dropSt kq4 0).over 0 = 1 ∧ (dropSt kq4 0).cnt = 0 ∧ kq4.first = 0 := by decide +kernel
set_option maxRecDepth 100000 in
set_option maxHeartbeats 8000000 in
theorem known20_any (w : World) : Calls Try.prog 71 #[] w fun e w' => e = .returned (.bool true) ∧ Ext w w' := by
  go_enter Try.func71, Try.ntmps71
  go_wp2_with fail
  refine (refChain_any 2 w (by decide) (by decide)).mono ?_
  rintro e w1 ⟨A, c, rs, rfl, hm, hM, x1⟩
  have HM := Lib.hid hm
  have hl : rs.length ≤ 9223372036854775807 := by rw [← mat_length, hm]; decide
  have HL := Lib.hid hl
  clear hm hl
  go_wp2_with fail
  refine (intNew_any A c rs 1 w1 (hM.up x1.size)).mono ?_
  rintro e w2 ⟨m, rfl, h, x2⟩
  have x := ext_trans x1 x2
  have HB := Lib.hid x1.size
  obtain ⟨g0, hg0⟩ : ∃ g0, g0 = m.ga := ⟨_, rfl⟩
  rw [← hg0]
  have hga : Hid (m.ga = g0) := hg0.symm
  clear hg0
  generalize w1.heap.size = B at h HB
  have hinv := IntInv.new
  clear hM x1 x2
  go_wp2_with fail
  refine (it20_any _ 0 2 0 true).mono ?_
  rintro e w3 ⟨Ai, ci, rfl, hok, xi⟩
  replace h := h.ext xi
  replace x := ext_trans x xi
  go_wp2_with fail
  have hp := intPut_any h ⟨itIt 0 2 0 true, Ai, ci⟩ (hok B) hinv (by decide) HL.out
  rw [hga.out] at hp
  refine hp.mono ?_
  clear hp hok xi
  rintro e w4 ⟨v, zs, m', rfl, hown, hits, _, h', go⟩
  obtain ⟨Av0, cv0, rfl⟩ := hown.form
  rw [HM.out] at hits h'
  rw [HM.out, kq_1.1]
  have hlen : zs.length = 0 := by rw [← its_length, hits]; exact kq_1.2.1
  rw [hlen]
  clear hlen
  have hga' : Hid (m'.ga = g0) := go.ga.trans hga.out
  replace x := x.trans (go.below.mono HB.out)
  replace hinv := hinv.put (lev := 1) (lchain 2) (itIt 0 2 0 true)
  change IntAt _ _ _ _ _ _ _ kq1 at h'
  change IntInv kq1 _ at hinv
  clear hown hits h go hga
  clear m
  rename IntMem => m
  have h := h'
  have hga := hga'
  clear h' hga'
  go_wp2_with fail
  have hp := intHeld_any h
  rw [hga.out] at hp
  refine hp.mono ?_
  clear hp
  rintro e w5 ⟨rfl, rfl⟩
  rw [kq_1.2.2]
  go_wp2_with fail
  refine (it20_any _ 0 1 0 false).mono ?_
  rintro e w3 ⟨Ai, ci, rfl, hok, xi⟩
  replace h := h.ext xi
  replace x := ext_trans x xi
  go_wp2_with fail
  have hp := intPut_any h ⟨itIt 0 1 0 false, Ai, ci⟩ (hok B) hinv (by decide) HL.out
  rw [hga.out] at hp
  refine hp.mono ?_
  clear hp hok xi
  rintro e w4 ⟨v, zs, m', rfl, hown, hits, _, h', go⟩
  obtain ⟨Av1, cv1, rfl⟩ := hown.form
  rw [HM.out] at hits h'
  rw [HM.out, kq_2.1]
  have hlen : zs.length = 2 := by rw [← its_length, hits]; exact kq_2.2
  rw [hlen]
  clear hlen
  have hga' : Hid (m'.ga = g0) := go.ga.trans hga.out
  replace x := x.trans (go.below.mono HB.out)
  replace hinv := hinv.put (lev := 1) (lchain 2) (itIt 0 1 0 false)
  change IntAt _ _ _ _ _ _ _ kq2 at h'
  change IntInv kq2 _ at hinv
  clear hown hits h go hga
  clear m
  rename IntMem => m
  have h := h'
  have hga := hga'
  clear h' hga'
  go_wp2_with fail
  refine (it20_any _ 1 1 0 false).mono ?_
  rintro e w3 ⟨Ai, ci, rfl, hok, xi⟩
  replace h := h.ext xi
  replace x := ext_trans x xi
  go_wp2_with fail
  have hp := intPut_any h ⟨itIt 1 1 0 false, Ai, ci⟩ (hok B) hinv (by decide) HL.out
  rw [hga.out] at hp
  refine hp.mono ?_
  clear hp hok xi
  rintro e w4 ⟨v, zs, m', rfl, hown, hits, _, h', go⟩
  obtain ⟨Av2, cv2, rfl⟩ := hown.form
  rw [HM.out] at hits h'
  rw [HM.out, kq_3]
  have hga' : Hid (m'.ga = g0) := go.ga.trans hga.out
  replace x := x.trans (go.below.mono HB.out)
  replace hinv := hinv.put (lev := 1) (lchain 2) (itIt 1 1 0 false)
  change IntAt _ _ _ _ _ _ _ kq3 at h'
  change IntInv kq3 _ at hinv
  clear hown hits h go hga
  clear m
  rename IntMem => m
  have h := h'
  have hga := hga'
  clear h' hga'
  go_wp2_with fail
  refine (it20_any _ 0 1 0 false).mono ?_
  rintro e w3 ⟨Ai, ci, rfl, hok, xi⟩
  replace h := h.ext xi
  replace x := ext_trans x xi
  go_wp2_with fail
  have hp := intPut_any h ⟨itIt 0 1 0 false, Ai, ci⟩ (hok B) hinv (by decide) HL.out
  rw [hga.out] at hp
  refine hp.mono ?_
  clear hp hok xi
  rintro e w4 ⟨v, zs, m', rfl, hown, hits, _, h', go⟩
  obtain ⟨Av3, cv3, rfl⟩ := hown.form
  rw [HM.out] at hits h'
  rw [HM.out, kq_4.1]
  have hlen : zs.length = 0 := by rw [← its_length, hits]; exact kq_4.2
  rw [hlen]
  clear hlen
  have hga' : Hid (m'.ga = g0) := go.ga.trans hga.out
  replace x := x.trans (go.below.mono HB.out)
  replace hinv := hinv.put (lev := 1) (lchain 2) (itIt 0 1 0 false)
  change IntAt _ _ _ _ _ _ _ kq4 at h'
  change IntInv kq4 _ at hinv
  clear hown hits h go hga
  clear m
  rename IntMem => m
  have h := h'
  have hga := hga'
  clear h' hga'
  go_wp2_with fail
  have hp := intReady_any h 0 HL.out
  rw [hga.out] at hp
  refine hp.mono ?_
  clear hp
  rintro e w9 ⟨rfl, xr⟩
  rw [HM.out, kq_5.1]
  replace h := h.ext xr
  replace x := ext_trans x xr
  clear xr
  go_wp2_with fail
  have hp := intOf_all h 0 HL.out
  rw [hga.out] at hp
  refine hp.mono ?_
  clear hp
  rintro e w9 ⟨v, zs, rfl, hown, hits, _, xr⟩
  obtain ⟨Av, cv, rfl⟩ := hown.form
  rw [HM.out] at hits
  have hlen : zs.length = 1 := by rw [← its_length, hits]; exact kq_6.1
  rw [hlen]
  replace h := h.ext xr
  replace x := ext_trans x xr
  clear xr hown hlen hits
  go_wp2_with fail
  have hp := intCopy_any h
  rw [hga.out] at hp
  refine hp.mono ?_
  clear hp
  rintro e w9 ⟨m2, rfl, h2, xr, hnew⟩
  have hap : ∀ g, IntOwn m g → ¬ IntOwn m2 g := fun g hg hc => by
    have a1 := (h.own_lt hg).2
    have a2 := hnew g hc
    omega
  replace h := h.ext xr
  replace x := ext_trans x xr
  obtain ⟨g2, hg2⟩ : ∃ g2, g2 = m2.ga := ⟨_, rfl⟩
  rw [← hg2]
  have hga2 : Hid (m2.ga = g2) := hg2.symm
  clear hg2 xr hnew
  go_wp2_with fail
  have hp := intDrop_any h 0 (by decide) (by rw [kq_7.2.2.2]; decide)
  rw [hga.out] at hp
  refine hp.mono ?_
  clear hp
  rintro e w9 ⟨rfl, m', h', go⟩
  have hga' : Hid (m'.ga = g0) := go.ga.trans hga.out
  replace x := x.trans (go.below.mono HB.out)
  replace h2 := h2.mods go.mods hap (go.keeps h) (by decide) (by decide) (by decide)
  clear go hga hap h
  clear m
  rename IntMem => mz
  have h := h'
  have hga := hga'
  clear h' hga'
  go_wp2_with fail
  have hp := intReady_any h 1 HL.out
  rw [hga.out] at hp
  refine hp.mono ?_
  clear hp
  rintro e w9 ⟨rfl, xr⟩
  rw [HM.out, kq_5.2]
  replace h := h.ext xr
  replace x := ext_trans x xr
  replace h2 := h2.ext xr
  clear xr
  go_wp2_with fail
  have hp := intOf_all h 0 HL.out
  rw [hga.out] at hp
  refine hp.mono ?_
  clear hp
  rintro e w9 ⟨v, zs, rfl, hown, hits, _, xr⟩
  obtain ⟨Av, cv, rfl⟩ := hown.form
  rw [HM.out] at hits
  have hlen : zs.length = 0 := by rw [← its_length, hits]; exact kq_6.2
  rw [hlen]
  replace h := h.ext xr
  replace x := ext_trans x xr
  replace h2 := h2.ext xr
  clear xr hown hlen hits
  go_wp2_with fail
  have hp := intOf_all h2 0 HL.out
  rw [hga2.out] at hp
  refine hp.mono ?_
  clear hp
  rintro e w9 ⟨v, zs, rfl, hown, hits, _, xr⟩
  obtain ⟨Av, cv, rfl⟩ := hown.form
  rw [HM.out] at hits
  have hlen : zs.length = 1 := by rw [← its_length, hits]; exact kq_6.1
  rw [hlen]
  replace h := h.ext xr
  replace x := ext_trans x xr
  replace h2 := h2.ext xr
  clear xr hown hlen hits
  go_wp2_with fail
  have hp := intHave_any h 0
  rw [hga.out] at hp
  refine hp.mono ?_
  clear hp
  rintro e w9 ⟨rfl, rfl⟩
  rw [kq_7.1]
  go_wp2_with fail
  have hp := intOver_any h 0
  rw [hga.out] at hp
  refine hp.mono ?_
  clear hp
  rintro e w9 ⟨rfl, rfl⟩
  rw [kq_7.2.1]
  go_wp2_with fail
  have hp := intHeld_any h
  rw [hga.out] at hp
  refine hp.mono ?_
  clear hp
  rintro e w9 ⟨rfl, rfl⟩
  rw [kq_7.2.2.1]
  go_wp2_with fail
  go_ret
  exact ⟨rfl, x⟩
end Go.Proofs.Ytdknkbpgkkakhaa
