/- Layer 20: the walk of IntakeTurns. -/
import Derived.Test.YtdknkbpgkkakhaaInt14
namespace Go.Proofs.Ytdknkbpgkkakhaa
open Go.RowKit Go.Maps

theorem tq_1 : ∀ K : Nat, K < 5 → (putN (lchain 2) 1 IntSt.new (itIt 0 2 ((K : Int) + 1) false) = 0 ∧ (putSt (lchain 2) 1 IntSt.new (itIt 0 2 ((K : Int) + 1) false)).1.cnt = 1) := by decide +kernel
theorem tq_2 : ∀ K : Nat, K < 5 → (putN (lchain 2) 1 (putSt (lchain 2) 1 IntSt.new (itIt 0 2 ((K : Int) + 1) false)).1 (itIt 0 1 0 false) = 0 ∧ (putSt (lchain 2) 1 (putSt (lchain 2) 1 IntSt.new (itIt 0 2 ((K : Int) + 1) false)).1 (itIt 0 1 0 false)).2.length = 1 ∧ (putSt (lchain 2) 1 (putSt (lchain 2) 1 IntSt.new (itIt 0 2 ((K : Int) + 1) false)).1 (itIt 0 1 0 false)).1.cnt = 0 ∧ lv6 (putSt (lchain 2) 1 (putSt (lchain 2) 1 IntSt.new (itIt 0 2 ((K : Int) + 1) false)).1 (itIt 0 1 0 false)).1.have_ 0 = 1) := by decide +kernel
theorem tq_3 : ∀ K : Nat, K < 5 → (putN (lchain 2) 1 IntSt.new (itIt 0 1 ((K : Int) + 1) false) = 22 ∧ (putSt (lchain 2) 1 IntSt.new (itIt 0 1 ((K : Int) + 1) false)).1.cnt = 0 ∧ lv6 (putSt (lchain 2) 1 IntSt.new (itIt 0 1 ((K : Int) + 1) false)).1.have_ 0 = 0) := by decide +kernel
set_option maxRecDepth 100000 in
set_option maxHeartbeats 8000000 in
theorem intakeTurns_walk (a : Int) (b : Bool) (w : World) (ha : 0 ≤ a ∧ a ≤ 255) :
    Calls Try.prog 20 #[.int .u8 a, .bool b] w fun e w' => e = .returned (.bool true) ∧ Ext w w' := by
  obtain ⟨ha0, ha1⟩ := ha
  go_enter Try.func20, Try.ntmps20
  go_wp2_with fail
  refine (known20_any w).mono ?_
  rintro e w1 ⟨rfl, x1⟩
  go_wp2_with fail
  refine (refChain_any 2 w1 (by decide) (by decide)).mono ?_
  rintro e w2 ⟨A, c, rs, rfl, hm, hM, x2⟩
  have HM := Lib.hid hm
  have hl : rs.length ≤ 9223372036854775807 := by rw [← mat_length, hm]; decide
  have HL := Lib.hid hl
  clear hm hl
  go_wp2_with fail
  refine (intNew_any A c rs 1 w2 (hM.up x2.size)).mono ?_
  rintro e w3 ⟨m, rfl, h, x3⟩
  have x := ext_trans (ext_trans x1 x2) x3
  have HB := Lib.hid (ext_trans x1 x2).size
  obtain ⟨g0, hg0⟩ : ∃ g0, g0 = m.ga := ⟨_, rfl⟩
  rw [← hg0]
  have hga : Hid (m.ga = g0) := hg0.symm
  clear hg0
  generalize w2.heap.size = B at h HB
  have hinv := IntInv.new
  clear hM x1 x2 x3
  go_upto_region 4 with fail
  go_cut [6] (fun s wc => (∃ K : Nat, K < 5 ∧ s = .int .i64 ((K : Int) + 1)) ∧ w3 = wc)
  case first =>
    have m1 := Int.emod_nonneg a (b := 5) (by omega)
    have m2 := Int.emod_lt_of_pos a (b := 5) (by omega)
    go_wp2
    go_meet
    exact ⟨⟨(a % 5).toNat, by omega, congrArg (Value.int .i64) (by omega)⟩, rfl⟩
  case rest =>
    obtain ⟨⟨K, hK, rfl⟩, rfl⟩ := hcut
    clear ha0 ha1
    have k1 := Lib.hid (tq_1 K hK)
    have k2 := tq_2 K hK
    have k3 := Lib.hid (tq_3 K hK)
    cases b
    · go_wp2_with fail
      refine (it20_any _ 0 1 ((K : Int) + 1) false).mono ?_
      rintro e wi ⟨Ai, ci, rfl, hok, xi⟩
      replace h := h.ext xi
      replace x := ext_trans x xi
      go_wp2_with fail
      have hp := intPut_any h ⟨itIt 0 1 ((K : Int) + 1) false, Ai, ci⟩ (hok B) hinv (by decide) HL.out
      rw [hga.out] at hp
      refine hp.mono ?_
      clear hp hok xi
      rintro e wj ⟨v, zs, m', rfl, hown, hits, hzs, h', go⟩
      obtain ⟨Av, cAv, rfl⟩ := hown.form
      rw [HM.out] at hits h'
      rw [HM.out, k3.out.1]
      have hga' : Hid (m'.ga = g0) := go.ga.trans hga.out
      replace x := x.trans (go.below.mono HB.out)
      replace hinv := hinv.put (lev := 1) (lchain 2) (itIt 0 1 ((K : Int) + 1) false)
      clear hown hits hzs h go hga
      clear m
      rename IntMem => m
      have h := h'
      have hga := hga'
      clear h' hga'
      go_wp2_with fail
      have hp := intHave_any h 0
      rw [hga.out] at hp
      refine hp.mono ?_
      clear hp
      rintro e wk ⟨rfl, rfl⟩
      rw [k3.out.2.2]
      go_wp2_with fail
      have hp := intHeld_any h
      rw [hga.out] at hp
      refine hp.mono ?_
      clear hp
      rintro e wk ⟨rfl, rfl⟩
      rw [k3.out.2.1]
      go_wp2_with fail
      go_ret
      exact ⟨rfl, x⟩
    · go_wp2_with fail
      refine (it20_any _ 0 2 ((K : Int) + 1) false).mono ?_
      rintro e wi ⟨Ai, ci, rfl, hok, xi⟩
      replace h := h.ext xi
      replace x := ext_trans x xi
      go_wp2_with fail
      have hp := intPut_any h ⟨itIt 0 2 ((K : Int) + 1) false, Ai, ci⟩ (hok B) hinv (by decide) HL.out
      rw [hga.out] at hp
      refine hp.mono ?_
      clear hp hok xi
      rintro e wj ⟨v, zs, m', rfl, hown, hits, hzs, h', go⟩
      obtain ⟨Av, cAv, rfl⟩ := hown.form
      rw [HM.out] at hits h'
      rw [HM.out, k1.out.1]
      have hga' : Hid (m'.ga = g0) := go.ga.trans hga.out
      replace x := x.trans (go.below.mono HB.out)
      replace hinv := hinv.put (lev := 1) (lchain 2) (itIt 0 2 ((K : Int) + 1) false)
      obtain ⟨sa, hst⟩ : ∃ sa, sa = (putSt (lchain 2) 1 IntSt.new (itIt 0 2 ((K : Int) + 1) false)).1 := ⟨_, rfl⟩
      rw [← hst] at h' hinv
      have Hsa := Lib.hid hst
      clear hst
      clear hown hits hzs h go hga
      clear m
      rename IntMem => m
      have h := h'
      have hga := hga'
      clear h' hga'
      go_wp2_with fail
      rw [← Hsa.out] at k2
      replace k2 := Lib.hid k2
      have k1b : sa.cnt = 1 := by rw [Hsa.out]; exact k1.out.2
      have hp := intHeld_any h
      rw [hga.out] at hp
      refine hp.mono ?_
      clear hp
      rintro e wk ⟨rfl, rfl⟩
      rw [k1b]
      go_wp2_with fail
      refine (it20_any _ 0 1 0 false).mono ?_
      rintro e wi ⟨Ai, ci, rfl, hok, xi⟩
      replace h := h.ext xi
      replace x := ext_trans x xi
      go_wp2_with fail
      have hp := intPut_any h ⟨itIt 0 1 0 false, Ai, ci⟩ (hok B) hinv (by decide) HL.out
      rw [hga.out] at hp
      refine hp.mono ?_
      clear hp hok xi
      rintro e wj ⟨v, zs, m', rfl, hown, hits, hzs, h', go⟩
      obtain ⟨Aw, cAw, rfl⟩ := hown.form
      rw [HM.out] at hits h'
      rw [HM.out, k2.out.1]
      have hlen : zs.length = 1 := by rw [← its_length, hits]; exact k2.out.2.1
      rw [hlen]
      clear hlen
      have hga' : Hid (m'.ga = g0) := go.ga.trans hga.out
      replace x := x.trans (go.below.mono HB.out)
      replace hinv := hinv.put (lev := 1) (lchain 2) (itIt 0 1 0 false)
      clear hown hits hzs h go hga
      clear m
      rename IntMem => m
      have h := h'
      have hga := hga'
      clear h' hga'
      go_wp2_with fail
      have hp := intHeld_any h
      rw [hga.out] at hp
      refine hp.mono ?_
      clear hp
      rintro e wk ⟨rfl, rfl⟩
      rw [k2.out.2.2.1]
      go_wp2_with fail
      have hp := intHave_any h 0
      rw [hga.out] at hp
      refine hp.mono ?_
      clear hp
      rintro e wk ⟨rfl, rfl⟩
      rw [k2.out.2.2.2]
      go_wp2_with fail
      go_ret
      exact ⟨rfl, x⟩
end Go.Proofs.Ytdknkbpgkkakhaa
