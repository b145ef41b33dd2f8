/- Layer 1: comparing, counting; chains. -/
import Derived.Test.YtdknkbpgkkakhaaDoorLat6
import Derived.Deep.OwnRows
namespace Go.Proofs.YtdknkbpgkkakhaaDoor
open Go.RowKit

def sameUp (xs ys : List Nat) (k : Nat) : Prop := xs.take k = ys.take k
theorem same_step {α : Type} {xs ys : List α} {k : Nat} (h : xs.take k = ys.take k) (h1 : k < xs.length) (h2 : k < ys.length) (e : xs[k] = ys[k]) : xs.take (k + 1) = ys.take (k + 1) := by
  rw [List.take_succ_eq_append_getElem h1, List.take_succ_eq_append_getElem h2, h, e]

def fewMat (n : Nat) (m : Mat) : Bool := m.all (fun r => decide (r.length ≤ n)) && decide (m.length ≤ n)
theorem fewMat_no {n : Nat} {rs : List Rw} {k : Nat} (hk : k < rs.length) (h : n < rs[k].bs.length) : fewMat n (mat rs) = false := by
  cases hf : fewMat n (mat rs)
  · rfl
  · simp only [fewMat, mat, Bool.and_eq_true, List.all_eq_true, decide_eq_true_eq] at hf
    have := hf.1 rs[k].bs (List.mem_map_of_mem (List.getElem_mem hk))
    omega
theorem fewMat_end {n : Nat} {rs : List Rw} (h : ∀ a, (h : a < rs.length) → a < rs.length → rs[a].bs.length ≤ n) : fewMat n (mat rs) = decide (rs.length ≤ n) := by
  rw [fewMat, mat_length, show (mat rs).all (fun r => decide (r.length ≤ n)) = true from ?_, Bool.true_and]
  simp only [List.all_eq_true, decide_eq_true_eq]
  intro r hr
  obtain ⟨x, hx, rfl⟩ := List.mem_map.1 hr
  obtain ⟨a, ha, rfl⟩ := List.getElem_of_mem hx
  exact h a ha ha
theorem fewMat_spec {n : Nat} {rs : List Rw} (h : fewMat n (mat rs) = true) : rs.length ≤ n ∧ ∀ r ∈ rs, r.bs.length ≤ n := by
  simp only [fewMat, mat_length, Bool.and_eq_true, List.all_eq_true, decide_eq_true_eq] at h
  exact ⟨h.2, fun r hr => h.1 r.bs (List.mem_map_of_mem hr)⟩

set_option maxHeartbeats 1000000 in
theorem few1_any (A : Option Addr) (c : Nat) (rs : List Rw) (w : World) (B : Nat) (hA : MatAt w B A rs) (hl : rs.length ≤ 9223372036854775807) :
    Calls Tryd.prog 8 #[.agg #[.slice A rs.length c]] w fun e w' => e = .returned (.bool (fewMat 10 (mat rs))) ∧ Ext w w' := by
  have hA1 := hA.ext (ext_alloc w (.cells #[.slice A rs.length c] 24))
  go_enter Tryd.func8, Tryd.ntmps8
  go_wp2
  go_loop [3] (fun i => ∃ k : Nat, k ≤ rs.length ∧ i = .int .i64 k ∧ Hid (∀ a, (h : a < rs.length) → a < k → rs[a].bs.length ≤ 10)) (fun i => rs.length - (intOf i).toNat)
  case atStart => exact ⟨0, Nat.zero_le _, rfl, fun a h ha => by omega⟩
  case round =>
    obtain ⟨k, hk, rfl, HS⟩ := hrel
    by_cases hlt : k < rs.length
    · obtain ⟨ad, rfl, p1⟩ := hA1.row hlt
      by_cases he : rs[k].bs.length ≤ 10
      · go_wp2
        go_round
        case rel => exact ⟨k + 1, hlt, by go_num, fun a h ha => by
          by_cases hak : a = k
          · subst hak; exact he
          · exact HS.out a h (by omega)⟩
        case measure => simp [intOf]; omega
      · go_wp2
        go_ret
        exact ⟨ret_bool (fewMat_no hlt (by omega)).symm, ext_alloc _ _⟩
    · obtain rfl : k = rs.length := by omega
      have HF := Lib.hid (fewMat_end HS.out)
      go_wp2
      go_ret
      refine ⟨ret_bool ?_, ext_alloc _ _⟩
      rw [HF.out, Bool.eq_iff_iff]; simp; try omega

def sameMat (a b : Mat) : Bool := a == b
theorem mat_get (rs : List Rw) {k : Nat} (hk : k < rs.length) : (mat rs)[k]? = some rs[k].bs := by simp [mat, hk]
theorem sameMat_no {rs ts : List Rw} {k : Nat} (hk : k < rs.length) (hk2 : k < ts.length) (h : rs[k].bs ≠ ts[k].bs) : sameMat (mat rs) (mat ts) = false := by
  cases hs : sameMat (mat rs) (mat ts)
  · rfl
  · exfalso
    have e : mat rs = mat ts := by simpa [sameMat] using hs
    have e1 := mat_get rs hk
    rw [e, mat_get ts hk2] at e1
    exact h (Option.some.inj e1).symm
theorem sameMat_len {rs ts : List Rw} (h : rs.length ≠ ts.length) : sameMat (mat rs) (mat ts) = false := by
  cases hs : sameMat (mat rs) (mat ts)
  · rfl
  · exfalso
    have e : mat rs = mat ts := by simpa [sameMat] using hs
    exact h (by rw [← mat_length, ← mat_length, e])
theorem mat_take (rs : List Rw) (k : Nat) : mat (rs.take k) = (mat rs).take k := by simp [mat]
theorem same_mat_step {rs ts : List Rw} {k : Nat} (h : (mat rs).take k = (mat ts).take k) (h1 : k < rs.length) (h2 : k < ts.length) (e : rs[k].bs = ts[k].bs) : (mat rs).take (k + 1) = (mat ts).take (k + 1) :=
  same_step h (by rw [mat_length]; exact h1) (by rw [mat_length]; exact h2) (by simpa [mat] using e)

set_option maxRecDepth 100000 in
set_option maxHeartbeats 2000000 in
theorem sameMat_any (A A' : Option Addr) (c c' : Nat) (rs ts : List Rw) (w : World) (B B' : Nat) (hA : MatAt w B A rs) (hA' : MatAt w B' A' ts) (hl : rs.length ≤ 9223372036854775807) (hr : ∀ r ∈ rs, r.bs.length ≤ 9223372036854775807) :
    Calls Tryd.prog 15 #[.agg #[.slice A rs.length c], .agg #[.slice A' ts.length c']] w fun e w' => e = .returned (.bool (sameMat (mat rs) (mat ts))) ∧ Ext w w' := by
  have b0 : Blk ((w.alloc (.cells #[.slice A rs.length c] 24)).alloc (.cells #[.slice A' ts.length c'] 24)) w.heap.size 24 #[.slice A rs.length c] := (Blk.new w 24 #[.slice A rs.length c]).ext (ext_alloc _ _)
  have b1 : Blk ((w.alloc (.cells #[.slice A rs.length c] 24)).alloc (.cells #[.slice A' ts.length c'] 24)) (w.heap.size + 1) 24 #[.slice A' ts.length c'] := by
    have := Blk.new (w.alloc (.cells #[.slice A rs.length c] 24)) 24 #[.slice A' ts.length c']
    simpa using this
  have hx : Ext w ((w.alloc (.cells #[.slice A rs.length c] 24)).alloc (.cells #[.slice A' ts.length c'] 24)) := ext_trans (ext_alloc _ _) (ext_alloc _ _)
  have bt : ((rs.length : Int) != ts.length) = true ∨ ((rs.length : Int) != ts.length) = false := by cases ((rs.length : Int) != ts.length) <;> simp
  go_enter Tryd.func15, Tryd.ntmps15
  go_upto_region 1 with fail
  generalize (w.alloc (.cells #[.slice A rs.length c] 24)).alloc (.cells #[.slice A' ts.length c'] 24) = w1 at b0 b1 hx ⊢
  generalize w.heap.size + 1 = g1 at b1 ⊢
  generalize w.heap.size = g0 at b0 ⊢
  have hA1 := hA.ext hx
  have hA2 := hA'.ext hx
  have k0 := b0.cell 0
  have k1 := b1.cell 0
  simp only [List.getElem?_toArray, List.getElem?_cons_zero] at k0 k1
  by_cases hn : rs.length = ts.length
  · have hb : ((rs.length : Int) != ts.length) = false := by simp [hn]
    have HN := Lib.hid hn; clear hn bt
    go_wp2
    clear k0 k1 hb
    go_loopw [5] (fun i wr => ∃ k : Nat, k ≤ rs.length ∧ i = .int .i64 k ∧ Hid ((mat rs).take k = (mat ts).take k) ∧ Ext w1 wr) (fun i _ => rs.length - (intOf i).toNat)
    case atStart => exact ⟨0, Nat.zero_le _, rfl, rfl, Below.refl _ _⟩
    case round =>
      obtain ⟨k, hk, rfl, HT, hext⟩ := hrel
      have k0 := (b0.ext hext).cell 0
      have k1 := (b1.ext hext).cell 0
      simp only [List.getElem?_toArray, List.getElem?_cons_zero] at k0 k1
      by_cases hlt : k < rs.length
      · have hlt2 : k < ts.length := by rw [← HN.out]; exact hlt
        obtain ⟨ad, rfl, p0⟩ := (hA1.ext hext).row hlt
        obtain ⟨ad', rfl, p1⟩ := (hA2.ext hext).row hlt2
        have hrl := hr _ (List.getElem_mem hlt)
        by_cases hln : rs[k].bs.length = ts[k].bs.length
        · have hb : ((rs[k].bs.length : Int) != ts[k].bs.length) = false := by simp [hln]
          have HLN := Lib.hid hln; clear hln
          go_wp2
          go_quiet (fail)
          clear hb
          go_wp2
          go_loopw [6] (fun i wi => ∃ l : Nat, l ≤ rs[k].bs.length ∧ i = .int .i64 l ∧ Hid (rs[k].bs.take l = ts[k].bs.take l) ∧ Ext w1 wi) (fun i _ => rs[k].bs.length - (intOf i).toNat)
          case atStart => exact ⟨0, Nat.zero_le _, rfl, rfl, ext_trans hext (ext_drewN _ _)⟩
          case round =>
            obtain ⟨l, hll, rfl, HL, hxi⟩ := hrel
            clear k0 k1 p0 p1 hext
            have k0 := (b0.ext hxi).cell 0
            have k1 := (b1.ext hxi).cell 0
            simp only [List.getElem?_toArray, List.getElem?_cons_zero] at k0 k1
            obtain ⟨adx, ex, p0⟩ := (hA1.ext hxi).row hlt
            obtain ⟨adx', ex', p1⟩ := (hA2.ext hxi).row hlt2
            obtain rfl : ad = adx := Option.some.inj ex
            obtain rfl : ad' = adx' := Option.some.inj ex'
            clear ex ex'
            by_cases hl2 : l < rs[k].bs.length
            · have hl3 : l < ts[k].bs.length := by rw [← HLN.out]; exact hl2
              obtain ⟨r0, er0, q0⟩ := BitsAt.get ((hA1.ext hxi).each _ (List.getElem_mem hlt)) hl2
              obtain ⟨r1, er1, q1⟩ := BitsAt.get ((hA2.ext hxi).each _ (List.getElem_mem hlt2)) hl3
              rw [er0] at p0
              rw [er1] at p1
              clear er0 er1
              obtain ⟨x, hxx⟩ : ∃ x, x = rs[k].bs[l] := ⟨_, rfl⟩
              obtain ⟨y, hyy⟩ : ∃ y, y = ts[k].bs[l] := ⟨_, rfl⟩
              rw [← hxx] at q0
              rw [← hyy] at q1
              have HX := Lib.hid hxx
              have HY := Lib.hid hyy
              clear hxx hyy
              cases x <;> cases y
              all_goals
                go_wp2
                go_quiet (fail)
                go_wp2
                first
                  | (go_roundw
                     case rel => exact ⟨l + 1, hl2, by go_num, same_step HL.out hl2 hl3 (by rw [← HX.out, ← HY.out]), ext_trans hxi (ext_drewN _ _)⟩
                     case measure => simp [intOf]; omega)
                  | (go_ret
                     refine ⟨ret_bool ?_, ext_trans hx (ext_trans hxi (ext_drewN _ _))⟩
                     refine (sameMat_no hlt hlt2 (fun e => ?_)).symm
                     have h1 := HX.out
                     have h2 := HY.out
                     simp only [e] at h1
                     rw [← h1] at h2
                     cases h2)
            · obtain rfl : l = rs[k].bs.length := by omega
              have HB : Hid (rs[k].bs = ts[k].bs) := by
                show _ = _
                have := HL.out
                rw [List.take_length, HLN.out, List.take_length] at this
                exact this
              go_wp2
              go_roundw
              case rel => exact ⟨k + 1, hlt, by go_num, same_mat_step HT.out hlt hlt2 HB.out, hxi⟩
              case measure => simp [intOf]; omega
        · have hb : ((rs[k].bs.length : Int) != ts[k].bs.length) = true := by simp; omega
          have HLN := Lib.hid hln; clear hln
          go_wp2
          go_quiet (fail)
          go_wp2
          go_ret
          exact ⟨ret_bool (sameMat_no hlt hlt2 (fun e => HLN.out (by rw [e]))).symm, ext_trans hx (ext_trans hext (ext_drewN _ _))⟩
      · obtain rfl : k = rs.length := by omega
        have HQ : Hid (sameMat (mat rs) (mat ts) = true) := by
          show _ = _
          have := HT.out
          rw [show rs.length = (mat rs).length from (mat_length rs).symm, List.take_length, mat_length, HN.out, ← mat_length, List.take_length] at this
          simpa [sameMat] using this
        go_wp2
        go_ret
        exact ⟨ret_bool HQ.out.symm, ext_trans hx hext⟩
  · have hb : ((rs.length : Int) != ts.length) = true := by simp; omega
    have HN := Lib.hid hn; clear hn bt
    go_wp2
    go_ret
    exact ⟨ret_bool (sameMat_len HN.out).symm, hx⟩
end Go.Proofs.YtdknkbpgkkakhaaDoor
