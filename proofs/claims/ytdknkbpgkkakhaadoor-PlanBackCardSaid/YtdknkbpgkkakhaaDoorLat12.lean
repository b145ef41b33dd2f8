/- Layer 1: chains, of the document. -/
import Derived.Test.YtdknkbpgkkakhaaDoorLat11
namespace Go.Proofs.YtdknkbpgkkakhaaDoor
open Go.RowKit
theorem info4 : (Tryd.prog.info? 4).map (fun i => (i.zero, i.size, i.bytes)) = some (some (.bool false), 1, 1) := by kernel_rfl
theorem set_below {w : World} {B : Nat} {ad : Addr} {b : Nat} {v : Value} (hB : B ≤ ad.block) : Below B w (w.setCell (ad.add b) v) :=
  (Below.refl _ _).setCell (by rw [block_of_add]; exact hB) v

set_option maxRecDepth 100000 in
set_option maxHeartbeats 4000000 in
theorem refChain_any (n : Int) (w : World) (h1 : -9223372036854775808 ≤ n) (h2 : n ≤ 9223372036854775807) :
    Calls Tryd.prog 21 #[.int .i64 n] w (ChainPost w (lchain n)) := by
  obtain ⟨hK1, hK6⟩ := chainK_le n
  have hx1 : Ext w (w.alloc (.cells #[.slice none 0 0] 24)) := ext_alloc _ _
  have r0 : Blk (w.alloc (.cells #[.slice none 0 0] 24)) w.heap.size 24 #[.slice none 0 0] := Blk.new _ _ _
  have hsz : (w.alloc (.cells #[.slice none 0 0] 24)).heap.size = w.heap.size + 1 := by simp
  go_enter Tryd.func21, Tryd.ntmps21
  go_upto_region 1 with fail
  go_cut [3] (fun s wc => s = .int .i64 (chainK n : Int) ∧ w.alloc (.cells #[.slice none 0 0] 24) = wc)
  case first =>
    have HK : Hid ((chainK n : Int) = min (max n 1) 6) := by show _ = _; unfold chainK; omega
    go_wp2
    all_goals
      go_meet
      refine ⟨congrArg (Value.int .i64) ?_, rfl⟩
      have := HK.out
      omega
  case rest =>
    obtain ⟨rfl, hwc⟩ := hcut
    obtain ⟨N, hN⟩ : ∃ N, N = chainK n := ⟨_, rfl⟩
    rw [← hN] at hK1 hK6 ⊢
    have HN := Lib.hid hN; clear hN h1 h2
    rw [hwc] at hx1 r0 hsz
    clear hwc
    obtain ⟨g, hg⟩ : ∃ g, g = wc.heap.size := ⟨_, rfl⟩
    have HSZ := Lib.hid hsz
    have M0 : Making (wc.alloc (.cells #[.slice none 0 0] 24)) w.heap.size g N 0 none 0 [] :=
      ⟨by rw [hg]; exact Blk.new _ _ _, Own.nil _ _, by rw [hg, hsz]; omega, by simp, rfl⟩
    have hx2 := ext_alloc wc (.cells #[.slice none 0 0] 24)
    clear hsz
    have hmk := run_make_row' (P := Tryd.prog) 38 4 (.bool false) 1 Tryd.underlying38 info4 rfl .i64 .i64 N (by omega) (by omega)
    go_upto_region 3 with fail
    rw [← hg]
    have HG := Lib.hid hg; clear hg
    generalize wc.alloc (.cells #[.slice none 0 0] 24) = w2 at M0 hx2 ⊢
    go_wp2
    go_loopw [5] (fun i wr => ∃ k : Nat, k ≤ N ∧ i = .int .i64 k ∧ (∃ A c rs, Making wr w.heap.size g N k A c rs) ∧ Ext wc wr) (fun i _ => N - (intOf i).toNat)
    case atStart => exact ⟨0, Nat.zero_le _, rfl, ⟨_, _, _, M0⟩, hx2⟩
    case round =>
      obtain ⟨k, hk, rfl, ⟨A, c, rs, HM⟩, hext⟩ := hrel
      obtain ⟨wo, rfl⟩ : ∃ wo : World, wo = wr := ⟨_, rfl⟩
      clear M0 hx2
      have hrl := HM.len
      by_cases hlt : k < N
      · have HRL := Lib.hid hrl; clear hrl
        go_upto_region 7 with fail
        have R0 := RowUp.new wo N
        have hx3 := ext_alloc wo (.cells (madeCells #[.bool false] N) 4)
        obtain ⟨ad, had, hab⟩ : ∃ ad : Addr, ad = ⟨wo.heap.size, 0, none⟩ ∧ ad.block = wo.heap.size := ⟨_, rfl, rfl⟩
        rw [← had] at R0 ⊢
        have HAB := Lib.hid hab
        clear had hab
        generalize wo.alloc (.cells (madeCells #[.bool false] N) 4) = w3 at R0 hx3 ⊢
        go_wp2
        go_loopw [7] (fun i wi => ∃ l : Nat, l ≤ k + 1 ∧ i = .int .i64 l ∧ RowUp wi ad N l ∧ Ext wo wi) (fun i _ => k + 1 - (intOf i).toNat)
        case atStart => exact ⟨0, Nat.zero_le _, rfl, R0, hx3⟩
        case round =>
          obtain ⟨l, hl, rfl, R, hxi⟩ := hrel
          clear R0 hx3
          by_cases hlk : l < k + 1
          · have hlN : l < N := by omega
            have p0 := R.cell hlN
            have f0 := R.free l
            have R2 := R.set hlN
            have hs2 : Below wo.heap.size wr (wr.setCell (ad.add l) (.bool true)) := set_below (Nat.le_of_eq HAB.out.symm)
            go_wp2
            go_roundw
            case rel => exact ⟨l + 1, hlk, by go_num, R2, hxi.trans hs2⟩
            case measure => simp [intOf]; omega
          · obtain rfl : l = k + 1 := by omega
            have HMI := HM.ext hxi
            have HRB : Hid (BitsAt wr w.heap.size (some ad) (chainRow N k)) := R.bits
            have HM2 := Lib.hid (HMI.ext (ext_alloc wr (.cells #[.slice (some ad) N N] 38)))
            have HB : Hid (RowsAt (wr.alloc (.cells #[.slice (some ad) N N] 38)) g 38 1 Rw.cells (some ⟨wr.heap.size, 0, none⟩) [⟨some ad, N, chainRow N k⟩]) := by
              have := rows_rw (w := wr) (B := g) ⟨some ad, N, chainRow N k⟩
              simp only [chainRow_length] at this
              exact this
            have c0 := HMI.blk.cell 0
            simp only [List.getElem?_toArray, List.getElem?_cons_zero] at c0
            have hgz : g + 1 ≤ wr.heap.size := HMI.blk.lt
            have hrl : rs.length ≤ 5 := by have := HRL.out; omega
            have hext2 := ext_trans hext hxi
            clear R HMI HM hext hxi
            go_wp2_with (at_builtin; refine wpList_append elRw rfl _ _ rfl (g + 1) (.slice A rs.length c) rs rfl HM2.out.own _ 1 [⟨some ad, N, chainRow N k⟩] rfl g HB.out (by show _ * 24 ≤ _; simp; omega) (by simp; omega) (by simp; omega) ?_; intro A2 c2 w4 hown4 hg4 hat4; obtain ⟨s1, s2, s3, s4⟩ := HM2.out.step (r := ⟨some ad, N, chainRow N k⟩) (RowsAt.ext HRB.out (ext_alloc _ _)) rfl hown4 hg4; have HS1 := Lib.hid s1; have HS2 := Lib.hid s2; clear s1 s2 hown4 hg4 hat4)
            go_roundw
            case rel => exact ⟨k + 1, hlt, by go_num, ⟨_, _, _, HS1.out⟩, (hext2.alloc hext2.size _).trans (by rw [← HG.out]; exact HS2.out)⟩
            case measure => simp [intOf]; omega
      · obtain rfl : k = N := by omega
        have HRL := Lib.hid hrl; clear hrl
        have c0 := HM.blk.cell 0
        have r1 := (r0.ext hext).cell 0
        have f1 := (r0.ext hext).frozen 0
        simp only [List.getElem?_toArray, List.getElem?_cons_zero] at c0 r1
        have r2 := (r0.ext hext).set_ 0 (.slice A rs.length c)
        have hne : g ≠ w.heap.size := by rw [HG.out, HSZ.out]; omega
        have HNE := Lib.hid hne; clear hne
        go_wp2
        have r3 := r2.cell 0
        simp only [List.setIfInBounds_toArray, List.set_cons_zero, List.getElem?_toArray, List.getElem?_cons_zero] at r3
        have hown2 : Own elRw (wo.setCell ⟨w.heap.size, 0, none⟩ (.slice A rs.length c)) (g + 1) (.slice A rs.length c) rs :=
          HM.own.mods (mods_setCell _ _ _) (fun b hb e => by
            have h1 := (HM.own.typed hb).1
            have h2 := HM.base
            have e' : b = w.heap.size := e
            omega)
        refine bodyPost_ret (v := .agg #[.slice A rs.length c]) (by simp [results, Tryd.results21, go_sem, r3]) rfl ⟨A, c, rs, rfl, ?_, ⟨hown2.rows, fun r hr => ?_⟩, ?_⟩
        · rw [HM.is, HN.out]; exact chainUp_all n
        · exact (HM.each r hr).keeps (T := [24]) (keeps_set1 (r0.ext hext) (Nat.le_refl _) 0 _) (by decide)
        · exact (ext_trans hx1 hext).setCell (Nat.le_refl _) _
end Go.Proofs.YtdknkbpgkkakhaaDoor
