/- Layer 1: chains, of the program. -/
import Derived.Test.YtdknkbpgkkakhaaLat10
namespace Go.Proofs.Ytdknkbpgkkakhaa
open Go.RowKit

theorem info23 : (Try.prog.info? 23).map (fun i => (i.zero, i.size, i.bytes)) = some (some (.slice none 0 0), 1, 24) := by kernel_rfl
theorem Rw.one (x : Rw) : ∀ u ∈ Rw.cells x, u.oneCell' = true := by intro u hu; simp [Rw.cells] at hu; subst hu; rfl
def elRw : Elem Rw := ⟨Rw.cells, 51, 23, 1, 24, _, fun _ => rfl, Rw.one, Try.underlying51, info23, rfl, by decide⟩
theorem rows_rw {w : World} {B : Nat} (r : Rw) : RowsAt (w.alloc (.cells #[.slice r.A r.bs.length r.c] 23)) B 23 1 Rw.cells (some ⟨w.heap.size, 0, none⟩) [r] :=
  rows_block (E := elRw) r (Blk.new w 23 #[.slice r.A r.bs.length r.c])

/-- A row of bools in the making: the first l of N are true. -/
def RowUp (w : World) (ad : Addr) (N l : Nat) : Prop :=
  (∃ cs, Blk w ad.block 4 cs ∧ cs.size = N ∧ ∀ b, b < N → cs[b]? = some (.bool (decide (b < l)))) ∧ ad.off = 0 ∧ ad.spot = none
theorem RowUp.new (w : World) (N : Nat) : RowUp (w.alloc (.cells (madeCells #[.bool false] N) 4)) ⟨w.heap.size, 0, none⟩ N 0 :=
  ⟨⟨_, Blk.new w 4 _, size_madeCells _ _, fun b hb => by simp [madeCells, hb, Nat.mod_one]⟩, rfl, rfl⟩
theorem RowUp.cell {w : World} {ad : Addr} {N l : Nat} (h : RowUp w ad N l) {b : Nat} (hb : b < N) : w.cell? (ad.add b) = some (.bool (decide (b < l))) := by
  obtain ⟨⟨cs, h1, h2, h3⟩, h4, h5⟩ := h
  rw [addr_at h4 h5, h1.cell, h3 b hb]
theorem RowUp.free {w : World} {ad : Addr} {N l : Nat} (h : RowUp w ad N l) (b : Nat) : w.frozen? (ad.add b) = false := by
  obtain ⟨⟨cs, h1, h2, h3⟩, h4, h5⟩ := h
  rw [addr_at h4 h5]; exact h1.frozen b
theorem RowUp.set {w : World} {ad : Addr} {N l : Nat} (h : RowUp w ad N l) (hl : l < N) : RowUp (w.setCell (ad.add l) (.bool true)) ad N (l + 1) := by
  obtain ⟨⟨cs, h1, h2, h3⟩, h4, h5⟩ := h
  rw [addr_at h4 h5]
  refine ⟨⟨_, h1.set_ l _, by simpa using h2, fun b hb => ?_⟩, h4, h5⟩
  rw [Array.getElem?_setIfInBounds]
  by_cases hab : l = b
  · subst hab
    rw [if_pos rfl, if_pos (by omega)]
    simp
  · rw [if_neg hab, h3 b hb]
    have : (b < l + 1) = (b < l) := by rw [eq_iff_iff]; omega
    simp only [this]
theorem RowUp.bits {w : World} {B : Nat} {ad : Addr} {N a : Nat} (h : RowUp w ad N (a + 1)) : BitsAt w B (some ad) (chainRow N a) := by
  intro i hi
  have hiN : i < N := by simpa [chainRow] using hi
  obtain ⟨cs, h1, h2, h3⟩ := h.1
  refine ⟨ad, rfl, .inr ⟨_, _, h1⟩, fun j v hj => ?_⟩
  have hj0 : j = 0 := by
    have := (List.getElem?_eq_some_iff.1 hj).1
    simp [bitCells] at this; exact this
  subst hj0
  have hv : v = .bool (chainRow N a)[i] := by simpa [bitCells] using hj.symm
  rw [hv, Nat.mul_one, add_zero, h.cell hiN]
  simp [chainRow, Nat.lt_succ_iff]
theorem chainRow_length (N a : Nat) : (chainRow N a).length = N := by simp [chainRow]
def chainUp (N k : Nat) : Mat := (List.range k).map fun a => chainRow N a
theorem chainUp_succ (N k : Nat) : chainUp N (k + 1) = chainUp N k ++ [chainRow N k] := by simp [chainUp, List.range_succ]
theorem chainUp_all (n : Int) : chainUp (chainK n) (chainK n) = lchain n := rfl
theorem chainK_le (n : Int) : 1 ≤ chainK n ∧ chainK n ≤ 6 := by unfold chainK; omega
theorem mat_append (rs : List Rw) (r : Rw) : mat (rs ++ [r]) = mat rs ++ [r.bs] := by simp [mat]

theorem keeps_set1 {w : World} {B g : Nat} {t : TypeId} {cs : Array Value} (hb : Blk w g t cs) (hB : B ≤ g) (i : Nat) (u : Value) : Keeps B [t] w (w.setCell ⟨g, i, none⟩ u) :=
  Keeps.of_mods (mods_setCell w ⟨g, i, none⟩ u) fun k hk => by
    subst hk
    refine ⟨hB, fun cs' t' fr hk => ?_⟩
    unfold Blk at hb
    rw [hb] at hk
    injection hk with hk
    injection hk with _ hk
    simp [hk]

/-- A lattice in the making: a variable that holds it, its rows. -/
structure Making (w : World) (B g : Nat) (N k : Nat) (A : Option Addr) (c : Nat) (rs : List Rw) : Prop where
  blk : Blk w g 53 #[.slice A rs.length c]
  own : Own elRw w (g + 1) (.slice A rs.length c) rs
  base : B ≤ g
  each : ∀ r ∈ rs, BitsAt w B r.A r.bs
  is : mat rs = chainUp N k
theorem Making.len {w : World} {B g N k : Nat} {A : Option Addr} {c : Nat} {rs : List Rw} (h : Making w B g N k A c rs) : rs.length = k := by
  have := congrArg List.length h.is
  simpa [mat, chainUp] using this
theorem Making.ext {w w' : World} {B g N k : Nat} {A : Option Addr} {c : Nat} {rs : List Rw} (h : Making w B g N k A c rs) (x : Ext w w') : Making w' B g N k A c rs :=
  ⟨h.blk.ext x, h.own.ext x, h.base, fun r hr => RowsAt.ext (h.each r hr) x, h.is⟩
theorem Making.step {W w4 : World} {B g N k : Nat} {A A2 : Option Addr} {c c2 : Nat} {rs : List Rw} {r : Rw} (h : Making W B g N k A c rs) (hr : BitsAt W B r.A r.bs) (hb : r.bs = chainRow N k)
    (hown : Own elRw w4 (g + 1) (.slice A2 (rs ++ [r]).length c2) (rs ++ [r])) (hg : W.grownBy w4 (Value.slice A rs.length c).ownBlock) :
    Making (w4.setCell ⟨g, 0, none⟩ (.slice A2 (rs.length + 1) c2)) B g N (k + 1) A2 c2 (rs ++ [r]) ∧ Below g W (w4.setCell ⟨g, 0, none⟩ (.slice A2 (rs.length + 1) c2)) ∧ w4.cell? ⟨g, 0, none⟩ = some (.slice A rs.length c) ∧ w4.frozen? ⟨g, 0, none⟩ = false := by
  have hng : ∀ b, (Value.slice A rs.length c).ownBlock = some b → b ≠ g := fun b hb => by have := (h.own.typed hb).1; omega
  have hng2 : ∀ b, (Value.slice A2 (rs ++ [r]).length c2).ownBlock = some b → b ≠ g := fun b hb => by have := (hown.typed hb).1; omega
  have hB := h.base
  have hk : Keeps B [23] W w4 := h.own.keeps hg (by omega)
  have hm := Mods.grown hg
  have hb4 : Blk w4 g 53 #[.slice A rs.length c] := h.blk.mods hm (fun e => hng g e rfl)
  have hsz := h.blk.lt
  have hbel : Below g W w4 := hm.below (by omega) (fun b hb => by have := (h.own.typed hb).1; omega)
  refine ⟨⟨by simpa using hb4.set_ 0 (.slice A2 (rs.length + 1) c2), hown.mods (mods_setCell _ _ _) (fun b hb => hng2 b hb), h.base, ?_, ?_⟩, ?_, ?_, ?_⟩
  · intro x hx
    have : BitsAt W B x.A x.bs := by
      rcases List.mem_append.1 hx with h1 | h1
      · exact h.each x h1
      · have e : x = r := by simpa using h1
        rw [e]; exact hr
    exact ((RowsAt.keeps this hk (by decide)).keeps (T := [53]) (keeps_set1 hb4 hB 0 _) (by decide))
  · rw [mat_append, h.is, chainUp_succ, hb]
  · exact hbel.setCell (Nat.le_refl _) _
  · simpa using hb4.cell 0
  · exact hb4.frozen 0

def ChainPost (w : World) (m : Mat) (e : Ending) (w' : World) : Prop :=
  ∃ A c rs, e = .returned (.agg #[.slice A rs.length c]) ∧ mat rs = m ∧ MatAt w' w.heap.size A rs ∧ Ext w w'

set_option maxRecDepth 100000 in
set_option maxHeartbeats 4000000 in
theorem latChain_any (n : Int) (w : World) (h1 : -9223372036854775808 ≤ n) (h2 : n ≤ 9223372036854775807) :
    Calls Try.prog 56 #[.int .i64 n] w (ChainPost w (lchain n)) := by
  obtain ⟨hK1, hK6⟩ := chainK_le n
  have hx1 : Ext w (w.alloc (.cells #[.slice none 0 0] 53)) := ext_alloc _ _
  have r0 : Blk (w.alloc (.cells #[.slice none 0 0] 53)) w.heap.size 53 #[.slice none 0 0] := Blk.new _ _ _
  have hsz : (w.alloc (.cells #[.slice none 0 0] 53)).heap.size = w.heap.size + 1 := by simp
  go_enter Try.func56, Try.ntmps56
  go_upto_region 1 with fail
  go_cut [0] (fun s wc => s = .int .i64 (chainK n : Int) ∧ w.alloc (.cells #[.slice none 0 0] 53) = wc)
  case first =>
    have HK : Hid ((chainK n : Int) = min (max n 1) 6) := by show _ = _; unfold chainK; omega
    go_wp2
    all_goals
      go_meet
      refine ⟨congrArg (Value.int .i64) ?_, rfl⟩
      have := HK.out
      omega
  case rest =>
    obtain ⟨rfl, hwc⟩ := hcut
    obtain ⟨N, hN⟩ : ∃ N, N = chainK n := ⟨_, rfl⟩
    rw [← hN] at hK1 hK6 ⊢
    have HN := Lib.hid hN; clear hN h1 h2
    rw [hwc] at hx1 r0 hsz
    clear hwc
    obtain ⟨g, hg⟩ : ∃ g, g = wc.heap.size := ⟨_, rfl⟩
    have HSZ := Lib.hid hsz
    have M0 : Making (wc.alloc (.cells #[.slice none 0 0] 53)) w.heap.size g N 0 none 0 [] :=
      ⟨by rw [hg]; exact Blk.new _ _ _, Own.nil _ _, by rw [hg, hsz]; omega, by simp, rfl⟩
    have hx2 := ext_alloc wc (.cells #[.slice none 0 0] 53)
    clear hsz
    have hmk := run_make_row' (P := Try.prog) 23 4 (.bool false) 1 Try.underlying23 info4 rfl .i64 .i64 N (by omega) (by omega)
    go_upto_region 3 with fail
    rw [← hg]
    have HG := Lib.hid hg; clear hg
    generalize wc.alloc (.cells #[.slice none 0 0] 53) = w2 at M0 hx2 ⊢
    go_wp2
    go_loopw [11] (fun i wr => ∃ k : Nat, k ≤ N ∧ i = .int .i64 k ∧ (∃ A c rs, Making wr w.heap.size g N k A c rs) ∧ Ext wc wr) (fun i _ => N - (intOf i).toNat)
    case atStart => exact ⟨0, Nat.zero_le _, rfl, ⟨_, _, _, M0⟩, hx2⟩
    case round =>
      obtain ⟨k, hk, rfl, ⟨A, c, rs, HM⟩, hext⟩ := hrel
      obtain ⟨wo, rfl⟩ : ∃ wo : World, wo = wr := ⟨_, rfl⟩
      clear M0 hx2
      have hrl := HM.len
      by_cases hlt : k < N
      · have HRL := Lib.hid hrl; clear hrl
        go_upto_region 7 with fail
        have R0 := RowUp.new wo N
        have hx3 := ext_alloc wo (.cells (madeCells #[.bool false] N) 4)
        obtain ⟨ad, had, hab⟩ : ∃ ad : Addr, ad = ⟨wo.heap.size, 0, none⟩ ∧ ad.block = wo.heap.size := ⟨_, rfl, rfl⟩
        rw [← had] at R0 ⊢
        have HAB := Lib.hid hab
        clear had hab
        generalize wo.alloc (.cells (madeCells #[.bool false] N) 4) = w3 at R0 hx3 ⊢
        go_wp2
        go_loopw [18] (fun i wi => ∃ l : Nat, l ≤ k + 1 ∧ i = .int .i64 l ∧ RowUp wi ad N l ∧ Ext wo wi) (fun i _ => k + 1 - (intOf i).toNat)
        case atStart => exact ⟨0, Nat.zero_le _, rfl, R0, hx3⟩
        case round =>
          obtain ⟨l, hl, rfl, R, hxi⟩ := hrel
          clear R0 hx3
          by_cases hlk : l < k + 1
          · have hlN : l < N := by omega
            have p0 := R.cell hlN
            have f0 := R.free l
            have R2 := R.set hlN
            have hs2 : Below wo.heap.size wr (wr.setCell (ad.add l) (.bool true)) := set_below (Nat.le_of_eq HAB.out.symm)
            go_wp2
            go_roundw
            case rel => exact ⟨l + 1, hlk, by go_num, R2, hxi.trans hs2⟩
            case measure => simp [intOf]; omega
          · obtain rfl : l = k + 1 := by omega
            have HMI := HM.ext hxi
            have HRB : Hid (BitsAt wr w.heap.size (some ad) (chainRow N k)) := R.bits
            have HM2 := Lib.hid (HMI.ext (ext_alloc wr (.cells #[.slice (some ad) N N] 23)))
            have HB : Hid (RowsAt (wr.alloc (.cells #[.slice (some ad) N N] 23)) g 23 1 Rw.cells (some ⟨wr.heap.size, 0, none⟩) [⟨some ad, N, chainRow N k⟩]) := by
              have := rows_rw (w := wr) (B := g) ⟨some ad, N, chainRow N k⟩
              simp only [chainRow_length] at this
              exact this
            have c0 := HMI.blk.cell 0
            simp only [List.getElem?_toArray, List.getElem?_cons_zero] at c0
            have hgz : g + 1 ≤ wr.heap.size := HMI.blk.lt
            have hrl : rs.length ≤ 5 := by have := HRL.out; omega
            have hext2 := ext_trans hext hxi
            clear R HMI HM hext hxi
            go_wp2_with (at_builtin; refine wpList_append elRw rfl _ _ rfl (g + 1) (.slice A rs.length c) rs rfl HM2.out.own _ 1 [⟨some ad, N, chainRow N k⟩] rfl g HB.out (by show _ * 24 ≤ _; simp; omega) (by simp; omega) (by simp; omega) ?_; intro A2 c2 w4 hown4 hg4 hat4; obtain ⟨s1, s2, s3, s4⟩ := HM2.out.step (r := ⟨some ad, N, chainRow N k⟩) (RowsAt.ext HRB.out (ext_alloc _ _)) rfl hown4 hg4; have HS1 := Lib.hid s1; have HS2 := Lib.hid s2; clear s1 s2 hown4 hg4 hat4)
            go_roundw
            case rel => exact ⟨k + 1, hlt, by go_num, ⟨_, _, _, HS1.out⟩, (hext2.alloc hext2.size _).trans (by rw [← HG.out]; exact HS2.out)⟩
            case measure => simp [intOf]; omega
      · obtain rfl : k = N := by omega
        have HRL := Lib.hid hrl; clear hrl
        have c0 := HM.blk.cell 0
        have r1 := (r0.ext hext).cell 0
        have f1 := (r0.ext hext).frozen 0
        simp only [List.getElem?_toArray, List.getElem?_cons_zero] at c0 r1
        have r2 := (r0.ext hext).set_ 0 (.slice A rs.length c)
        have hne : g ≠ w.heap.size := by rw [HG.out, HSZ.out]; omega
        have HNE := Lib.hid hne; clear hne
        go_wp2
        have r3 := r2.cell 0
        simp only [List.setIfInBounds_toArray, List.set_cons_zero, List.getElem?_toArray, List.getElem?_cons_zero] at r3
        have hown2 : Own elRw (wo.setCell ⟨w.heap.size, 0, none⟩ (.slice A rs.length c)) (g + 1) (.slice A rs.length c) rs :=
          HM.own.mods (mods_setCell _ _ _) (fun b hb e => by
            have h1 := (HM.own.typed hb).1
            have h2 := HM.base
            have e' : b = w.heap.size := e
            omega)
        refine bodyPost_ret (v := .agg #[.slice A rs.length c]) (by simp [results, Try.results56, go_sem, r3]) rfl ⟨A, c, rs, rfl, ?_, ⟨hown2.rows, fun r hr => ?_⟩, ?_⟩
        · rw [HM.is, HN.out]; exact chainUp_all n
        · exact (HM.each r hr).keeps (T := [53]) (keeps_set1 (r0.ext hext) (Nat.le_refl _) 0 _) (by decide)
        · exact (ext_trans hx1 hext).setCell (Nat.le_refl _) _
end Go.Proofs.Ytdknkbpgkkakhaa
