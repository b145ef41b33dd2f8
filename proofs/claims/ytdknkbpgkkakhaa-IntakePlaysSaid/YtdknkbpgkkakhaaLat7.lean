/- Layer 1: Order, of the program. -/
import Derived.Test.YtdknkbpgkkakhaaLat6
import Derived.Deep.OwnRows
namespace Go.Proofs.Ytdknkbpgkkakhaa
open Go.RowKit

theorem info4 : (Try.prog.info? 4).map (fun i => (i.zero, i.size, i.bytes)) = some (some (.bool false), 1, 1) := by kernel_rfl
def lenOf : Value → Nat
  | .slice _ n _ => n
  | _ => 0
/-- Which levels are taken, in a block of its own. -/
def DoneBlk (w : World) (ad : Addr) (N : Nat) (out : List Nat) : Prop :=
  (∃ cs T, Blk w ad.block T cs ∧ cs.size = N ∧ ∀ b, b < N → cs[b]? = some (.bool (out.contains b))) ∧ ad.off = 0 ∧ ad.spot = none
theorem addr_at {ad : Addr} (h : ad.off = 0) (hv : ad.spot = none) (b : Nat) : ad.add b = ⟨ad.block, b, none⟩ := by
  obtain ⟨k, o, v⟩ := ad
  dsimp only at h hv
  subst h hv
  unfold Addr.add
  by_cases hb : b = 0
  · subst hb; rfl
  · rw [if_neg hb]; simp
theorem DoneBlk.cell {w : World} {ad : Addr} {N : Nat} {out : List Nat} (h : DoneBlk w ad N out) {b : Nat} (hb : b < N) : w.cell? (ad.add b) = some (.bool (out.contains b)) := by
  obtain ⟨⟨cs, T, h1, h2, h3⟩, h4, h5⟩ := h
  rw [addr_at h4 h5, h1.cell, h3 b hb]
theorem DoneBlk.free {w : World} {ad : Addr} {N : Nat} {out : List Nat} (h : DoneBlk w ad N out) (b : Nat) : w.frozen? (ad.add b) = false := by
  obtain ⟨⟨cs, T, h1, h2, h3⟩, h4, h5⟩ := h
  rw [addr_at h4 h5]; exact h1.frozen b
theorem DoneBlk.ext {w w' : World} {ad : Addr} {N : Nat} {out : List Nat} (h : DoneBlk w ad N out) (k : Ext w w') : DoneBlk w' ad N out := by
  obtain ⟨⟨cs, T, h1, h2, h3⟩, h4, h5⟩ := h
  exact ⟨⟨cs, T, h1.ext k, h2, h3⟩, h4, h5⟩
theorem DoneBlk.below {w w' : World} {B : Nat} {ad : Addr} {N : Nat} {out : List Nat} (h : DoneBlk w ad N out) (k : Below B w w') (hb : ad.block < B) : DoneBlk w' ad N out := by
  obtain ⟨⟨cs, T, h1, h2, h3⟩, h4, h5⟩ := h
  exact ⟨⟨cs, T, (k.block _ hb).trans h1, h2, h3⟩, h4, h5⟩
theorem DoneBlk.set {w : World} {ad : Addr} {N : Nat} {out : List Nat} (h : DoneBlk w ad N out) {a : Nat} (_ha : a < N) : DoneBlk (w.setCell (ad.add a) (.bool true)) ad N (out ++ [a]) := by
  obtain ⟨⟨cs, T, h1, h2, h3⟩, h4, h5⟩ := h
  rw [addr_at h4 h5]
  refine ⟨⟨_, T, h1.set_ a _, by simpa using h2, fun b hb => ?_⟩, h4, h5⟩
  rw [Array.getElem?_setIfInBounds]
  by_cases hab : a = b
  · subst hab
    rw [if_pos rfl, if_pos (by omega)]
    simp
  · rw [if_neg hab, h3 b hb]
    simp [Ne.symm hab]
theorem DoneBlk.new (w : World) (N : Nat) : DoneBlk (w.alloc (.cells (madeCells #[.bool false] N) 4)) ⟨w.heap.size, 0, none⟩ N [] :=
  ⟨⟨_, _, Blk.new w 4 _, size_madeCells _ _, fun b hb => by simp [madeCells, hb, Nat.mod_one]⟩, rfl, rfl⟩
theorem set_below {w : World} {B : Nat} {ad : Addr} {b : Nat} {v : Value} (hB : B ≤ ad.block) : Below B w (w.setCell (ad.add b) v) :=
  (Below.refl _ _).setCell (by rw [block_of_add]; exact hB) v

theorem find_first {N : Nat} {p : Nat → Bool} {a : Nat} (h : (List.range N).find? p = some a) : a < N ∧ p a = true ∧ ∀ j, j < a → p j = false := by
  rw [List.find?_range_eq_some] at h
  exact ⟨List.mem_range.1 h.2.1, h.1, fun j hj => by simpa using h.2.2 j hj⟩

set_option maxRecDepth 100000 in
set_option maxHeartbeats 4000000 in
theorem latOrder_any (A : Option Addr) (c : Nat) (rs : List Rw) (w : World) (B : Nat) (hA : MatAt w B A rs) (hl : rs.length ≤ 9223372036854775807) :
    Calls Try.prog 53 #[.agg #[.slice A rs.length c]] w (NatsPost w (lorder (mat rs))) := by
  have h6 := levels_le (mat rs)
  go_enter Try.func53, Try.ntmps53
  go_wp2_with fail
  refine (latLevels_any A c rs _ B (hA.ext (ext_alloc _ _)) hl).mono ?_
  rintro e w1 ⟨rfl, x1⟩
  have b0 : Blk w1 w.heap.size 53 #[.slice A rs.length c] := (Blk.new w 53 #[.slice A rs.length c]).ext x1
  have hx : Ext w w1 := ext_trans (ext_alloc _ _) x1
  clear x1
  obtain ⟨N, hN⟩ : ∃ N, N = levels (mat rs) := ⟨_, rfl⟩
  rw [← hN] at h6 ⊢
  have HN := Lib.hid hN; clear hN
  have hmk := run_make_row' (P := Try.prog) 23 4 (.bool false) 1 Try.underlying23 info4 rfl .i64 .i64 N (by omega) (by omega)
  go_wp2
  have D0 := DoneBlk.new w1 N
  have hx2 := ext_alloc w1 (.cells (madeCells #[.bool false] N) 4)
  have hg : w1.heap.size + 1 ≤ (w1.alloc (.cells (madeCells #[.bool false] N) 4)).heap.size := by simp
  obtain ⟨ad, had, hab⟩ : ∃ ad : Addr, ad = ⟨w1.heap.size, 0, none⟩ ∧ ad.block = w1.heap.size := ⟨_, rfl, rfl⟩
  rw [← had] at D0 ⊢
  generalize w1.alloc (.cells (madeCells #[.bool false] N) 4) = w2 at D0 hx2 hg ⊢
  have HAB := Lib.hid hab
  clear had hmk hab
  go_loopw [5] (fun v wr => ∃ (out : List Nat), out.length ≤ N ∧ Hid (Taken (mat rs) out) ∧ Hid (orderGo (mat rs) (N - out.length) out = lorder (mat rs)) ∧ Own elNat wr (w1.heap.size + 1) v out ∧ DoneBlk wr ad N out ∧ Ext w1 wr ∧ w1.heap.size + 1 ≤ wr.heap.size) (fun v _ => N - lenOf v)
  case atStart => exact ⟨[], Nat.zero_le _, Taken.nil _, by show _ = _; rw [HN.out]; rfl, Own.nil _ _, D0, hx2, hg⟩
  case round =>
    obtain ⟨out, hk, HT, HG, hown, hD, hext, hz⟩ := hrel
    obtain ⟨wo, rfl⟩ : ∃ wo : World, wo = wr := ⟨_, rfl⟩
    clear D0 hx2 hg
    obtain ⟨Ao, co, rfl⟩ := hown.form
    by_cases hlt : out.length < N
    · obtain ⟨k, hkk⟩ : ∃ k, N = out.length + (k + 1) := ⟨N - out.length - 1, by omega⟩
      obtain ⟨a, hfind, hgo, ha, hf⟩ := order_step (k := k) HT.out (by rw [← HN.out]; omega)
      have hfirst := find_first hfind
      rw [← HN.out] at ha
      have HF := Lib.hid (And.intro hfirst.2.1 hfirst.2.2)
      have HG2 : Hid (orderGo (mat rs) (N - (out ++ [a]).length) (out ++ [a]) = lorder (mat rs)) := by
        show _ = _
        rw [← HG.out, show N - out.length = k + 1 by omega, hgo]; simp; rw [show N - (out.length + 1) = k by omega]
      clear hfind hgo hf hfirst hkk
      go_wp2
      go_step3
      go_wp2
      go_step3
      go_wp2
      go_loopw [5, 18] (fun v i wi => v = .slice Ao out.length co ∧ ∃ j : Nat, j ≤ a ∧ i = .int .i64 j ∧ Ext wo wi) (fun _ i _ => N - (intOf i).toNat)
      case atStart => exact ⟨rfl, 0, Nat.zero_le _, rfl, Below.refl _ _⟩
      case round =>
        obtain ⟨rfl, j, hj, rfl, hxi⟩ := hrel
        obtain ⟨wi, rfl⟩ : ∃ wi : World, wi = wr := ⟨_, rfl⟩
        have hjN : j < N := by omega
        have c0 := (b0.ext (ext_trans hext hxi)).cell 0
        simp only [List.getElem?_toArray, List.getElem?_cons_zero] at c0
        go_wp2_with fail
        refine (latBelow_any A c rs j _ B (hA.ext (ext_trans hx (ext_trans hext hxi))) hl).mono ?_
        rintro e w3 ⟨vb, rfl, hownb, x3⟩
        obtain ⟨ls, hls⟩ : ∃ ls, ls = lbelow (mat rs) j := ⟨_, rfl⟩
        rw [← hls] at hownb
        have hl6 : ls.length ≤ 6 := by rw [hls]; exact below_le _ _
        have HLB : Hid (∀ x ∈ ls, x < N) := by show ∀ x ∈ ls, x < N; intro x hx; rw [hls] at hx; rw [HN.out]; exact below_lt hx
        have HL := Lib.hid hls; clear hls
        obtain ⟨Ab, cb, rfl⟩ := hownb.form
        have hR : NatsAt w3 w3.heap.size Ab ls := hownb.rows
        replace hxi := ext_trans hxi x3
        clear x3 c0 hownb
        have hD3 := hD.ext hxi
        go_wp2
        go_loopw [25] (fun i wl => w3 = wl ∧ ∃ l : Nat, l ≤ ls.length ∧ i = .int .i64 l ∧ Hid (∀ x ∈ ls.take l, x ∈ out)) (fun i _ => ls.length - (intOf i).toNat)
        case atStart => exact ⟨rfl, 0, Nat.zero_le _, rfl, by show ∀ x ∈ ls.take 0, x ∈ out; simp⟩
        case round =>
          obtain ⟨rfl, l, hll, rfl, HI⟩ := hrel
          by_cases hlt3 : l < ls.length
          · obtain ⟨adb, rfl, p0⟩ := NatsAt.get hR hlt3
            have hbN := HLB.out _ (List.getElem_mem hlt3)
            have p1 := hD3.cell hbN
            obtain ⟨bb, hbb⟩ : ∃ bb, bb = out.contains ls[l] := ⟨_, rfl⟩
            rw [← hbb] at p1
            have HBB := Lib.hid hbb; clear hbb
            cases bb
            · have hjn : Hid (j ≠ a) := by
                intro e
                subst e
                have := HF.out.1
                simp only [lfree, Bool.and_eq_true, List.all_eq_true] at this
                have h2 := this.2 ls[l] (by rw [← HL.out]; exact List.getElem_mem hlt3)
                rw [← HBB.out] at h2; cases h2
              go_wp2
              go_roundw
              case rel => exact ⟨by trivial, j + 1, by have := hjn.out; omega, by go_num, hxi⟩
              case measure => simp [intOf]; omega
            · go_wp2
              go_roundw
              case rel => exact ⟨by trivial, l + 1, hlt3, by go_num, by
                show ∀ x ∈ ls.take (l + 1), x ∈ out
                intro x hx
                rw [take_snoc_nat hlt3] at hx
                rcases List.mem_append.1 hx with h1 | h1
                · exact HI.out x h1
                · have e : x = ls[l] := by simpa using h1
                  rw [e]; simpa using HBB.out.symm⟩
              case measure => simp [intOf]; omega
          · obtain rfl : l = ls.length := by omega
            have p1 := hD3.cell hjN
            obtain ⟨bb, hbb⟩ : ∃ bb, bb = out.contains j := ⟨_, rfl⟩
            rw [← hbb] at p1
            have HBB := Lib.hid hbb; clear hbb
            cases bb
            · have hja : j = a := by
                by_cases h : j = a
                · exact h
                · exfalso
                  have h1 := HF.out.2 j (by omega)
                  have h2 : lfree (mat rs) out j = true := by
                    simp only [lfree, Bool.and_eq_true, List.all_eq_true, ← HBB.out, Bool.not_false, true_and]
                    intro x hx
                    have := HI.out x (by rw [List.take_length, HL.out]; exact hx)
                    simpa using this
                  rw [h1] at h2; cases h2
              subst hja
              have f1 := hD3.free j
              have hDs := hD3.set hjN
              have hBs : Below (w1.heap.size) w3 (w3.setCell (ad.add j) (.bool true)) := set_below (Nat.le_of_eq HAB.out.symm)
              have hownW : Own elNat (w3.setCell (ad.add j) (.bool true)) (w1.heap.size + 1) (.slice Ao out.length co) out :=
                (hown.ext hxi).mods (mods_setCell _ _ _) (fun b hb e => by
                  have h1 := ((hown.ext hxi).typed hb).1
                  rw [block_of_add, HAB.out] at e
                  omega)
              go_upto_region 15 with fail
              have hzW : w1.heap.size + 1 ≤ (w3.setCell (ad.add j) (.bool true)).heap.size := Nat.le_trans hz (Nat.le_trans hxi.size (set_below (B := 0) (Nat.zero_le _)).size)
              have hextW : Ext w1 (w3.setCell (ad.add j) (.bool true)) := hext.trans ((hxi.mono hext.size).trans hBs)
              generalize w3.setCell (ad.add j) (.bool true) = W at hDs hownW hzW hextW ⊢
              clear hBs f1 hD3 p1 hR
              have HO := Lib.hid (hownW.ext (ext_alloc W (.cells #[.int .i64 (j : Int)] 3)))
              have HB := Lib.hid (rows_nat (w := W) (B := B) j)
              go_wp2_with (at_builtin; refine wpList_append elNat rfl _ _ rfl (w1.heap.size + 1) (.slice Ao out.length co) out rfl HO.out _ 1 [j] rfl B HB.out (by show _ * 8 ≤ _; simp; omega) (by simp; omega) (by simp; omega) ?_; intro A2 c2 w4 hown4 hg4 hat4)
              have hw4 : Below (w1.heap.size + 1) W w4 := ((Below.refl _ _).alloc hzW _).grown hg4 (by simp; omega) (fun j hj => (HO.out.typed hj).1)
              rw [Exit.noGoto_normal]
              go_wp2
              go_roundw
              case rel => exact ⟨out ++ [j], by simp; omega, HT.out.snoc (by rw [← HN.out]; exact ha) HF.out.1, HG2.out, by simpa using hown4, hDs.below hw4 (by rw [HAB.out]; exact Nat.lt_succ_self _), hextW.trans (hw4.mono (by omega)), Nat.le_trans hzW hw4.size⟩
              case measure => simp [lenOf]; omega
            · go_wp2
              go_roundw
              case rel => exact ⟨by trivial, j + 1, by
                have h1 : j ≠ a := by
                  intro e
                  subst e
                  have := HF.out.1
                  simp only [lfree, ← HBB.out] at this
                  cases this
                omega, by go_num, hxi⟩
              case measure => simp [intOf]; omega
    · have he : N - out.length = 0 := by omega
      have HE : Hid (out = lorder (mat rs)) := by show _ = _; rw [← HG.out, he]; rfl
      clear he
      go_wp2
      go_ret
      exact ⟨_, rfl, by rw [← HE.out]; exact hown.le (by have := hx.size; omega), ext_trans hx hext⟩
end Go.Proofs.Ytdknkbpgkkakhaa
