/- The law LatticeOrders, walked. -/
import Derived.Test.YtdknkbpgkkakhaaLat15
namespace Go.Proofs.Ytdknkbpgkkakhaa
open Go.RowKit

def anyUp (m : Mat) (cs : List Nat) (b l : Nat) : Bool := (cs.take l).any fun c => ldom m c b
theorem anyUp_zero (m : Mat) (cs : List Nat) (b : Nat) : anyUp m cs b 0 = false := rfl
theorem anyUp_succ {m : Mat} {cs : List Nat} {b l : Nat} (h : l < cs.length) : anyUp m cs b (l + 1) = (anyUp m cs b l || ldom m cs[l] b) := by
  rw [anyUp, take_snoc_nat h, List.any_append]; simp [anyUp]
theorem anyUp_all {m : Mat} {i : Int} {b : Nat} (hb : b ∈ lbelow m i) : anyUp m (lcovers m i) b (lcovers m i).length = true := by
  obtain ⟨c, hc, hd⟩ := cover_reaches hb
  rw [anyUp, List.take_length, List.any_eq_true]
  exact ⟨c, hc, hd⟩

set_option maxRecDepth 100000 in
set_option maxHeartbeats 8000000 in
theorem latticeOrders_walk (A : Option Addr) (c : Nat) (rs : List Rw) (w : World) (hM : MatAt w w.heap.size A rs) (hl : rs.length ≤ 9223372036854775807) :
    Calls Try.prog 7 #[.agg #[.slice A rs.length c]] w fun e w' => e = .returned (.bool true) ∧ Ext w w' := by
  have b0 : Blk (w.alloc (.cells #[.slice A rs.length c] 53)) w.heap.size 53 #[.slice A rs.length c] := Blk.new _ _ _
  have x0 := ext_alloc w (.cells #[.slice A rs.length c] 53)
  have hM0 := hM.ext x0
  clear hM
  go_enter Try.func7, Try.ntmps7
  go_upto_region 1 with fail
  generalize w.alloc (.cells #[.slice A rs.length c] 53) = w0 at b0 x0 hM0 ⊢
  obtain ⟨B, hB⟩ : ∃ B, B = w.heap.size := ⟨_, rfl⟩
  rw [← hB] at b0 hM0 ⊢
  clear hB
  go_wp2_with fail
  refine (known1_any _).mono ?_
  rintro e w1 ⟨rfl, y⟩
  have P : Ext w0 w1 := y
  have ck := (b0.ext P).cell 0
  simp only [List.getElem?_toArray, List.getElem?_cons_zero] at ck
  clear y
  go_wp2_with fail
  refine (few1_any A c rs _ _ (hM0.ext P) hl).mono ?_
  rintro e w2 ⟨rfl, y⟩
  replace P := ext_trans P y
  replace ck := ext_cell y ck
  clear y
  cases hf : fewMat 10 (mat rs)
  · go_wp2
    go_ret
    exact ⟨rfl, ext_trans x0 P⟩
  · clear hf
    go_wp2_with fail
    refine (check_any A c rs _ _ (hM0.ext P) hl).mono ?_
    rintro e w3 ⟨rfl, y⟩
    replace P := ext_trans P y
    replace ck := ext_cell y ck
    clear y
    by_cases hk : lchk (mat rs) = 0
    · have HK := Lib.hid hk
      rw [hk]
      clear hk
      have HLV : Hid (levels (mat rs) = rs.length) := by show _ = _; rw [levels_of _ HK.out, mat_length]
      have hn6 : rs.length ≤ 6 := by have := levels_le (mat rs); rw [HLV.out] at this; exact this
      have hn1 : 1 ≤ rs.length := (sq_of (lchk_square HK.out)).2.1
      obtain ⟨ad, ra, ca, rfl, hcells⟩ := (hM0.ext P).all (sq_of (lchk_square HK.out)).1 (by omega)
      have HC := Lib.hid hcells
      clear hcells
      go_wp2_with fail
      refine (latLevels_any _ c rs _ _ (hM0.ext P) hl).mono ?_
      rintro e w4 ⟨rfl, y⟩
      rw [HLV.out]
      have Q := y
      replace P := ext_trans P y
      replace ck := ext_cell y ck
      clear y
      go_wp2_with fail
      refine (latOrder_any _ c rs _ _ (hM0.ext P) hl).mono ?_
      rintro e w5 ⟨v, rfl, hown, y⟩
      obtain ⟨os, hos⟩ : ∃ os, os = lorder (mat rs) := ⟨_, rfl⟩
      rw [← hos] at hown
      have HOL : Hid (os.length = rs.length) := by show _ = _; rw [hos, (order_taken (mat rs)).2, HLV.out]
      have HON : Hid (os.Nodup) := by rw [hos]; exact (order_taken (mat rs)).1.nodup
      have HOB : Hid (Behind (mat rs) os) := by rw [hos]; exact order_behind (mat rs)
      clear hos
      obtain ⟨Ao, co, rfl⟩ := hown.form
      have RO : NatsAt w5 0 Ao os := hown.rows
      rw [HOL.out]
      replace Q := ext_trans Q y
      replace P := ext_trans P y
      replace ck := ext_cell y ck
      clear y hown
      have HC5 : Hid (∀ x, Ext w5 x → MatCells x rs.length (mat rs) ad ra ca) := fun x hx a ha => ⟨ext_cell (ext_trans Q hx) (HC.out a ha).1, fun b hb => ext_cell (ext_trans Q hx) ((HC.out a ha).2 b hb)⟩
      replace hM0 := hM0.ext P
      replace b0 := b0.ext P
      replace x0 := ext_trans x0 P
      clear P Q HC
      go_wp2
      clear ck
      go_loopw [5] (fun i wr => ∃ k : Nat, k ≤ rs.length ∧ i = .int .i64 k ∧ Ext w5 wr) (fun i _ => rs.length - (intOf i).toNat)
      case atStart => exact ⟨0, Nat.zero_le _, rfl, Below.refl _ _⟩
      case round =>
        obtain ⟨k, hk, rfl, hx⟩ := hrel
        by_cases hlt : k < rs.length
        · have hko : k < os.length := by rw [HOL.out]; exact hlt
          go_wp2
          go_loopw [6] (fun i wi => ∃ j : Nat, j ≤ k ∧ i = .int .i64 j ∧ Ext w5 wi) (fun i _ => k - (intOf i).toNat)
          case atStart => exact ⟨0, Nat.zero_le _, rfl, hx⟩
          case round =>
            obtain ⟨j, hj, rfl, hxi⟩ := hrel
            clear hx
            by_cases hjk : j < k
            · have hjo : j < os.length := by omega
              obtain ⟨ao, rfl, p0⟩ := NatsAt.get (RowsAt.ext RO hxi) hko
              obtain ⟨ao', e', p1⟩ := NatsAt.get (RowsAt.ext RO hxi) hjo
              obtain rfl : ao = ao' := Option.some.inj e'
              have c0 := (b0.ext hxi).cell 0
              simp only [List.getElem?_toArray, List.getElem?_cons_zero] at c0
              have y0 := fun x (hx : Ext wr x) => ext_cell hx p0
              have y1 := fun x (hx : Ext wr x) => ext_cell hx p1
              have y2 := fun x (hx : Ext wr x) => ext_cell hx c0
              have hne : ((os[j] : Int) == os[k]) = false := by
                have h1 : os[j] ≠ os[k] := fun e => by
                  have := (List.getElem_inj HON.out).1 e
                  omega
                simp; omega
              have HAB := Lib.hid (HOB.out k j hko hjk)
              have hjN : j < rs.length := by omega
              clear p0 p1 c0 e'
              go_wp2
              refine wp_region_planH (.reads 0 (.reads 1 (.reads 2 (.reads 3 (.reads 4 (.reads 5 (.reads 6 (.reads 7 (.reads 8 (.reads 9 (.reads 10 (.reads 11 (.reads 12 (.reads 13 (.reads 14 (.reads 15 (.reads 16 (.reads 17 (.reads 18 (.makes 19 (.reads 20 (.done)))))))))))))))))))))) (by kernel_rfl) (by kernel_rfl) (fun x => Ext wr x) (ext_drewN wr 1) (fun ops HOPS => ?_)
              (refine segH_pure _ _ _ _ _ _ (hid_get HOPS 0 _ rfl) rfl wanted_none (fun _ _ _ _ h => h) ?_; intro K hK; go_big_quiet_op; go_big_quiet_on)
              (refine segH_pure _ _ _ _ _ _ (hid_get HOPS 1 _ rfl) rfl wanted_none (fun _ _ _ _ h => h) ?_; intro K hK; go_big_quiet_op; go_big_quiet_on)
              (refine segH_pure _ _ _ _ _ _ (hid_get HOPS 2 _ rfl) rfl wanted_none (fun _ _ _ _ h => h) ?_; intro K hK; go_big_quiet_op; go_big_quiet_on)
              (refine segH_load _ _ _ _ _ _ _ _ _ (hid_get HOPS 3 _ rfl) wanted_none rfl (fun _ _ _ _ h => h) (fun y hy => by go_simp; try with_reducible rfl) ?_; simp only [Act.put, List.setIfInBounds_toArray, List.set_cons_zero, List.set_cons_succ])
              (refine segH_pure _ _ _ _ _ _ (hid_get HOPS 4 _ rfl) rfl wanted_none (fun _ _ _ _ h => h) ?_; intro K hK; go_big_quiet_op; go_big_quiet_on)
              (refine segH_pure _ _ _ _ _ _ (hid_get HOPS 5 _ rfl) rfl wanted_none (fun _ _ _ _ h => h) ?_; intro K hK; go_big_quiet_op; go_big_quiet_on)
              (refine segH_pure _ _ _ _ _ _ (hid_get HOPS 6 _ rfl) rfl wanted_none (fun _ _ _ _ h => h) ?_; intro K hK; go_big_quiet_op; go_big_quiet_on)
              (refine segH_load _ _ _ _ _ _ _ _ _ (hid_get HOPS 7 _ rfl) wanted_none rfl (fun _ _ _ _ h => h) (fun y hy => by go_simp; try with_reducible rfl) ?_; simp only [Act.put, List.setIfInBounds_toArray, List.set_cons_zero, List.set_cons_succ])
              (refine segH_pure _ _ _ _ _ _ (hid_get HOPS 8 _ rfl) rfl wanted_none (fun _ _ _ _ h => h) ?_; intro K hK; go_big_quiet_op; go_big_quiet_on)
              (refine segH_pure _ _ _ _ _ _ (hid_get HOPS 9 _ rfl) rfl wanted_none (fun _ _ _ _ h => h) ?_; intro K hK; go_big_quiet_op; go_big_quiet_on)
              first | (refine segH_pass _ _ _ _ _ _ (hid_get HOPS 10 _ rfl) (wanted_some (hid_get HOPS 9 _ rfl) rfl rfl rfl) (fun _ _ _ _ h => h) ?_; simp only [Act.put, List.setIfInBounds_toArray, List.set_cons_zero, List.set_cons_succ]) | (refine segH_load _ _ _ _ _ _ _ _ _ (hid_get HOPS 10 _ rfl) (wanted_some (hid_get HOPS 9 _ rfl) rfl rfl rfl) rfl (fun _ _ _ _ h => h) (fun y hy => by go_simp; try with_reducible rfl) ?_; simp only [Act.put, List.setIfInBounds_toArray, List.set_cons_zero, List.set_cons_succ])
              first | (refine segH_pass _ _ _ _ _ _ (hid_get HOPS 11 _ rfl) (wanted_some (hid_get HOPS 9 _ rfl) rfl rfl rfl) (fun _ _ _ _ h => h) ?_; simp only [Act.put, List.setIfInBounds_toArray, List.set_cons_zero, List.set_cons_succ]) | (refine segH_pure _ _ _ _ _ _ (hid_get HOPS 11 _ rfl) rfl (wanted_some (hid_get HOPS 9 _ rfl) rfl rfl rfl) (fun _ _ _ _ h => h) ?_; intro K hK; go_big_quiet_op; go_big_quiet_on)
              first | (refine segH_pass _ _ _ _ _ _ (hid_get HOPS 12 _ rfl) (wanted_some (hid_get HOPS 9 _ rfl) rfl rfl rfl) (fun _ _ _ _ h => h) ?_; simp only [Act.put, List.setIfInBounds_toArray, List.set_cons_zero, List.set_cons_succ]) | (refine segH_pure _ _ _ _ _ _ (hid_get HOPS 12 _ rfl) rfl (wanted_some (hid_get HOPS 9 _ rfl) rfl rfl rfl) (fun _ _ _ _ h => h) ?_; intro K hK; go_big_quiet_op; go_big_quiet_on)
              first | (refine segH_pass _ _ _ _ _ _ (hid_get HOPS 13 _ rfl) (wanted_some (hid_get HOPS 9 _ rfl) rfl rfl rfl) (fun _ _ _ _ h => h) ?_; simp only [Act.put, List.setIfInBounds_toArray, List.set_cons_zero, List.set_cons_succ]) | (refine segH_pure _ _ _ _ _ _ (hid_get HOPS 13 _ rfl) rfl (wanted_some (hid_get HOPS 9 _ rfl) rfl rfl rfl) (fun _ _ _ _ h => h) ?_; intro K hK; go_big_quiet_op; go_big_quiet_on)
              first | (refine segH_pass _ _ _ _ _ _ (hid_get HOPS 14 _ rfl) (wanted_some (hid_get HOPS 9 _ rfl) rfl rfl rfl) (fun _ _ _ _ h => h) ?_; simp only [Act.put, List.setIfInBounds_toArray, List.set_cons_zero, List.set_cons_succ]) | (refine segH_load _ _ _ _ _ _ _ _ _ (hid_get HOPS 14 _ rfl) (wanted_some (hid_get HOPS 9 _ rfl) rfl rfl rfl) rfl (fun _ _ _ _ h => h) (fun y hy => by go_simp; try with_reducible rfl) ?_; simp only [Act.put, List.setIfInBounds_toArray, List.set_cons_zero, List.set_cons_succ])
              first | (refine segH_pass _ _ _ _ _ _ (hid_get HOPS 15 _ rfl) (wanted_some (hid_get HOPS 9 _ rfl) rfl rfl rfl) (fun _ _ _ _ h => h) ?_; simp only [Act.put, List.setIfInBounds_toArray, List.set_cons_zero, List.set_cons_succ]) | (refine segH_pure _ _ _ _ _ _ (hid_get HOPS 15 _ rfl) rfl (wanted_some (hid_get HOPS 9 _ rfl) rfl rfl rfl) (fun _ _ _ _ h => h) ?_; intro K hK; go_big_quiet_op; go_big_quiet_on)
              first | (refine segH_pass _ _ _ _ _ _ (hid_get HOPS 16 _ rfl) (wanted_some (hid_get HOPS 9 _ rfl) rfl rfl rfl) (fun _ _ _ _ h => h) ?_; simp only [Act.put, List.setIfInBounds_toArray, List.set_cons_zero, List.set_cons_succ]) | (refine segH_pure _ _ _ _ _ _ (hid_get HOPS 16 _ rfl) rfl (wanted_some (hid_get HOPS 9 _ rfl) rfl rfl rfl) (fun _ _ _ _ h => h) ?_; intro K hK; go_big_quiet_op; go_big_quiet_on)
              first | (refine segH_pass _ _ _ _ _ _ (hid_get HOPS 17 _ rfl) (wanted_some (hid_get HOPS 9 _ rfl) rfl rfl rfl) (fun _ _ _ _ h => h) ?_; simp only [Act.put, List.setIfInBounds_toArray, List.set_cons_zero, List.set_cons_succ]) | (refine segH_pure _ _ _ _ _ _ (hid_get HOPS 17 _ rfl) rfl (wanted_some (hid_get HOPS 9 _ rfl) rfl rfl rfl) (fun _ _ _ _ h => h) ?_; intro K hK; go_big_quiet_op; go_big_quiet_on)
              first | (refine segH_pass _ _ _ _ _ _ (hid_get HOPS 18 _ rfl) (wanted_some (hid_get HOPS 9 _ rfl) rfl rfl rfl) (fun _ _ _ _ h => h) ?_; simp only [Act.put, List.setIfInBounds_toArray, List.set_cons_zero, List.set_cons_succ]) | (refine segH_load _ _ _ _ _ _ _ _ _ (hid_get HOPS 18 _ rfl) (wanted_some (hid_get HOPS 9 _ rfl) rfl rfl rfl) rfl (fun _ _ _ _ h => h) (fun y hy => by go_simp; try with_reducible rfl) ?_; simp only [Act.put, List.setIfInBounds_toArray, List.set_cons_zero, List.set_cons_succ])
              refine segH_makes _ _ _ _ _ _ (hid_get HOPS 19 _ rfl) (wanted_some (hid_get HOPS 9 _ rfl) rfl rfl rfl) (fun K hK => ?_)
              go_big_op
              refine (latAbove_any _ c rs os[j] os[k] _ _ (hM0.ext (ext_trans hxi (ext_drewN wr 1))) hl).mono ?_
              rintro e w6 ⟨rfl, y⟩
              rw [HAB.out]
              replace hxi := ext_trans hxi (ext_trans (ext_drewN wr 1) y)
              refine hK _ _ (fun x => Ext wr x) (ext_trans (ext_drewN wr 1) y) (fun _ h => h) ?_
              clear hK y
              (refine segH_pure _ _ _ _ _ _ (hid_get HOPS 20 _ rfl) rfl wanted_none (fun _ _ _ _ h => h) ?_; intro K hK; go_big_quiet_op; go_big_quiet_on)
              refine seg_done ?_
              clear y0 y1 y2 hne
              go_wp2
              go_roundw
              case rel => exact ⟨j + 1, hjk, by go_num, hxi⟩
              case measure => simp [intOf]; omega
            · obtain rfl : j = k := by omega
              have c0 := (b0.ext hxi).cell 0
              simp only [List.getElem?_toArray, List.getElem?_cons_zero] at c0
              have y2 := fun x (hx : Ext wr x) => ext_cell hx c0
              clear c0
              go_wp2
              refine wp_region_planH (.reads 0 (.reads 1 (.reads 3 (.reads 4 (.makes 2 (.makes 5 (.reads 6 (.reads 7 (.done))))))))) (by kernel_rfl) (by kernel_rfl) (fun x => Ext wr x) (ext_drewN wr 1) (fun ops HOPS => ?_)
              (refine segH_load _ _ _ _ _ _ _ _ _ (hid_get HOPS 0 _ rfl) wanted_none rfl (fun _ _ _ _ h => h) (fun y hy => by go_simp; try with_reducible rfl) ?_; simp only [Act.put, List.setIfInBounds_toArray, List.set_cons_zero, List.set_cons_succ])
              (refine segH_pure _ _ _ _ _ _ (hid_get HOPS 1 _ rfl) rfl wanted_none (fun _ _ _ _ h => h) ?_; intro K hK; go_big_quiet_op; go_big_quiet_on)
              (refine segH_load _ _ _ _ _ _ _ _ _ (hid_get HOPS 3 _ rfl) wanted_none rfl (fun _ _ _ _ h => h) (fun y hy => by go_simp; try with_reducible rfl) ?_; simp only [Act.put, List.setIfInBounds_toArray, List.set_cons_zero, List.set_cons_succ])
              (refine segH_pure _ _ _ _ _ _ (hid_get HOPS 4 _ rfl) rfl wanted_none (fun _ _ _ _ h => h) ?_; intro K hK; go_big_quiet_op; go_big_quiet_on)
              refine segH_makes _ _ _ _ _ _ (hid_get HOPS 2 _ rfl) wanted_none (fun K hK => ?_)
              go_big_op
              refine (latBelow_any _ c rs j _ _ (hM0.ext (ext_trans hxi (ext_drewN wr 1))) hl).mono ?_
              rintro e w6 ⟨v, rfl, hown, y⟩
              obtain ⟨ls, hls⟩ : ∃ ls, ls = lbelow (mat rs) j := ⟨_, rfl⟩
              rw [← hls] at hown
              obtain ⟨Ab, cb, rfl⟩ := hown.form
              have RB : NatsAt w6 0 Ab ls := hown.rows
              have P := ext_trans (ext_drewN wr 1) y
              refine hK _ _ (fun x => Ext wr x) P (fun _ h => h) ?_
              clear hK y hown
              refine segH_makes _ _ _ _ _ _ (hid_get HOPS 5 _ rfl) wanted_none (fun K hK => ?_)
              go_big_op
              refine (latCovers_any _ c rs j _ _ (hM0.ext (ext_trans hxi P)) hl).mono ?_
              rintro e w7 ⟨v, rfl, hown, y⟩
              obtain ⟨cs, hcs⟩ : ∃ cs, cs = lcovers (mat rs) j := ⟨_, rfl⟩
              rw [← hcs] at hown
              obtain ⟨Ac, cc, rfl⟩ := hown.form
              have RC : NatsAt w7 0 Ac cs := hown.rows
              replace RB := RowsAt.ext RB y
              replace P := ext_trans P y
              refine hK _ _ (fun x => Ext wr x) P (fun _ h => h) ?_
              clear hK y hown
              (refine segH_pure _ _ _ _ _ _ (hid_get HOPS 6 _ rfl) rfl wanted_none (fun _ _ _ _ h => h) ?_; intro K hK; go_big_quiet_op; go_big_quiet_on)
              (refine segH_pure _ _ _ _ _ _ (hid_get HOPS 7 _ rfl) rfl wanted_none (fun _ _ _ _ h => h) ?_; intro K hK; go_big_quiet_op; go_big_quiet_on)
              refine seg_done ?_
              replace hxi := ext_trans hxi P
              clear P y2
              have hb6 : ls.length ≤ 6 := by rw [hls]; exact below_le _ _
              have hcb : cs.length ≤ ls.length := by rw [hls, hcs]; exact covers_le _ _
              have hpos : 0 < ls.length → 0 < cs.length := by
                have := covers_pos (mat rs) j
                rw [← hls, ← hcs, Bool.eq_iff_iff] at this
                simpa using this.1
              have HLS := Lib.hid hls
              have HCS := Lib.hid hcs
              clear hls hcs
              go_upto_region 18 with fail
              go_cut [87] (fun s87 wc => s87 = .bool false ∧ w7 = wc)
              case first =>
                have g1 : decide (ls.length < cs.length) = false := decide_eq_false (by omega)
                rcases Nat.eq_zero_or_pos ls.length with h0 | h0
                · have g2 : decide (0 < ls.length) = false := decide_eq_false (by omega)
                  have g3 : decide (0 < cs.length) = false := decide_eq_false (by omega)
                  clear h0 hpos
                  go_wp2
                  go_meet
                  exact ⟨rfl, rfl⟩
                · have g2 : decide (0 < ls.length) = true := decide_eq_true h0
                  have g3 : decide (0 < cs.length) = true := decide_eq_true (hpos h0)
                  clear h0 hpos
                  go_wp2
                  go_meet
                  exact ⟨rfl, rfl⟩
              case rest =>
                obtain ⟨rfl, rfl⟩ := hcut
                clear hpos
                go_wp2
                go_loopw [9] (fun i wq => ∃ q : Nat, q ≤ ls.length ∧ i = .int .i64 q ∧ Ext w7 wq) (fun i _ => ls.length - (intOf i).toNat)
                case atStart => exact ⟨0, Nat.zero_le _, rfl, Below.refl _ _⟩
                case round =>
                  obtain ⟨q, hq, rfl, hxq⟩ := hrel
                  by_cases hql : q < ls.length
                  · have HM : Hid (ls[q] ∈ lbelow (mat rs) j) := by show _ ∈ _; rw [← HLS.out]; exact List.getElem_mem hql
                    have hab := above_iff.1 (mem_below.1 HM.out)
                    have hbN : ls[q] < rs.length := by have := below_lt HM.out; rw [HLV.out] at this; exact this
                    have HAT : Hid (at2 (mat rs) j ls[q] = true) := by show _ = _; rw [← ldom_eq (by rw [HLV.out]; exact hlt) (by rw [HLV.out]; exact hbN)]; exact hab.2
                    have hne : ((ls[q] : Int) == (j : Int)) = false := by simp; exact fun e => hab.1 e.symm
                    clear hab
                    go_wp2
                    go_loopw [10, 11] (fun o i wl => ∃ l : Nat, l ≤ cs.length ∧ i = .int .i64 l ∧ (∃ t, o = .bool t ∧ Hid (t = anyUp (mat rs) cs ls[q] l)) ∧ Ext w7 wl) (fun _ i _ => cs.length - (intOf i).toNat)
                    case atStart => exact ⟨0, Nat.zero_le _, rfl, ⟨_, rfl, rfl⟩, hxq⟩
                    case round =>
                      obtain ⟨l, hll, rfl, ⟨t, rfl, HT⟩, hxl⟩ := hrel
                      clear hxq
                      by_cases hlc : l < cs.length
                      · cases t
                        · obtain ⟨ac, rfl, p0⟩ := NatsAt.get (RowsAt.ext RC hxl) hlc
                          obtain ⟨ab, rfl, p1⟩ := NatsAt.get (RowsAt.ext RB hxl) hql
                          have c0 := (b0.ext (ext_trans hxi hxl)).cell 0
                          simp only [List.getElem?_toArray, List.getElem?_cons_zero] at c0
                          have y0 := fun x (hx : Ext wr x) => ext_cell hx p0
                          have y1 := fun x (hx : Ext wr x) => ext_cell hx p1
                          have y2 := fun x (hx : Ext wr x) => ext_cell hx c0
                          clear p0 p1 c0
                          go_wp2
                          refine wp_region_planH (.reads 0 (.reads 1 (.reads 2 (.reads 3 (.reads 4 (.reads 5 (.reads 6 (.reads 7 (.reads 8 (.reads 9 (.reads 10 (.makes 11 (.reads 12 (.reads 13 (.done))))))))))))))) (by kernel_rfl) (by kernel_rfl) (fun x => Ext wr x) (ext_drewN wr 1) (fun ops HOPS => ?_)
                          (refine segH_pure _ _ _ _ _ _ (hid_get HOPS 0 _ rfl) rfl wanted_none (fun _ _ _ _ h => h) ?_; intro K hK; go_big_quiet_op; go_big_quiet_on)
                          (refine segH_pure _ _ _ _ _ _ (hid_get HOPS 1 _ rfl) rfl wanted_none (fun _ _ _ _ h => h) ?_; intro K hK; go_big_quiet_op; go_big_quiet_on)
                          first | (refine segH_pass _ _ _ _ _ _ (hid_get HOPS 2 _ rfl) (wanted_some (hid_get HOPS 1 _ rfl) rfl rfl rfl) (fun _ _ _ _ h => h) ?_; simp only [Act.put, List.setIfInBounds_toArray, List.set_cons_zero, List.set_cons_succ]) | (refine segH_load _ _ _ _ _ _ _ _ _ (hid_get HOPS 2 _ rfl) (wanted_some (hid_get HOPS 1 _ rfl) rfl rfl rfl) rfl (fun _ _ _ _ h => h) (fun y hy => by go_simp; try with_reducible rfl) ?_; simp only [Act.put, List.setIfInBounds_toArray, List.set_cons_zero, List.set_cons_succ])
                          first | (refine segH_pass _ _ _ _ _ _ (hid_get HOPS 3 _ rfl) (wanted_some (hid_get HOPS 1 _ rfl) rfl rfl rfl) (fun _ _ _ _ h => h) ?_; simp only [Act.put, List.setIfInBounds_toArray, List.set_cons_zero, List.set_cons_succ]) | (refine segH_pure _ _ _ _ _ _ (hid_get HOPS 3 _ rfl) rfl (wanted_some (hid_get HOPS 1 _ rfl) rfl rfl rfl) (fun _ _ _ _ h => h) ?_; intro K hK; go_big_quiet_op; go_big_quiet_on)
                          first | (refine segH_pass _ _ _ _ _ _ (hid_get HOPS 4 _ rfl) (wanted_some (hid_get HOPS 1 _ rfl) rfl rfl rfl) (fun _ _ _ _ h => h) ?_; simp only [Act.put, List.setIfInBounds_toArray, List.set_cons_zero, List.set_cons_succ]) | (refine segH_pure _ _ _ _ _ _ (hid_get HOPS 4 _ rfl) rfl (wanted_some (hid_get HOPS 1 _ rfl) rfl rfl rfl) (fun _ _ _ _ h => h) ?_; intro K hK; go_big_quiet_op; go_big_quiet_on)
                          first | (refine segH_pass _ _ _ _ _ _ (hid_get HOPS 5 _ rfl) (wanted_some (hid_get HOPS 1 _ rfl) rfl rfl rfl) (fun _ _ _ _ h => h) ?_; simp only [Act.put, List.setIfInBounds_toArray, List.set_cons_zero, List.set_cons_succ]) | (refine segH_pure _ _ _ _ _ _ (hid_get HOPS 5 _ rfl) rfl (wanted_some (hid_get HOPS 1 _ rfl) rfl rfl rfl) (fun _ _ _ _ h => h) ?_; intro K hK; go_big_quiet_op; go_big_quiet_on)
                          first | (refine segH_pass _ _ _ _ _ _ (hid_get HOPS 6 _ rfl) (wanted_some (hid_get HOPS 1 _ rfl) rfl rfl rfl) (fun _ _ _ _ h => h) ?_; simp only [Act.put, List.setIfInBounds_toArray, List.set_cons_zero, List.set_cons_succ]) | (refine segH_load _ _ _ _ _ _ _ _ _ (hid_get HOPS 6 _ rfl) (wanted_some (hid_get HOPS 1 _ rfl) rfl rfl rfl) rfl (fun _ _ _ _ h => h) (fun y hy => by go_simp; try with_reducible rfl) ?_; simp only [Act.put, List.setIfInBounds_toArray, List.set_cons_zero, List.set_cons_succ])
                          first | (refine segH_pass _ _ _ _ _ _ (hid_get HOPS 7 _ rfl) (wanted_some (hid_get HOPS 1 _ rfl) rfl rfl rfl) (fun _ _ _ _ h => h) ?_; simp only [Act.put, List.setIfInBounds_toArray, List.set_cons_zero, List.set_cons_succ]) | (refine segH_pure _ _ _ _ _ _ (hid_get HOPS 7 _ rfl) rfl (wanted_some (hid_get HOPS 1 _ rfl) rfl rfl rfl) (fun _ _ _ _ h => h) ?_; intro K hK; go_big_quiet_op; go_big_quiet_on)
                          first | (refine segH_pass _ _ _ _ _ _ (hid_get HOPS 8 _ rfl) (wanted_some (hid_get HOPS 1 _ rfl) rfl rfl rfl) (fun _ _ _ _ h => h) ?_; simp only [Act.put, List.setIfInBounds_toArray, List.set_cons_zero, List.set_cons_succ]) | (refine segH_pure _ _ _ _ _ _ (hid_get HOPS 8 _ rfl) rfl (wanted_some (hid_get HOPS 1 _ rfl) rfl rfl rfl) (fun _ _ _ _ h => h) ?_; intro K hK; go_big_quiet_op; go_big_quiet_on)
                          first | (refine segH_pass _ _ _ _ _ _ (hid_get HOPS 9 _ rfl) (wanted_some (hid_get HOPS 1 _ rfl) rfl rfl rfl) (fun _ _ _ _ h => h) ?_; simp only [Act.put, List.setIfInBounds_toArray, List.set_cons_zero, List.set_cons_succ]) | (refine segH_pure _ _ _ _ _ _ (hid_get HOPS 9 _ rfl) rfl (wanted_some (hid_get HOPS 1 _ rfl) rfl rfl rfl) (fun _ _ _ _ h => h) ?_; intro K hK; go_big_quiet_op; go_big_quiet_on)
                          first | (refine segH_pass _ _ _ _ _ _ (hid_get HOPS 10 _ rfl) (wanted_some (hid_get HOPS 1 _ rfl) rfl rfl rfl) (fun _ _ _ _ h => h) ?_; simp only [Act.put, List.setIfInBounds_toArray, List.set_cons_zero, List.set_cons_succ]) | (refine segH_load _ _ _ _ _ _ _ _ _ (hid_get HOPS 10 _ rfl) (wanted_some (hid_get HOPS 1 _ rfl) rfl rfl rfl) rfl (fun _ _ _ _ h => h) (fun y hy => by go_simp; try with_reducible rfl) ?_; simp only [Act.put, List.setIfInBounds_toArray, List.set_cons_zero, List.set_cons_succ])
                          refine segH_makes _ _ _ _ _ _ (hid_get HOPS 11 _ rfl) (wanted_some (hid_get HOPS 1 _ rfl) rfl rfl rfl) (fun K hK => ?_)
                          go_big_op
                          refine (latDom_any _ c rs cs[l] ls[q] _ _ (hM0.ext (ext_trans (ext_trans hxi hxl) (ext_drewN wr 1))) hl).mono ?_
                          rintro e w8 ⟨rfl, y⟩
                          replace hxl := ext_trans hxl (ext_trans (ext_drewN wr 1) y)
                          refine hK _ _ (fun x => Ext wr x) (ext_trans (ext_drewN wr 1) y) (fun _ h => h) ?_
                          clear hK y
                          (refine segH_pure _ _ _ _ _ _ (hid_get HOPS 12 _ rfl) rfl wanted_none (fun _ _ _ _ h => h) ?_; intro K hK; go_big_quiet_op; go_big_quiet_on)
                          (refine segH_pure _ _ _ _ _ _ (hid_get HOPS 13 _ rfl) rfl wanted_none (fun _ _ _ _ h => h) ?_; intro K hK; go_big_quiet_op; go_big_quiet_on)
                          refine seg_done ?_
                          clear y0 y1 y2
                          go_wp2
                          go_roundw
                          case rel => exact ⟨l + 1, hlc, by go_num, ⟨_, rfl, by show _ = _; rw [anyUp_succ hlc, ← HT.out]; rfl⟩, hxl⟩
                          case measure => simp [intOf]; omega
                        · go_wp2
                          go_quiet (fail)
                          go_wp2
                          go_roundw
                          case rel => exact ⟨l + 1, hlc, by go_num, ⟨_, rfl, by show _ = _; rw [anyUp_succ hlc, ← HT.out]; rfl⟩, ext_trans hxl (ext_drewN _ _)⟩
                          case measure => simp [intOf]; omega
                      · obtain rfl : l = cs.length := by omega
                        have ht : t = true := by rw [HT.out, HCS.out]; exact anyUp_all HM.out
                        subst ht
                        obtain ⟨ab, rfl, p1⟩ := NatsAt.get (RowsAt.ext RB hxl) hql
                        have c0 := (b0.ext (ext_trans hxi hxl)).cell 0
                        simp only [List.getElem?_toArray, List.getElem?_cons_zero] at c0
                        obtain ⟨q1, q2⟩ := HC5.out _ (ext_trans hxi hxl) j hlt
                        replace q2 := q2 _ hbN
                        rw [HAT.out] at q2
                        go_wp2
                        go_quiet (fail)
                        go_wp2
                        go_roundw
                        case rel => exact ⟨q + 1, hql, by go_num, ext_trans hxl (ext_drewN _ _)⟩
                        case measure => simp [intOf]; omega
                  · obtain rfl : q = ls.length := by omega
                    go_wp2
                    go_roundw
                    case rel => exact ⟨j + 1, hlt, by go_num, ext_trans hxi hxq⟩
                    case measure => simp [intOf]; omega
        · obtain rfl : k = rs.length := by omega
          go_wp2
          go_ret
          exact ⟨rfl, ext_trans x0 hx⟩
    · have hb : (((lchk (mat rs) : Nat) : Int) != 0) = true := by simp; omega
      clear hk
      go_wp2
      go_ret
      exact ⟨rfl, ext_trans x0 P⟩
end Go.Proofs.Ytdknkbpgkkakhaa
