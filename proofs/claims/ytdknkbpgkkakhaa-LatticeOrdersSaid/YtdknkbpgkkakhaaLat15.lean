/- The law LatticeTells, walked. -/
import Derived.Test.YtdknkbpgkkakhaaLat14
import Derived.Test.YtdknkbpgkkakhaaPlanF
namespace Go.Proofs.Ytdknkbpgkkakhaa
open Go.RowKit

theorem chain_len {ts : List Rw} {n : Int} (h : mat ts = lchain n) : ts.length ≤ 9223372036854775807 ∧ ∀ r ∈ ts, r.bs.length ≤ 9223372036854775807 := by
  have hk := chainK_le n
  refine ⟨?_, fun r hr => ?_⟩
  · rw [← mat_length, h]; simp [lchain]; omega
  · have hm : r.bs ∈ mat ts := List.mem_map_of_mem hr
    rw [h] at hm
    simp only [lchain, List.mem_map] at hm
    obtain ⟨a, _, e⟩ := hm
    rw [← e, chainRow_length]; omega

set_option maxRecDepth 100000 in
set_option maxHeartbeats 4000000 in
theorem latticeTells_walk (A : Option Addr) (c : Nat) (rs : List Rw) (a b n : Int) (w : World) (hM : MatAt w w.heap.size A rs) (hl : rs.length ≤ 9223372036854775807) (hn1 : -9223372036854775808 ≤ n) (hn2 : n ≤ 9223372036854775807) :
    Calls Try.prog 6 #[.agg #[.slice A rs.length c], .int .i64 a, .int .i64 b, .int .i64 n] w fun e w' => e = .returned (.bool true) ∧ Ext w w' := by
  have b0 : Blk (w.alloc (.cells #[.slice A rs.length c] 53)) w.heap.size 53 #[.slice A rs.length c] := Blk.new _ _ _
  have x0 := ext_alloc w (.cells #[.slice A rs.length c] 53)
  have hM0 := hM.ext x0
  clear hM
  have HN := Lib.hid (And.intro hn1 hn2); clear hn1 hn2
  go_enter Try.func6, Try.ntmps6
  go_upto_region 1 with fail
  generalize w.alloc (.cells #[.slice A rs.length c] 53) = w0 at b0 x0 hM0 ⊢
  obtain ⟨B, hB⟩ : ∃ B, B = w.heap.size := ⟨_, rfl⟩
  rw [← hB] at b0 hM0 ⊢
  clear hB
  go_wp2_with fail
  refine (known1_any _).mono ?_
  rintro e w1 ⟨rfl, y⟩
  have P : Ext w0 w1 := y
  have ck := (b0.ext P).cell 0
  simp only [List.getElem?_toArray, List.getElem?_cons_zero] at ck
  clear y
  go_wp2_with fail
  refine (few1_any A c rs _ _ (hM0.ext P) hl).mono ?_
  rintro e w2 ⟨rfl, y⟩
  replace P := ext_trans P y
  replace ck := ext_cell y ck
  clear y
  cases hf : fewMat 10 (mat rs)
  · go_wp2
    go_ret
    exact ⟨rfl, ext_trans x0 P⟩
  · have hfs := fewMat_spec hf
    have HF := Lib.hid hfs.2
    clear hf hfs
    go_wp2_with fail
    refine (latJoin_any A c rs a b _ _ (hM0.ext P) hl).mono ?_
    rintro e w3 ⟨rfl, y⟩
    replace P := ext_trans P y
    replace ck := ext_cell y ck
    clear y
    go_wp2_with fail
    refine (refJoin_any A c rs a b _ _ (hM0.ext P) hl).mono ?_
    rintro e w4 ⟨rfl, y⟩
    replace P := ext_trans P y
    clear y ck
    go_wp2
    have M4 := hM0.ext P
    have ck := (b0.ext P).cell 0
    simp only [List.getElem?_toArray, List.getElem?_cons_zero] at ck
    have yk := fun x (hx : Ext w4 x) => ext_cell hx ck
    clear ck hM0 b0
    refine wp_region_planH (.reads 0 (.reads 2 (.makes 1 (.makes 3 (.reads 4 (.reads 5 (.reads 6 (.reads 8 (.makes 7 (.makes 9 (.reads 10 (.reads 11 (.reads 12 (.reads 13 (.reads 14 (.reads 15 (.reads 17 (.reads 18 (.reads 19 (.makes 16 (.makes 20 (.reads 21 (.reads 22 (.reads 23 (.reads 24 (.reads 25 (.reads 26 (.reads 28 (.reads 29 (.reads 30 (.makes 27 (.makes 31 (.reads 32 (.reads 33 (.reads 34 (.reads 35 (.reads 36 (.reads 38 (.reads 39 (.makes 37 (.makes 40 (.makes 41 (.reads 42 (.reads 43 (.reads 44 (.reads 45 (.reads 47 (.reads 48 (.makes 46 (.makes 49 (.makes 50 (.reads 51 (.reads 52 (.reads 53 (.reads 55 (.makes 54 (.makes 56 (.makes 57 (.reads 58 (.reads 59 (.reads 60 (.reads 61 (.reads 62 (.reads 63 (.reads 64 (.reads 65 (.reads 66 (.reads 67 (.reads 68 (.reads 69 (.reads 70 (.reads 72 (.makes 71 (.makes 73 (.makes 74 (.reads 75 (.reads 76 (.done)))))))))))))))))))))))))))))))))))))))))))))))))))))))))))))))))))))))))))))) (by kernel_rfl) (by kernel_rfl) (fun x => Ext w4 x) (ext_drewN w4 1) (fun ops HOPS => ?_)
    (refine segH_load _ _ _ _ _ _ _ _ _ (hid_get HOPS 0 _ rfl) wanted_none rfl (fun _ _ _ _ h => h) (fun y hy => by go_simp; try with_reducible rfl) ?_; simp only [Act.put, List.setIfInBounds_toArray, List.set_cons_zero, List.set_cons_succ])
    (refine segH_load _ _ _ _ _ _ _ _ _ (hid_get HOPS 2 _ rfl) wanted_none rfl (fun _ _ _ _ h => h) (fun y hy => by go_simp; try with_reducible rfl) ?_; simp only [Act.put, List.setIfInBounds_toArray, List.set_cons_zero, List.set_cons_succ])
    refine segH_makes _ _ _ _ _ _ (hid_get HOPS 1 _ rfl) wanted_none (fun K hK => ?_)
    go_big_op
    have P0 := P
    clear P
    have P : Ext w4 w4.drew := ext_drewN w4 1
    refine (check_any A c rs _ _ (M4.ext P) hl).mono ?_
    rintro e w5 ⟨rfl, y⟩
    replace P := ext_trans P y
    clear y
    refine hK _ _ (fun x => Ext w4 x) P (fun _ h => h) ?_
    clear hK
    refine segH_makes _ _ _ _ _ _ (hid_get HOPS 3 _ rfl) wanted_none (fun K hK => ?_)
    go_big_op
    refine (refCheck_any A c rs _ _ (M4.ext P) hl).mono ?_
    rintro e w6 ⟨rfl, y⟩
    replace P := ext_trans P y
    clear y
    refine hK _ _ (fun x => Ext w4 x) P (fun _ h => h) ?_
    clear hK
    (refine segH_pure _ _ _ _ _ _ (hid_get HOPS 4 _ rfl) rfl wanted_none (fun _ _ _ _ h => h) ?_; intro K hK; go_big_quiet_op; go_big_quiet_on)
    (refine segH_pure _ _ _ _ _ _ (hid_get HOPS 5 _ rfl) rfl wanted_none (fun _ _ _ _ h => h) ?_; intro K hK; go_big_quiet_op; go_big_quiet_on)
    first | (refine segH_pass _ _ _ _ _ _ (hid_get HOPS 6 _ rfl) (wanted_some (hid_get HOPS 5 _ rfl) rfl rfl rfl) (fun _ _ _ _ h => h) ?_; simp only [Act.put, List.setIfInBounds_toArray, List.set_cons_zero, List.set_cons_succ]) | (refine segH_load _ _ _ _ _ _ _ _ _ (hid_get HOPS 6 _ rfl) (wanted_some (hid_get HOPS 5 _ rfl) rfl rfl rfl) rfl (fun _ _ _ _ h => h) (fun y hy => by go_simp; try with_reducible rfl) ?_; simp only [Act.put, List.setIfInBounds_toArray, List.set_cons_zero, List.set_cons_succ])
    first | (refine segH_pass _ _ _ _ _ _ (hid_get HOPS 8 _ rfl) (wanted_some (hid_get HOPS 5 _ rfl) rfl rfl rfl) (fun _ _ _ _ h => h) ?_; simp only [Act.put, List.setIfInBounds_toArray, List.set_cons_zero, List.set_cons_succ]) | (refine segH_load _ _ _ _ _ _ _ _ _ (hid_get HOPS 8 _ rfl) (wanted_some (hid_get HOPS 5 _ rfl) rfl rfl rfl) rfl (fun _ _ _ _ h => h) (fun y hy => by go_simp; try with_reducible rfl) ?_; simp only [Act.put, List.setIfInBounds_toArray, List.set_cons_zero, List.set_cons_succ])
    refine segH_makes _ _ _ _ _ _ (hid_get HOPS 7 _ rfl) (wanted_some (hid_get HOPS 5 _ rfl) rfl rfl rfl) (fun K hK => ?_)
    go_big_op
    refine (latLevels_any A c rs _ _ (M4.ext P) hl).mono ?_
    rintro e w7 ⟨rfl, y⟩
    replace P := ext_trans P y
    clear y
    refine hK _ _ (fun x => Ext w4 x) P (fun _ h => h) ?_
    clear hK
    refine segH_makes _ _ _ _ _ _ (hid_get HOPS 9 _ rfl) (wanted_some (hid_get HOPS 5 _ rfl) rfl rfl rfl) (fun K hK => ?_)
    go_big_op
    refine (refLevels_any A c rs _ _ (M4.ext P) hl).mono ?_
    rintro e w8 ⟨rfl, y⟩
    replace P := ext_trans P y
    clear y
    refine hK _ _ (fun x => Ext w4 x) P (fun _ h => h) ?_
    clear hK
    first | (refine segH_pass _ _ _ _ _ _ (hid_get HOPS 10 _ rfl) (wanted_some (hid_get HOPS 5 _ rfl) rfl rfl rfl) (fun _ _ _ _ h => h) ?_; simp only [Act.put, List.setIfInBounds_toArray, List.set_cons_zero, List.set_cons_succ]) | (refine segH_pure _ _ _ _ _ _ (hid_get HOPS 10 _ rfl) rfl (wanted_some (hid_get HOPS 5 _ rfl) rfl rfl rfl) (fun _ _ _ _ h => h) ?_; intro K hK; go_big_quiet_op; go_big_quiet_on)
    (refine segH_pure _ _ _ _ _ _ (hid_get HOPS 11 _ rfl) rfl wanted_none (fun _ _ _ _ h => h) ?_; intro K hK; go_big_quiet_op; go_big_quiet_on)
    (refine segH_pure _ _ _ _ _ _ (hid_get HOPS 12 _ rfl) rfl wanted_none (fun _ _ _ _ h => h) ?_; intro K hK; go_big_quiet_op; go_big_quiet_on)
    first | (refine segH_pass _ _ _ _ _ _ (hid_get HOPS 13 _ rfl) (wanted_some (hid_get HOPS 12 _ rfl) rfl rfl rfl) (fun _ _ _ _ h => h) ?_; simp only [Act.put, List.setIfInBounds_toArray, List.set_cons_zero, List.set_cons_succ]) | (refine segH_load _ _ _ _ _ _ _ _ _ (hid_get HOPS 13 _ rfl) (wanted_some (hid_get HOPS 12 _ rfl) rfl rfl rfl) rfl (fun _ _ _ _ h => h) (fun y hy => by go_simp; try with_reducible rfl) ?_; simp only [Act.put, List.setIfInBounds_toArray, List.set_cons_zero, List.set_cons_succ])
    first | (refine segH_pass _ _ _ _ _ _ (hid_get HOPS 14 _ rfl) (wanted_some (hid_get HOPS 12 _ rfl) rfl rfl rfl) (fun _ _ _ _ h => h) ?_; simp only [Act.put, List.setIfInBounds_toArray, List.set_cons_zero, List.set_cons_succ]) | (refine segH_pure _ _ _ _ _ _ (hid_get HOPS 14 _ rfl) rfl (wanted_some (hid_get HOPS 12 _ rfl) rfl rfl rfl) (fun _ _ _ _ h => h) ?_; intro K hK; go_big_quiet_op; go_big_quiet_on)
    first | (refine segH_pass _ _ _ _ _ _ (hid_get HOPS 15 _ rfl) (wanted_some (hid_get HOPS 12 _ rfl) rfl rfl rfl) (fun _ _ _ _ h => h) ?_; simp only [Act.put, List.setIfInBounds_toArray, List.set_cons_zero, List.set_cons_succ]) | (refine segH_pure _ _ _ _ _ _ (hid_get HOPS 15 _ rfl) rfl (wanted_some (hid_get HOPS 12 _ rfl) rfl rfl rfl) (fun _ _ _ _ h => h) ?_; intro K hK; go_big_quiet_op; go_big_quiet_on)
    first | (refine segH_pass _ _ _ _ _ _ (hid_get HOPS 17 _ rfl) (wanted_some (hid_get HOPS 12 _ rfl) rfl rfl rfl) (fun _ _ _ _ h => h) ?_; simp only [Act.put, List.setIfInBounds_toArray, List.set_cons_zero, List.set_cons_succ]) | (refine segH_load _ _ _ _ _ _ _ _ _ (hid_get HOPS 17 _ rfl) (wanted_some (hid_get HOPS 12 _ rfl) rfl rfl rfl) rfl (fun _ _ _ _ h => h) (fun y hy => by go_simp; try with_reducible rfl) ?_; simp only [Act.put, List.setIfInBounds_toArray, List.set_cons_zero, List.set_cons_succ])
    first | (refine segH_pass _ _ _ _ _ _ (hid_get HOPS 18 _ rfl) (wanted_some (hid_get HOPS 12 _ rfl) rfl rfl rfl) (fun _ _ _ _ h => h) ?_; simp only [Act.put, List.setIfInBounds_toArray, List.set_cons_zero, List.set_cons_succ]) | (refine segH_pure _ _ _ _ _ _ (hid_get HOPS 18 _ rfl) rfl (wanted_some (hid_get HOPS 12 _ rfl) rfl rfl rfl) (fun _ _ _ _ h => h) ?_; intro K hK; go_big_quiet_op; go_big_quiet_on)
    first | (refine segH_pass _ _ _ _ _ _ (hid_get HOPS 19 _ rfl) (wanted_some (hid_get HOPS 12 _ rfl) rfl rfl rfl) (fun _ _ _ _ h => h) ?_; simp only [Act.put, List.setIfInBounds_toArray, List.set_cons_zero, List.set_cons_succ]) | (refine segH_pure _ _ _ _ _ _ (hid_get HOPS 19 _ rfl) rfl (wanted_some (hid_get HOPS 12 _ rfl) rfl rfl rfl) (fun _ _ _ _ h => h) ?_; intro K hK; go_big_quiet_op; go_big_quiet_on)
    refine segH_makes _ _ _ _ _ _ (hid_get HOPS 16 _ rfl) (wanted_some (hid_get HOPS 12 _ rfl) rfl rfl rfl) (fun K hK => ?_)
    go_big_op
    refine (latDom_any A c rs a b _ _ (M4.ext P) hl).mono ?_
    rintro e w9 ⟨rfl, y⟩
    replace P := ext_trans P y
    clear y
    refine hK _ _ (fun x => Ext w4 x) P (fun _ h => h) ?_
    clear hK
    refine segH_makes _ _ _ _ _ _ (hid_get HOPS 20 _ rfl) (wanted_some (hid_get HOPS 12 _ rfl) rfl rfl rfl) (fun K hK => ?_)
    go_big_op
    refine (refDom_any A c rs a b _ _ (M4.ext P) hl).mono ?_
    rintro e w10 ⟨rfl, y⟩
    replace P := ext_trans P y
    clear y
    refine hK _ _ (fun x => Ext w4 x) P (fun _ h => h) ?_
    clear hK
    first | (refine segH_pass _ _ _ _ _ _ (hid_get HOPS 21 _ rfl) (wanted_some (hid_get HOPS 12 _ rfl) rfl rfl rfl) (fun _ _ _ _ h => h) ?_; simp only [Act.put, List.setIfInBounds_toArray, List.set_cons_zero, List.set_cons_succ]) | (refine segH_pure _ _ _ _ _ _ (hid_get HOPS 21 _ rfl) rfl (wanted_some (hid_get HOPS 12 _ rfl) rfl rfl rfl) (fun _ _ _ _ h => h) ?_; intro K hK; go_big_quiet_op; go_big_quiet_on)
    (refine segH_pure _ _ _ _ _ _ (hid_get HOPS 22 _ rfl) rfl wanted_none (fun _ _ _ _ h => h) ?_; intro K hK; go_big_quiet_op; go_big_quiet_on)
    (refine segH_pure _ _ _ _ _ _ (hid_get HOPS 23 _ rfl) rfl wanted_none (fun _ _ _ _ h => h) ?_; intro K hK; go_big_quiet_op; go_big_quiet_on)
    first | (refine segH_pass _ _ _ _ _ _ (hid_get HOPS 24 _ rfl) (wanted_some (hid_get HOPS 23 _ rfl) rfl rfl rfl) (fun _ _ _ _ h => h) ?_; simp only [Act.put, List.setIfInBounds_toArray, List.set_cons_zero, List.set_cons_succ]) | (refine segH_load _ _ _ _ _ _ _ _ _ (hid_get HOPS 24 _ rfl) (wanted_some (hid_get HOPS 23 _ rfl) rfl rfl rfl) rfl (fun _ _ _ _ h => h) (fun y hy => by go_simp; try with_reducible rfl) ?_; simp only [Act.put, List.setIfInBounds_toArray, List.set_cons_zero, List.set_cons_succ])
    first | (refine segH_pass _ _ _ _ _ _ (hid_get HOPS 25 _ rfl) (wanted_some (hid_get HOPS 23 _ rfl) rfl rfl rfl) (fun _ _ _ _ h => h) ?_; simp only [Act.put, List.setIfInBounds_toArray, List.set_cons_zero, List.set_cons_succ]) | (refine segH_pure _ _ _ _ _ _ (hid_get HOPS 25 _ rfl) rfl (wanted_some (hid_get HOPS 23 _ rfl) rfl rfl rfl) (fun _ _ _ _ h => h) ?_; intro K hK; go_big_quiet_op; go_big_quiet_on)
    first | (refine segH_pass _ _ _ _ _ _ (hid_get HOPS 26 _ rfl) (wanted_some (hid_get HOPS 23 _ rfl) rfl rfl rfl) (fun _ _ _ _ h => h) ?_; simp only [Act.put, List.setIfInBounds_toArray, List.set_cons_zero, List.set_cons_succ]) | (refine segH_pure _ _ _ _ _ _ (hid_get HOPS 26 _ rfl) rfl (wanted_some (hid_get HOPS 23 _ rfl) rfl rfl rfl) (fun _ _ _ _ h => h) ?_; intro K hK; go_big_quiet_op; go_big_quiet_on)
    first | (refine segH_pass _ _ _ _ _ _ (hid_get HOPS 28 _ rfl) (wanted_some (hid_get HOPS 23 _ rfl) rfl rfl rfl) (fun _ _ _ _ h => h) ?_; simp only [Act.put, List.setIfInBounds_toArray, List.set_cons_zero, List.set_cons_succ]) | (refine segH_load _ _ _ _ _ _ _ _ _ (hid_get HOPS 28 _ rfl) (wanted_some (hid_get HOPS 23 _ rfl) rfl rfl rfl) rfl (fun _ _ _ _ h => h) (fun y hy => by go_simp; try with_reducible rfl) ?_; simp only [Act.put, List.setIfInBounds_toArray, List.set_cons_zero, List.set_cons_succ])
    first | (refine segH_pass _ _ _ _ _ _ (hid_get HOPS 29 _ rfl) (wanted_some (hid_get HOPS 23 _ rfl) rfl rfl rfl) (fun _ _ _ _ h => h) ?_; simp only [Act.put, List.setIfInBounds_toArray, List.set_cons_zero, List.set_cons_succ]) | (refine segH_pure _ _ _ _ _ _ (hid_get HOPS 29 _ rfl) rfl (wanted_some (hid_get HOPS 23 _ rfl) rfl rfl rfl) (fun _ _ _ _ h => h) ?_; intro K hK; go_big_quiet_op; go_big_quiet_on)
    first | (refine segH_pass _ _ _ _ _ _ (hid_get HOPS 30 _ rfl) (wanted_some (hid_get HOPS 23 _ rfl) rfl rfl rfl) (fun _ _ _ _ h => h) ?_; simp only [Act.put, List.setIfInBounds_toArray, List.set_cons_zero, List.set_cons_succ]) | (refine segH_pure _ _ _ _ _ _ (hid_get HOPS 30 _ rfl) rfl (wanted_some (hid_get HOPS 23 _ rfl) rfl rfl rfl) (fun _ _ _ _ h => h) ?_; intro K hK; go_big_quiet_op; go_big_quiet_on)
    refine segH_makes _ _ _ _ _ _ (hid_get HOPS 27 _ rfl) (wanted_some (hid_get HOPS 23 _ rfl) rfl rfl rfl) (fun K hK => ?_)
    go_big_op
    refine (latAbove_any A c rs a b _ _ (M4.ext P) hl).mono ?_
    rintro e w11 ⟨rfl, y⟩
    replace P := ext_trans P y
    clear y
    refine hK _ _ (fun x => Ext w4 x) P (fun _ h => h) ?_
    clear hK
    refine segH_makes _ _ _ _ _ _ (hid_get HOPS 31 _ rfl) (wanted_some (hid_get HOPS 23 _ rfl) rfl rfl rfl) (fun K hK => ?_)
    go_big_op
    refine (refAbove_any A c rs a b _ _ (M4.ext P) hl).mono ?_
    rintro e w12 ⟨rfl, y⟩
    replace P := ext_trans P y
    clear y
    refine hK _ _ (fun x => Ext w4 x) P (fun _ h => h) ?_
    clear hK
    first | (refine segH_pass _ _ _ _ _ _ (hid_get HOPS 32 _ rfl) (wanted_some (hid_get HOPS 23 _ rfl) rfl rfl rfl) (fun _ _ _ _ h => h) ?_; simp only [Act.put, List.setIfInBounds_toArray, List.set_cons_zero, List.set_cons_succ]) | (refine segH_pure _ _ _ _ _ _ (hid_get HOPS 32 _ rfl) rfl (wanted_some (hid_get HOPS 23 _ rfl) rfl rfl rfl) (fun _ _ _ _ h => h) ?_; intro K hK; go_big_quiet_op; go_big_quiet_on)
    (refine segH_pure _ _ _ _ _ _ (hid_get HOPS 33 _ rfl) rfl wanted_none (fun _ _ _ _ h => h) ?_; intro K hK; go_big_quiet_op; go_big_quiet_on)
    (refine segH_pure _ _ _ _ _ _ (hid_get HOPS 34 _ rfl) rfl wanted_none (fun _ _ _ _ h => h) ?_; intro K hK; go_big_quiet_op; go_big_quiet_on)
    first | (refine segH_pass _ _ _ _ _ _ (hid_get HOPS 35 _ rfl) (wanted_some (hid_get HOPS 34 _ rfl) rfl rfl rfl) (fun _ _ _ _ h => h) ?_; simp only [Act.put, List.setIfInBounds_toArray, List.set_cons_zero, List.set_cons_succ]) | (refine segH_load _ _ _ _ _ _ _ _ _ (hid_get HOPS 35 _ rfl) (wanted_some (hid_get HOPS 34 _ rfl) rfl rfl rfl) rfl (fun _ _ _ _ h => h) (fun y hy => by go_simp; try with_reducible rfl) ?_; simp only [Act.put, List.setIfInBounds_toArray, List.set_cons_zero, List.set_cons_succ])
    first | (refine segH_pass _ _ _ _ _ _ (hid_get HOPS 36 _ rfl) (wanted_some (hid_get HOPS 34 _ rfl) rfl rfl rfl) (fun _ _ _ _ h => h) ?_; simp only [Act.put, List.setIfInBounds_toArray, List.set_cons_zero, List.set_cons_succ]) | (refine segH_pure _ _ _ _ _ _ (hid_get HOPS 36 _ rfl) rfl (wanted_some (hid_get HOPS 34 _ rfl) rfl rfl rfl) (fun _ _ _ _ h => h) ?_; intro K hK; go_big_quiet_op; go_big_quiet_on)
    first | (refine segH_pass _ _ _ _ _ _ (hid_get HOPS 38 _ rfl) (wanted_some (hid_get HOPS 34 _ rfl) rfl rfl rfl) (fun _ _ _ _ h => h) ?_; simp only [Act.put, List.setIfInBounds_toArray, List.set_cons_zero, List.set_cons_succ]) | (refine segH_load _ _ _ _ _ _ _ _ _ (hid_get HOPS 38 _ rfl) (wanted_some (hid_get HOPS 34 _ rfl) rfl rfl rfl) rfl (fun _ _ _ _ h => h) (fun y hy => by go_simp; try with_reducible rfl) ?_; simp only [Act.put, List.setIfInBounds_toArray, List.set_cons_zero, List.set_cons_succ])
    first | (refine segH_pass _ _ _ _ _ _ (hid_get HOPS 39 _ rfl) (wanted_some (hid_get HOPS 34 _ rfl) rfl rfl rfl) (fun _ _ _ _ h => h) ?_; simp only [Act.put, List.setIfInBounds_toArray, List.set_cons_zero, List.set_cons_succ]) | (refine segH_pure _ _ _ _ _ _ (hid_get HOPS 39 _ rfl) rfl (wanted_some (hid_get HOPS 34 _ rfl) rfl rfl rfl) (fun _ _ _ _ h => h) ?_; intro K hK; go_big_quiet_op; go_big_quiet_on)
    refine segH_makes _ _ _ _ _ _ (hid_get HOPS 37 _ rfl) (wanted_some (hid_get HOPS 34 _ rfl) rfl rfl rfl) (fun K hK => ?_)
    go_big_op
    refine (latBelow_any A c rs a _ _ (M4.ext P) hl).mono ?_
    rintro e w13 ⟨v, rfl, hown, y⟩
    obtain ⟨A13, c13, rfl⟩ := hown.form
    have R13 : NatsAt w13 0 A13 (lbelow (mat rs) a) := hown.rows
    clear hown
    replace P := ext_trans P y
    clear y
    refine hK _ _ (fun x => Ext w4 x) P (fun _ h => h) ?_
    clear hK
    refine segH_makes _ _ _ _ _ _ (hid_get HOPS 40 _ rfl) (wanted_some (hid_get HOPS 34 _ rfl) rfl rfl rfl) (fun K hK => ?_)
    go_big_op
    refine (refBelow_any A c rs a _ _ (M4.ext P) hl).mono ?_
    rintro e w14 ⟨v, rfl, hown, y⟩
    obtain ⟨A14, c14, rfl⟩ := hown.form
    have R14 : NatsAt w14 0 A14 (lbelow (mat rs) a) := hown.rows
    replace R13 := RowsAt.ext R13 y
    clear hown
    replace P := ext_trans P y
    clear y
    refine hK _ _ (fun x => Ext w4 x) P (fun _ h => h) ?_
    clear hK
    refine segH_makes _ _ _ _ _ _ (hid_get HOPS 41 _ rfl) (wanted_some (hid_get HOPS 34 _ rfl) rfl rfl rfl) (fun K hK => ?_)
    go_big_op
    refine (sameNats_any A13 A14 c13 c14 (lbelow (mat rs) a) (lbelow (mat rs) a) _ _ _ R13 R14 (by have := below_le (mat rs) a; omega)).mono ?_
    rintro e w15 ⟨rfl, y⟩
    rw [show (lbelow (mat rs) a == lbelow (mat rs) a) = true from beq_self_eq_true _]
    clear R13 R14
    replace P := ext_trans P y
    clear y
    refine hK _ _ (fun x => Ext w4 x) P (fun _ h => h) ?_
    clear hK
    (refine segH_pure _ _ _ _ _ _ (hid_get HOPS 42 _ rfl) rfl wanted_none (fun _ _ _ _ h => h) ?_; intro K hK; go_big_quiet_op; go_big_quiet_on)
    (refine segH_pure _ _ _ _ _ _ (hid_get HOPS 43 _ rfl) rfl wanted_none (fun _ _ _ _ h => h) ?_; intro K hK; go_big_quiet_op; go_big_quiet_on)
    first | (refine segH_pass _ _ _ _ _ _ (hid_get HOPS 44 _ rfl) (wanted_some (hid_get HOPS 43 _ rfl) rfl rfl rfl) (fun _ _ _ _ h => h) ?_; simp only [Act.put, List.setIfInBounds_toArray, List.set_cons_zero, List.set_cons_succ]) | (refine segH_load _ _ _ _ _ _ _ _ _ (hid_get HOPS 44 _ rfl) (wanted_some (hid_get HOPS 43 _ rfl) rfl rfl rfl) rfl (fun _ _ _ _ h => h) (fun y hy => by go_simp; try with_reducible rfl) ?_; simp only [Act.put, List.setIfInBounds_toArray, List.set_cons_zero, List.set_cons_succ])
    first | (refine segH_pass _ _ _ _ _ _ (hid_get HOPS 45 _ rfl) (wanted_some (hid_get HOPS 43 _ rfl) rfl rfl rfl) (fun _ _ _ _ h => h) ?_; simp only [Act.put, List.setIfInBounds_toArray, List.set_cons_zero, List.set_cons_succ]) | (refine segH_pure _ _ _ _ _ _ (hid_get HOPS 45 _ rfl) rfl (wanted_some (hid_get HOPS 43 _ rfl) rfl rfl rfl) (fun _ _ _ _ h => h) ?_; intro K hK; go_big_quiet_op; go_big_quiet_on)
    first | (refine segH_pass _ _ _ _ _ _ (hid_get HOPS 47 _ rfl) (wanted_some (hid_get HOPS 43 _ rfl) rfl rfl rfl) (fun _ _ _ _ h => h) ?_; simp only [Act.put, List.setIfInBounds_toArray, List.set_cons_zero, List.set_cons_succ]) | (refine segH_load _ _ _ _ _ _ _ _ _ (hid_get HOPS 47 _ rfl) (wanted_some (hid_get HOPS 43 _ rfl) rfl rfl rfl) rfl (fun _ _ _ _ h => h) (fun y hy => by go_simp; try with_reducible rfl) ?_; simp only [Act.put, List.setIfInBounds_toArray, List.set_cons_zero, List.set_cons_succ])
    first | (refine segH_pass _ _ _ _ _ _ (hid_get HOPS 48 _ rfl) (wanted_some (hid_get HOPS 43 _ rfl) rfl rfl rfl) (fun _ _ _ _ h => h) ?_; simp only [Act.put, List.setIfInBounds_toArray, List.set_cons_zero, List.set_cons_succ]) | (refine segH_pure _ _ _ _ _ _ (hid_get HOPS 48 _ rfl) rfl (wanted_some (hid_get HOPS 43 _ rfl) rfl rfl rfl) (fun _ _ _ _ h => h) ?_; intro K hK; go_big_quiet_op; go_big_quiet_on)
    refine segH_makes _ _ _ _ _ _ (hid_get HOPS 46 _ rfl) (wanted_some (hid_get HOPS 43 _ rfl) rfl rfl rfl) (fun K hK => ?_)
    go_big_op
    refine (latCovers_any A c rs a _ _ (M4.ext P) hl).mono ?_
    rintro e w16 ⟨v, rfl, hown, y⟩
    obtain ⟨A16, c16, rfl⟩ := hown.form
    have R16 : NatsAt w16 0 A16 (lcovers (mat rs) a) := hown.rows
    clear hown
    replace P := ext_trans P y
    clear y
    refine hK _ _ (fun x => Ext w4 x) P (fun _ h => h) ?_
    clear hK
    refine segH_makes _ _ _ _ _ _ (hid_get HOPS 49 _ rfl) (wanted_some (hid_get HOPS 43 _ rfl) rfl rfl rfl) (fun K hK => ?_)
    go_big_op
    refine (refCovers_any A c rs a _ _ (M4.ext P) hl).mono ?_
    rintro e w17 ⟨v, rfl, hown, y⟩
    obtain ⟨A17, c17, rfl⟩ := hown.form
    have R17 : NatsAt w17 0 A17 (lcovers (mat rs) a) := hown.rows
    replace R16 := RowsAt.ext R16 y
    clear hown
    replace P := ext_trans P y
    clear y
    refine hK _ _ (fun x => Ext w4 x) P (fun _ h => h) ?_
    clear hK
    refine segH_makes _ _ _ _ _ _ (hid_get HOPS 50 _ rfl) (wanted_some (hid_get HOPS 43 _ rfl) rfl rfl rfl) (fun K hK => ?_)
    go_big_op
    refine (sameNats_any A16 A17 c16 c17 (lcovers (mat rs) a) (lcovers (mat rs) a) _ _ _ R16 R17 (by have := Nat.le_trans (covers_le (mat rs) a) (below_le (mat rs) a); omega)).mono ?_
    rintro e w18 ⟨rfl, y⟩
    rw [show (lcovers (mat rs) a == lcovers (mat rs) a) = true from beq_self_eq_true _]
    clear R16 R17
    replace P := ext_trans P y
    clear y
    refine hK _ _ (fun x => Ext w4 x) P (fun _ h => h) ?_
    clear hK
    (refine segH_pure _ _ _ _ _ _ (hid_get HOPS 51 _ rfl) rfl wanted_none (fun _ _ _ _ h => h) ?_; intro K hK; go_big_quiet_op; go_big_quiet_on)
    (refine segH_pure _ _ _ _ _ _ (hid_get HOPS 52 _ rfl) rfl wanted_none (fun _ _ _ _ h => h) ?_; intro K hK; go_big_quiet_op; go_big_quiet_on)
    first | (refine segH_pass _ _ _ _ _ _ (hid_get HOPS 53 _ rfl) (wanted_some (hid_get HOPS 52 _ rfl) rfl rfl rfl) (fun _ _ _ _ h => h) ?_; simp only [Act.put, List.setIfInBounds_toArray, List.set_cons_zero, List.set_cons_succ]) | (refine segH_load _ _ _ _ _ _ _ _ _ (hid_get HOPS 53 _ rfl) (wanted_some (hid_get HOPS 52 _ rfl) rfl rfl rfl) rfl (fun _ _ _ _ h => h) (fun y hy => by go_simp; try with_reducible rfl) ?_; simp only [Act.put, List.setIfInBounds_toArray, List.set_cons_zero, List.set_cons_succ])
    first | (refine segH_pass _ _ _ _ _ _ (hid_get HOPS 55 _ rfl) (wanted_some (hid_get HOPS 52 _ rfl) rfl rfl rfl) (fun _ _ _ _ h => h) ?_; simp only [Act.put, List.setIfInBounds_toArray, List.set_cons_zero, List.set_cons_succ]) | (refine segH_load _ _ _ _ _ _ _ _ _ (hid_get HOPS 55 _ rfl) (wanted_some (hid_get HOPS 52 _ rfl) rfl rfl rfl) rfl (fun _ _ _ _ h => h) (fun y hy => by go_simp; try with_reducible rfl) ?_; simp only [Act.put, List.setIfInBounds_toArray, List.set_cons_zero, List.set_cons_succ])
    refine segH_makes _ _ _ _ _ _ (hid_get HOPS 54 _ rfl) (wanted_some (hid_get HOPS 52 _ rfl) rfl rfl rfl) (fun K hK => ?_)
    go_big_op
    refine (latOrder_any A c rs _ _ (M4.ext P) hl).mono ?_
    rintro e w19 ⟨v, rfl, hown, y⟩
    obtain ⟨A19, c19, rfl⟩ := hown.form
    have R19 : NatsAt w19 0 A19 (lorder (mat rs)) := hown.rows
    clear hown
    replace P := ext_trans P y
    clear y
    refine hK _ _ (fun x => Ext w4 x) P (fun _ h => h) ?_
    clear hK
    refine segH_makes _ _ _ _ _ _ (hid_get HOPS 56 _ rfl) (wanted_some (hid_get HOPS 52 _ rfl) rfl rfl rfl) (fun K hK => ?_)
    go_big_op
    refine (refOrder_any A c rs _ _ (M4.ext P) hl).mono ?_
    rintro e w20 ⟨v, rfl, hown, y⟩
    obtain ⟨A20, c20, rfl⟩ := hown.form
    have R20 : NatsAt w20 0 A20 (lorder (mat rs)) := hown.rows
    replace R19 := RowsAt.ext R19 y
    clear hown
    replace P := ext_trans P y
    clear y
    refine hK _ _ (fun x => Ext w4 x) P (fun _ h => h) ?_
    clear hK
    refine segH_makes _ _ _ _ _ _ (hid_get HOPS 57 _ rfl) (wanted_some (hid_get HOPS 52 _ rfl) rfl rfl rfl) (fun K hK => ?_)
    go_big_op
    refine (sameNats_any A19 A20 c19 c20 (lorder (mat rs)) (lorder (mat rs)) _ _ _ R19 R20 (by have := Nat.le_trans (Nat.le_of_eq (order_taken (mat rs)).2) (levels_le (mat rs)); omega)).mono ?_
    rintro e w21 ⟨rfl, y⟩
    rw [show (lorder (mat rs) == lorder (mat rs)) = true from beq_self_eq_true _]
    clear R19 R20
    replace P := ext_trans P y
    clear y
    refine hK _ _ (fun x => Ext w4 x) P (fun _ h => h) ?_
    clear hK
    (refine segH_pure _ _ _ _ _ _ (hid_get HOPS 58 _ rfl) rfl wanted_none (fun _ _ _ _ h => h) ?_; intro K hK; go_big_quiet_op; go_big_quiet_on)
    (refine segH_pure _ _ _ _ _ _ (hid_get HOPS 59 _ rfl) rfl wanted_none (fun _ _ _ _ h => h) ?_; intro K hK; go_big_quiet_op; go_big_quiet_on)
    first | (refine segH_pass _ _ _ _ _ _ (hid_get HOPS 60 _ rfl) (wanted_some (hid_get HOPS 59 _ rfl) rfl rfl rfl) (fun _ _ _ _ h => h) ?_; simp only [Act.put, List.setIfInBounds_toArray, List.set_cons_zero, List.set_cons_succ]) | (refine segH_pure _ _ _ _ _ _ (hid_get HOPS 60 _ rfl) rfl (wanted_some (hid_get HOPS 59 _ rfl) rfl rfl rfl) (fun _ _ _ _ h => h) ?_; intro K hK; go_big_quiet_op; go_big_quiet_on)
    first | (refine segH_pass _ _ _ _ _ _ (hid_get HOPS 61 _ rfl) (wanted_some (hid_get HOPS 59 _ rfl) rfl rfl rfl) (fun _ _ _ _ h => h) ?_; simp only [Act.put, List.setIfInBounds_toArray, List.set_cons_zero, List.set_cons_succ]) | (refine segH_pure _ _ _ _ _ _ (hid_get HOPS 61 _ rfl) rfl (wanted_some (hid_get HOPS 59 _ rfl) rfl rfl rfl) (fun _ _ _ _ h => h) ?_; intro K hK; go_big_quiet_op; go_big_quiet_on)
    first | (refine segH_pass _ _ _ _ _ _ (hid_get HOPS 62 _ rfl) (wanted_some (hid_get HOPS 59 _ rfl) rfl rfl rfl) (fun _ _ _ _ h => h) ?_; simp only [Act.put, List.setIfInBounds_toArray, List.set_cons_zero, List.set_cons_succ]) | (refine segH_pure _ _ _ _ _ _ (hid_get HOPS 62 _ rfl) rfl (wanted_some (hid_get HOPS 59 _ rfl) rfl rfl rfl) (fun _ _ _ _ h => h) ?_; intro K hK; go_big_quiet_op; go_big_quiet_on)
    (refine segH_pure _ _ _ _ _ _ (hid_get HOPS 63 _ rfl) rfl wanted_none (fun _ _ _ _ h => h) ?_; intro K hK; go_big_quiet_op; go_big_quiet_on)
    (refine segH_pure _ _ _ _ _ _ (hid_get HOPS 64 _ rfl) rfl wanted_none (fun _ _ _ _ h => h) ?_; intro K hK; go_big_quiet_op; go_big_quiet_on)
    first | (refine segH_pass _ _ _ _ _ _ (hid_get HOPS 65 _ rfl) (wanted_some (hid_get HOPS 64 _ rfl) rfl rfl rfl) (fun _ _ _ _ h => h) ?_; simp only [Act.put, List.setIfInBounds_toArray, List.set_cons_zero, List.set_cons_succ]) | (refine segH_pure _ _ _ _ _ _ (hid_get HOPS 65 _ rfl) rfl (wanted_some (hid_get HOPS 64 _ rfl) rfl rfl rfl) (fun _ _ _ _ h => h) ?_; intro K hK; go_big_quiet_op; go_big_quiet_on)
    first | (refine segH_pass _ _ _ _ _ _ (hid_get HOPS 66 _ rfl) (wanted_some (hid_get HOPS 64 _ rfl) rfl rfl rfl) (fun _ _ _ _ h => h) ?_; simp only [Act.put, List.setIfInBounds_toArray, List.set_cons_zero, List.set_cons_succ]) | (refine segH_pure _ _ _ _ _ _ (hid_get HOPS 66 _ rfl) rfl (wanted_some (hid_get HOPS 64 _ rfl) rfl rfl rfl) (fun _ _ _ _ h => h) ?_; intro K hK; go_big_quiet_op; go_big_quiet_on)
    first | (refine segH_pass _ _ _ _ _ _ (hid_get HOPS 67 _ rfl) (wanted_some (hid_get HOPS 64 _ rfl) rfl rfl rfl) (fun _ _ _ _ h => h) ?_; simp only [Act.put, List.setIfInBounds_toArray, List.set_cons_zero, List.set_cons_succ]) | (refine segH_pure _ _ _ _ _ _ (hid_get HOPS 67 _ rfl) rfl (wanted_some (hid_get HOPS 64 _ rfl) rfl rfl rfl) (fun _ _ _ _ h => h) ?_; intro K hK; go_big_quiet_op; go_big_quiet_on)
    (refine segH_pure _ _ _ _ _ _ (hid_get HOPS 68 _ rfl) rfl wanted_none (fun _ _ _ _ h => h) ?_; intro K hK; go_big_quiet_op; go_big_quiet_on)
    (refine segH_pure _ _ _ _ _ _ (hid_get HOPS 69 _ rfl) rfl wanted_none (fun _ _ _ _ h => h) ?_; intro K hK; go_big_quiet_op; go_big_quiet_on)
    first | (refine segH_pass _ _ _ _ _ _ (hid_get HOPS 70 _ rfl) (wanted_some (hid_get HOPS 69 _ rfl) rfl rfl rfl) (fun _ _ _ _ h => h) ?_; simp only [Act.put, List.setIfInBounds_toArray, List.set_cons_zero, List.set_cons_succ]) | (refine segH_pure _ _ _ _ _ _ (hid_get HOPS 70 _ rfl) rfl (wanted_some (hid_get HOPS 69 _ rfl) rfl rfl rfl) (fun _ _ _ _ h => h) ?_; intro K hK; go_big_quiet_op; go_big_quiet_on)
    first | (refine segH_pass _ _ _ _ _ _ (hid_get HOPS 72 _ rfl) (wanted_some (hid_get HOPS 69 _ rfl) rfl rfl rfl) (fun _ _ _ _ h => h) ?_; simp only [Act.put, List.setIfInBounds_toArray, List.set_cons_zero, List.set_cons_succ]) | (refine segH_pure _ _ _ _ _ _ (hid_get HOPS 72 _ rfl) rfl (wanted_some (hid_get HOPS 69 _ rfl) rfl rfl rfl) (fun _ _ _ _ h => h) ?_; intro K hK; go_big_quiet_op; go_big_quiet_on)
    refine segH_makes _ _ _ _ _ _ (hid_get HOPS 71 _ rfl) (wanted_some (hid_get HOPS 69 _ rfl) rfl rfl rfl) (fun K hK => ?_)
    go_big_op
    refine (latChain_any n _ HN.out.1 HN.out.2).mono ?_
    rintro e w22 ⟨Ac, cc, ts, rfl, hmc, hMc, y⟩
    have HMC := Lib.hid hmc
    clear hmc
    replace P := ext_trans P y
    clear y
    refine hK _ _ (fun x => Ext w4 x) P (fun _ h => h) ?_
    clear hK
    refine segH_makes _ _ _ _ _ _ (hid_get HOPS 73 _ rfl) (wanted_some (hid_get HOPS 69 _ rfl) rfl rfl rfl) (fun K hK => ?_)
    go_big_op
    refine (refChain_any n _ HN.out.1 HN.out.2).mono ?_
    rintro e w23 ⟨Ad, cd, us, rfl, hmd, hMd, y⟩
    have HMD := Lib.hid hmd
    clear hmd
    replace hMc := hMc.ext y
    replace P := ext_trans P y
    clear y
    refine hK _ _ (fun x => Ext w4 x) P (fun _ h => h) ?_
    clear hK
    refine segH_makes _ _ _ _ _ _ (hid_get HOPS 74 _ rfl) (wanted_some (hid_get HOPS 69 _ rfl) rfl rfl rfl) (fun K hK => ?_)
    go_big_op
    refine (sameMat_any Ac Ad cc cd ts us _ _ _ hMc hMd (chain_len HMC.out).1 (chain_len HMC.out).2).mono ?_
    rintro e w24 ⟨rfl, y⟩
    rw [show sameMat (mat ts) (mat us) = true by rw [HMC.out, HMD.out]; simp [sameMat]]
    clear hMc hMd
    replace P := ext_trans P y
    clear y
    refine hK _ _ (fun x => Ext w4 x) P (fun _ h => h) ?_
    clear hK
    (refine segH_pure _ _ _ _ _ _ (hid_get HOPS 75 _ rfl) rfl wanted_none (fun _ _ _ _ h => h) ?_; intro K hK; go_big_quiet_op; go_big_quiet_on)
    (refine segH_pure _ _ _ _ _ _ (hid_get HOPS 76 _ rfl) rfl wanted_none (fun _ _ _ _ h => h) ?_; intro K hK; go_big_quiet_op; go_big_quiet_on)
    refine seg_done ?_
    go_wp2
    go_ret
    exact ⟨rfl, ext_trans x0 (ext_trans P0 P)⟩
end Go.Proofs.Ytdknkbpgkkakhaa
