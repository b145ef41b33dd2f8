/- The reference's own Is, on writes and items: the same answers. -/
import Derived.Test.YtdknkbpgkkakhaaItem2
namespace Go.Proofs.Ytdknkbpgkkakhaa
open Go.RowKit

def refGo : Option ByteArray → List Wr → Bool
  | _, [] => true
  | none, x :: xs => x.is && refGo (some x.key) xs
  | some a, x :: xs => x.is && !(leS x.key a) && refGo (some x.key) xs
theorem refGo_some (a : ByteArray) (ws : List Wr) : refGo (some a) ws = batchGo a ws := by
  induction ws generalizing a with
  | nil => rfl
  | cons x xs ih => simp only [refGo, batchGo, ih]
theorem leS_empty {a : ByteArray} (h : 1 ≤ a.size) : leS a ByteArray.empty = false := by
  obtain ⟨⟨l⟩⟩ := a
  cases l with
  | nil => simp [ByteArray.size] at h
  | cons x xs => simp [leS, ByteArray.toList_eq, Op.bytesLess]
theorem refGo_none (ws : List Wr) : refGo none ws = batchGo ByteArray.empty ws := by
  cases ws with
  | nil => rfl
  | cons x xs =>
    simp only [refGo, batchGo, refGo_some]
    cases hi : x.is
    · rfl
    · have : 1 ≤ x.key.size := by
        simp only [Wr.is, Bool.and_eq_true, decide_eq_true_eq] at hi
        exact hi.1.1.1
      rw [leS_empty this]; rfl

set_option maxHeartbeats 1000000 in
theorem refBatchIs_any (A : Option Addr) (c : Nat) (ws : List Wr) (w : World) (B : Nat) (hA : WrsAt w B A ws) (hok : ∀ x ∈ ws, x.ok) (hl : ws.length ≤ 9223372036854775807) :
    Calls Try.prog 109 #[.slice A ws.length c] w fun e w' => e = .returned (.bool (batchIs ws)) ∧ Ext w w' := by
  go_enter Try.func109, Try.ntmps109
  go_wp2
  go_loopw [3] (fun i wr => ∃ (k : Nat) (o : Option ByteArray), k ≤ ws.length ∧ i = .int .i64 k ∧ Ext w wr ∧ batchGo ByteArray.empty ws = refGo o (ws.drop k) ∧ (k ≤ 0 ∧ o = none ∨ ∃ hm : k - 1 < ws.length, 0 < k ∧ o = some ws[k - 1].key)) (fun i _ => ws.length - (intOf i).toNat)
  case atStart => exact ⟨0, none, Nat.zero_le _, rfl, Below.refl _ _, (refGo_none ws).symm, .inl ⟨by omega, rfl⟩⟩
  case round =>
    obtain ⟨k, o, hk, rfl, hext, hgo, ho⟩ := hrel
    have HG := Lib.hid hgo; clear hgo
    by_cases hlt : k < ws.length
    · have hAr : WrsAt wr B A ws := hA.ext hext
      obtain ⟨ad, rfl, h0, h1, h2⟩ := WrsAt.get hAr hlt
      have hx := hok _ (List.getElem_mem hlt)
      have x0 : ∀ x, Ext wr x → x.cell? (ad.add (k * 3)) = some (.string ws[k].key) := fun x hx => ext_cell hx h0
      have x1 : ∀ x, Ext wr x → x.cell? ⟨(ad.add (k * 3)).block, (ad.add (k * 3)).off + 1, none⟩ = some (.bool ws[k].del) := fun x hx => ext_cell hx h1
      have x2 : ∀ x, Ext wr x → x.cell? ⟨(ad.add (k * 3)).block, (ad.add (k * 3)).off + 2, none⟩ = some (.string ws[k].val) := fun x hx => ext_cell hx h2
      rcases ho with ⟨hk0, rfl⟩ | ⟨hm, hk0, rfl⟩
      · have HD : batchGo ByteArray.empty ws = (ws[k].is && refGo (some ws[k].key) (ws.drop (k + 1))) := by rw [HG.out, List.drop_eq_getElem_cons hlt]; rfl
        have HD' := Lib.hid HD; clear HD HG
        clear hAr hA hok
        have hgt : decide ((0 : Int) < (k : Int)) = false := by simp; omega
        have hgt' : decide (0 < k) = false := by simp; omega
        cases hi : ws[k].is
        all_goals
          go_wp2_with fail
          refine wp_region_plan (.reads 0 (.reads 1 (.reads 2 (.reads 3 (.makes 4 (.reads 5 (.reads 6 (.reads 7 (.reads 8 (.reads 9 (.reads 10 (.reads 11 (.reads 12 (.reads 13 (.reads 14 (.reads 15 (.reads 16 (.reads 17 (.reads 18 (.reads 19 (.reads 20 (.reads 21 (.reads 22 (.reads 23 (.done))))))))))))))))))))))))) (by kernel_rfl) (by kernel_rfl) (fun x => Ext wr x) (ext_drewN wr 1) ?_
          iterate 4 (refine seg_take0 ⟨_, _, _, _, _, _⟩ _ rfl rfl (fun x hx => by go_simp; try with_reducible rfl) (fun _ _ _ h => h) ?_; simp only [Act.put, List.setIfInBounds_toArray, List.set_cons_zero, List.set_cons_succ])
          refine seg_makes ⟨_, _, _, _, _, _⟩ rfl (fun K hK => ?_)
          go_simp
          refine (refIsWrite_any ws[k] _ hx).mono ?_
          rw [hi]
          rintro e w1 ⟨rfl, hext1⟩
          have hwr : Ext wr w1 := ext_trans (ext_drewN wr 1) hext1
          refine hK _ _ (fun x => Ext w1 x) (Below.refl _ _) (fun x hx => ext_trans (hwr) hx) ?_
          clear hK
          iterate 2 (refine seg_take0 ⟨_, _, _, _, _, _⟩ _ rfl rfl (fun x hx => by go_simp; try with_reducible rfl) (fun _ _ _ h => h) ?_; simp only [Act.put, List.setIfInBounds_toArray, List.set_cons_zero, List.set_cons_succ])
          iterate 16 (first | (refine seg_pass1 ⟨_, _, _, _, _, _⟩ rfl rfl rfl rfl (fun _ _ _ h => h) ?_; simp only [Act.put, List.setIfInBounds_toArray, List.set_cons_zero, List.set_cons_succ]) | (refine seg_take1 ⟨_, _, _, _, _, _⟩ _ rfl rfl rfl (fun x hx => by go_simp; try with_reducible rfl) (fun _ _ _ h => h) ?_; simp only [Act.put, List.setIfInBounds_toArray, List.set_cons_zero, List.set_cons_succ]))
          (refine seg_take0 ⟨_, _, _, _, _, _⟩ _ rfl rfl (fun x hx => by go_simp; try with_reducible rfl) (fun _ _ _ h => h) ?_; simp only [Act.put, List.setIfInBounds_toArray, List.set_cons_zero, List.set_cons_succ])
          refine seg_done ?_
          go_wp2
        · go_ret
          refine ⟨ret_bool ?_, ext_trans hext hwr⟩
          unfold batchIs; rw [HD'.out, hi]; rfl
        · go_roundw
          case rel => exact ⟨k + 1, some ws[k].key, hlt, by go_num, ext_trans hext hwr, by rw [HD'.out, hi]; rfl, .inr ⟨by simpa using hlt, by omega, rfl⟩⟩
          case measure => simp [intOf]; omega
      · have HD : batchGo ByteArray.empty ws = (ws[k].is && !(leS ws[k].key ws[k - 1].key) && refGo (some ws[k].key) (ws.drop (k + 1))) := by rw [HG.out, List.drop_eq_getElem_cons hlt]; rfl
        have HD' := Lib.hid HD; clear HD HG
        obtain ⟨ad', e', h0', h1', h2'⟩ := WrsAt.get hAr hm
        have e'' : ad' = ad := by injection e' with e'; exact e'.symm
        subst e''
        clear hAr hA hok h1' h2' e'
        have hgt : decide ((0 : Int) < (k : Int)) = true := by simp; omega
        have hkk : IntKind.i64.wrap ((k : Int) - 1) = (k : Int) - 1 := IntWalk.i64_in _ (by omega)
        have hkt : ((k : Int) - 1).toNat = k - 1 := by omega
        have hk1 : 0 ≤ (k : Int) - 1 := by omega
        have hk2 : (1 : Int) ≤ k := by omega
        have hk3 : (k : Int) - 1 < ws.length := by omega
        cases hi : ws[k].is
        · go_wp2_with fail
          refine wp_region_plan (.reads 0 (.reads 1 (.reads 2 (.reads 3 (.makes 4 (.reads 5 (.reads 6 (.reads 7 (.reads 8 (.reads 9 (.reads 10 (.reads 11 (.reads 12 (.reads 13 (.reads 14 (.reads 15 (.reads 16 (.reads 17 (.reads 18 (.reads 19 (.reads 20 (.reads 21 (.reads 22 (.reads 23 (.done))))))))))))))))))))))))) (by kernel_rfl) (by kernel_rfl) (fun x => Ext wr x) (ext_drewN wr 1) ?_
          iterate 4 (refine seg_take0 ⟨_, _, _, _, _, _⟩ _ rfl rfl (fun x hx => by go_simp; try with_reducible rfl) (fun _ _ _ h => h) ?_; simp only [Act.put, List.setIfInBounds_toArray, List.set_cons_zero, List.set_cons_succ])
          refine seg_makes ⟨_, _, _, _, _, _⟩ rfl (fun K hK => ?_)
          go_simp
          refine (refIsWrite_any ws[k] _ hx).mono ?_
          rw [hi]
          rintro e w1 ⟨rfl, hext1⟩
          have hwr : Ext wr w1 := ext_trans (ext_drewN wr 1) hext1
          refine hK _ _ (fun x => Ext w1 x) (Below.refl _ _) (fun x hx => ext_trans (hwr) hx) ?_
          clear hK
          iterate 2 (refine seg_take0 ⟨_, _, _, _, _, _⟩ _ rfl rfl (fun x hx => by go_simp; try with_reducible rfl) (fun _ _ _ h => h) ?_; simp only [Act.put, List.setIfInBounds_toArray, List.set_cons_zero, List.set_cons_succ])
          iterate 16 (first | (refine seg_pass1 ⟨_, _, _, _, _, _⟩ rfl rfl rfl rfl (fun _ _ _ h => h) ?_; simp only [Act.put, List.setIfInBounds_toArray, List.set_cons_zero, List.set_cons_succ]) | (refine seg_take1 ⟨_, _, _, _, _, _⟩ _ rfl rfl rfl (fun x hx => by go_simp; try with_reducible rfl) (fun _ _ _ h => h) ?_; simp only [Act.put, List.setIfInBounds_toArray, List.set_cons_zero, List.set_cons_succ]))
          (refine seg_take0 ⟨_, _, _, _, _, _⟩ _ rfl rfl (fun x hx => by go_simp; try with_reducible rfl) (fun _ _ _ h => h) ?_; simp only [Act.put, List.setIfInBounds_toArray, List.set_cons_zero, List.set_cons_succ])
          refine seg_done ?_
          go_wp2
          go_ret
          refine ⟨ret_bool ?_, ext_trans hext hwr⟩
          unfold batchIs; rw [HD'.out, hi]; rfl
        · cases hle : (Op.bytesLess ws[k].key.toList ws[k - 1].key.toList || ws[k].key.toList == ws[k - 1].key.toList)
          all_goals
            go_wp2_with fail
            refine wp_region_plan (.reads 0 (.reads 1 (.reads 2 (.reads 3 (.makes 4 (.reads 5 (.reads 6 (.reads 7 (.reads 8 (.reads 9 (.reads 10 (.reads 11 (.reads 12 (.reads 13 (.reads 14 (.reads 15 (.reads 16 (.reads 17 (.reads 18 (.reads 19 (.reads 20 (.reads 21 (.reads 22 (.reads 23 (.done))))))))))))))))))))))))) (by kernel_rfl) (by kernel_rfl) (fun x => Ext wr x) (ext_drewN wr 1) ?_
            iterate 4 (refine seg_take0 ⟨_, _, _, _, _, _⟩ _ rfl rfl (fun x hx => by go_simp; try with_reducible rfl) (fun _ _ _ h => h) ?_; simp only [Act.put, List.setIfInBounds_toArray, List.set_cons_zero, List.set_cons_succ])
            refine seg_makes ⟨_, _, _, _, _, _⟩ rfl (fun K hK => ?_)
            go_simp
            refine (refIsWrite_any ws[k] _ hx).mono ?_
            rw [hi]
            rintro e w1 ⟨rfl, hext1⟩
            have hwr : Ext wr w1 := ext_trans (ext_drewN wr 1) hext1
            have y0 : ∀ x, Ext w1 x → x.cell? (ad'.add (k * 3)) = some (.string ws[k].key) := fun x hx => x0 x (ext_trans hwr hx)
            have y1 : ∀ x, Ext w1 x → x.cell? (ad'.add ((k - 1) * 3)) = some (.string ws[k - 1].key) := fun x hx => ext_cell (ext_trans hwr hx) h0'
            refine hK _ _ (fun x => Ext w1 x) (Below.refl _ _) (fun x hx => ext_trans (hwr) hx) ?_
            clear hK
            iterate 2 (refine seg_take0 ⟨_, _, _, _, _, _⟩ _ rfl rfl (fun x hx => by go_simp; try with_reducible rfl) (fun _ _ _ h => h) ?_; simp only [Act.put, List.setIfInBounds_toArray, List.set_cons_zero, List.set_cons_succ])
            iterate 16 (first | (refine seg_pass1 ⟨_, _, _, _, _, _⟩ rfl rfl rfl rfl (fun _ _ _ h => h) ?_; simp only [Act.put, List.setIfInBounds_toArray, List.set_cons_zero, List.set_cons_succ]) | (refine seg_take1 ⟨_, _, _, _, _, _⟩ _ rfl rfl rfl (fun x hx => by go_simp; try with_reducible rfl) (fun _ _ _ h => h) ?_; simp only [Act.put, List.setIfInBounds_toArray, List.set_cons_zero, List.set_cons_succ]))
            (refine seg_take0 ⟨_, _, _, _, _, _⟩ _ rfl rfl (fun x hx => by go_simp; try with_reducible rfl) (fun _ _ _ h => h) ?_; simp only [Act.put, List.setIfInBounds_toArray, List.set_cons_zero, List.set_cons_succ])
            refine seg_done ?_
            go_wp2
          · go_roundw
            case rel => exact ⟨k + 1, some ws[k].key, hlt, by go_num, ext_trans hext hwr, by rw [HD'.out, hi, show leS ws[k].key ws[k - 1].key = false from hle]; rfl, .inr ⟨by simpa using hlt, by omega, rfl⟩⟩
            case measure => simp [intOf]; omega
          · go_ret
            refine ⟨ret_bool ?_, ext_trans hext hwr⟩
            unfold batchIs; rw [HD'.out, hi, show leS ws[k].key ws[k - 1].key = true from hle]; rfl
    · obtain rfl : k = ws.length := by omega
      go_wp2
      go_ret
      refine ⟨ret_bool ?_, hext⟩
      unfold batchIs; rw [HG.out, List.drop_length]
      rw [Bool.eq_iff_iff]; cases o <;> simp [refGo] <;> omega
end Go.Proofs.Ytdknkbpgkkakhaa
