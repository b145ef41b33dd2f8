/- Layer 20: Ready, Of. -/
import Derived.Test.YtdknkbpgkkakhaaInt1
namespace Go.Proofs.Ytdknkbpgkkakhaa
open Go.RowKit Go.Maps

section
variable {w w' : World} {B : Nat} {A : Option Addr} {c : Nat} {rs : List Rw} {lev : Int} {m : IntMem} {s : IntSt}
theorem IntAt.blk_lt (h : IntAt w B A c rs lev m s) : m.ga < w.heap.size := h.blk.lt
theorem below_six {ms : Mat} {a : Int} {k : Nat} (hk : k < (lbelow ms a).length) : (lbelow ms a)[k] < 6 := by
  have h := below_lt (List.getElem_mem hk)
  have := levels_le ms
  omega
def rdy (ms : Mat) (over : Nat → Int) (lev t : Int) : Bool := (lbelow ms lev).all fun b => decide (t < over b)
set_option maxRecDepth 100000 in
set_option maxHeartbeats 4000000 in
theorem intReady_any (h : IntAt w B A c rs lev m s) (t : Int) (hl : rs.length ≤ 9223372036854775807) :
    Calls Try.prog 83 #[.pointer (some ⟨m.ga, 0, none⟩), .int .i64 t] w fun e w' => e = .returned (.bool (rdy (mat rs) s.over lev t)) ∧ Ext w w' := by
  have c0 := h.blk.cell 0
  have c1 := h.blk.cell 1
  rw [h.lat] at c0
  rw [h.lev_] at c1
  have hO : ∀ x, Ext w x → ∀ b : Nat, b < 6 → x.cell? ⟨m.ga, 8 + b, none⟩ = some (.int .i64 (s.over b)) := fun x hx b hb => by
    have := (h.blk.ext hx).cell (8 + b)
    rwa [h.ovr b hb] at this
  have HM := Lib.hid h.mat
  clear h
  have d0 := fun x (hx : Ext w x) => ext_cell hx c0
  have d1 := fun x (hx : Ext w x) => ext_cell hx c1
  go_enter Try.func83, Try.ntmps83
  go_wp2_with fail
  refine wp_region_planH3 (.reads 0 (.reads 1 (.reads 2 (.reads 3 (.reads 4 (.reads 5 (.reads 6 (.reads 7 (.reads 10 (.makes 8 (.reads 9 (.done)))))))))))) (by kernel_rfl) (by kernel_rfl) (fun x' => Ext w x') (ext_drewN w 1) (fun ops HOPS => ?_)
  (refine segH_pure _ _ _ _ _ _ (hid_get HOPS 0 _ rfl) rfl wanted_none (fun _ _ _ _ h => h) ?_; intro K hK; go_big_quiet_op; go_big_quiet_on)
  (refine segH_nil _ _ _ _ _ _ _ (hid_get HOPS 1 _ rfl) wanted_none rfl (fun _ _ _ _ h => h) ?_; simp only [Act.put, List.setIfInBounds_toArray, List.set_cons_zero, List.set_cons_succ])
  (refine segH_pure _ _ _ _ _ _ (hid_get HOPS 2 _ rfl) rfl wanted_none (fun _ _ _ _ h => h) ?_; intro K hK; go_big_quiet_op; go_big_quiet_on)
  (refine segH_load _ _ _ _ _ _ _ _ _ (hid_get HOPS 3 _ rfl) wanted_none rfl (fun _ _ _ _ h => h) (fun y hy => by go_simp; try with_reducible rfl) ?_; simp only [Act.put, List.setIfInBounds_toArray, List.set_cons_zero, List.set_cons_succ])
  (refine segH_pure _ _ _ _ _ _ (hid_get HOPS 4 _ rfl) rfl wanted_none (fun _ _ _ _ h => h) ?_; intro K hK; go_big_quiet_op; go_big_quiet_on)
  (refine segH_nil _ _ _ _ _ _ _ (hid_get HOPS 5 _ rfl) wanted_none rfl (fun _ _ _ _ h => h) ?_; simp only [Act.put, List.setIfInBounds_toArray, List.set_cons_zero, List.set_cons_succ])
  (refine segH_pure _ _ _ _ _ _ (hid_get HOPS 6 _ rfl) rfl wanted_none (fun _ _ _ _ h => h) ?_; intro K hK; go_big_quiet_op; go_big_quiet_on)
  (refine segH_load _ _ _ _ _ _ _ _ _ (hid_get HOPS 7 _ rfl) wanted_none rfl (fun _ _ _ _ h => h) (fun y hy => by go_simp; try with_reducible rfl) ?_; simp only [Act.put, List.setIfInBounds_toArray, List.set_cons_zero, List.set_cons_succ])
  (refine segH_pure _ _ _ _ _ _ (hid_get HOPS 10 _ rfl) rfl wanted_none (fun _ _ _ _ h => h) ?_; intro K hK; go_big_quiet_op; go_big_quiet_on)
  refine segH_makes _ _ _ _ _ _ (hid_get HOPS 8 _ rfl) wanted_none (fun K hK => ?_)
  go_big_op
  refine (latBelow_any A c rs lev _ _ (HM.out.ext (ext_drewN w 1)) hl).mono ?_
  rintro e w1 ⟨v, rfl, hown, x1⟩
  obtain ⟨ls, hls⟩ : ∃ ls, ls = lbelow (mat rs) lev := ⟨_, rfl⟩
  have hr : rdy (mat rs) s.over lev t = ls.all fun b => decide (t < s.over b) := by rw [hls]; rfl
  have h6 : ∀ k (hk : k < ls.length), ls[k] < 6 := by subst hls; exact fun k hk => below_six hk
  have hln : ls.length ≤ 6 := by rw [hls]; exact below_le _ _
  rw [← hls] at hown
  have HR := Lib.hid hr
  clear hr hls
  obtain ⟨Ab, cb, rfl⟩ := hown.form
  have hR : NatsAt w1 w1.drew.heap.size Ab ls := hown.rows
  have hW : Ext w w1 := ext_trans (ext_drewN w 1) x1
  refine hK _ _ (fun x' => Ext w x') hW (fun _ h => h) ?_
  clear hK hown x1
  (refine segH_pure _ _ _ _ _ _ (hid_get HOPS 9 _ rfl) rfl wanted_none (fun _ _ _ _ h => h) ?_; intro K hK; go_big_quiet_op; go_big_quiet_on)
  refine seg_done ?_
  clear HOPS
  clear c0 c1 d0 d1
  go_wp2
  go_loopw [17] (fun i wr => ∃ k : Nat, i = .int .i64 k ∧ k ≤ ls.length ∧ Ext w1 wr ∧ Hid ((ls.take k).all (fun b => decide (t < s.over b)) = true)) (fun i _ => ls.length - (intOf i).toNat)
  case atStart => exact ⟨0, rfl, Nat.zero_le _, Below.refl _ _, rfl⟩
  case round =>
    obtain ⟨k, rfl, hk, hxi, HT⟩ := hrel
    by_cases hlt : k < ls.length
    · obtain ⟨ad, rfl, p0⟩ := NatsAt.get (hR.ext hxi) hlt
      have p1 := hO _ (ext_trans hW hxi) ls[k] (h6 k hlt)
      have h6k := h6 k hlt
      have HS := Lib.hid (show (ls.take (k + 1)).all (fun b => decide (t < s.over b)) = ((ls.take k).all (fun b => decide (t < s.over b)) && decide (t < s.over ls[k])) by rw [List.take_succ_eq_append_getElem hlt, List.all_append]; simp)
      by_cases ht : s.over ls[k] ≤ t
      · have HF : Hid (rdy (mat rs) s.over lev t = false) := by
          show _ = _
          rw [HR.out, ← Bool.not_eq_true, List.all_eq_true]
          intro hall
          have := hall _ (List.getElem_mem hlt)
          simp at this
          omega
        clear hO h6
        go_wp2
        go_ret
        exact ⟨by rw [HF.out]; rfl, ext_trans hW hxi⟩
      · clear hO h6
        go_wp2
        go_roundw
        case rel => exact ⟨k + 1, by go_num, hlt, hxi, by show _ = _; rw [HS.out, HT.out]; simp; omega⟩
        case measure => simp [intOf]; omega
    · clear hO h6
      obtain rfl : k = ls.length := by omega
      go_wp2
      go_ret
      exact ⟨by rw [HR.out, ← HT.out, List.take_length]; rfl, ext_trans hW hxi⟩

/-- Of. -/
def ofP (first : Int) (t : Int) (a : Nat) (x : It) : Bool := decide (x.turn = t) && decide (x.level = (a : Int)) && decide (first ≤ t)
def ofL (ms : Mat) (came : List It) (first t : Int) : List It := (lorder ms).flatMap fun a => came.filter (ofP first t a)
set_option maxRecDepth 100000 in
set_option maxHeartbeats 2000000 in
theorem intOf_all (h : IntAt w B A c rs lev m s) (t : Int) (hl : rs.length ≤ 9223372036854775807) :
    Calls Try.prog 85 #[.pointer (some ⟨m.ga, 0, none⟩), .int .i64 t] w fun e w' => ∃ v zs, e = .returned v ∧ Own elIv w' w.heap.size v zs ∧ its zs = ofL (mat rs) s.came s.first t ∧ (∀ z ∈ zs, IvOk w' B z) ∧ Ext w w' := by
  have c0 := h.blk.cell 0
  have c1 := h.blk.cell 16
  have c2 := h.blk.cell 17
  rw [h.lat] at c0
  rw [h.camc] at c1
  rw [h.firc] at c2
  have HM := Lib.hid h.mat
  obtain ⟨ys, hO, hys, hok⟩ := h.came
  obtain ⟨A0, c0', hv⟩ := hO.form
  rw [hv] at c1 hO
  have hR := hO.rows (B := B)
  have hR' : RowsIv w B A0 ys := hR
  have hbase : B ≤ w.heap.size := h.base_le
  have hcl : ys.length ≤ 1000000 := by
    have := h.camelen
    rw [← hys, its_length] at this
    exact this
  have HYS : Hid (its ys = s.came) := hys
  clear h hO hv hys hR
  go_enter Try.func85, Try.ntmps85
  go_wp2_with fail
  refine (latOrder_any A c rs _ _ HM.out hl).mono ?_
  rintro e w1 ⟨v, rfl, hown, x1⟩
  obtain ⟨ls, hls⟩ : ∃ ls, ls = lorder (mat rs) := ⟨_, rfl⟩
  have hln : ls.length ≤ 6 := by rw [hls, (order_taken _).2]; exact levels_le _
  rw [← hls] at hown
  have HL := Lib.hid hls
  clear hls
  obtain ⟨Ab, cb, rfl⟩ := hown.form
  have hRN : NatsAt w1 w1.heap.size Ab ls := hown.rows
  clear c0 hown
  replace c1 := ext_cell x1 c1
  replace c2 := ext_cell x1 c2
  replace hR' := RowsAt.ext hR' x1
  replace hok := fun z hz => (hok z hz).ext x1
  go_wp2
  go_loopw [5, 16] (fun o i wr => ∃ (k : Nat) (zs : List Iv), i = .int .i64 k ∧ k ≤ ls.length ∧ Ext w1 wr ∧ Own elIv wr w1.heap.size o zs ∧ zs.length ≤ k * 1000000 ∧ (∀ z ∈ zs, IvOk wr B z) ∧ Hid (its zs = (ls.take k).flatMap fun a => (its ys).filter (ofP s.first t a))) (fun _ i _ => ls.length - (intOf i).toNat)
  case atStart => exact ⟨0, [], rfl, Nat.zero_le _, Below.refl _ _, Own.nil _ _, Nat.zero_le _, by simp, rfl⟩
  case round =>
    obtain ⟨k, zs, rfl, hk, hxi, hown, hzl, hzs, HT⟩ := hrel
    obtain ⟨wo, rfl⟩ : ∃ wo : World, wo = wr := ⟨_, rfl⟩
    obtain ⟨Ao, co, rfl⟩ := hown.form
    by_cases hlt : k < ls.length
    · obtain ⟨ad, rfl, p0⟩ := NatsAt.get (hRN.ext hxi) hlt
      have q1 := ext_cell hxi c1
      have HTK := Lib.hid (show ((ls.take (k + 1)).flatMap fun a => (its ys).filter (ofP s.first t a)) = ((ls.take k).flatMap fun a => (its ys).filter (ofP s.first t a)) ++ (its ys).filter (ofP s.first t ls[k]) by rw [List.take_succ_eq_append_getElem hlt, List.flatMap_append]; simp)
      obtain ⟨lk, hlk⟩ : ∃ lk, lk = ls[k] := ⟨_, rfl⟩
      rw [← hlk] at HTK p0
      clear hlk
      go_wp2
      go_step3
      go_wp2
      go_step3
      go_wp2
      go_loopw [5, 25] (fun o i wi => ∃ (j : Nat) (zs' : List Iv), i = .int .i64 j ∧ j ≤ ys.length ∧ Ext w1 wi ∧ Own elIv wi w1.heap.size o zs' ∧ zs'.length ≤ k * 1000000 + j ∧ (∀ z ∈ zs', IvOk wi B z) ∧ Hid (its zs' = its zs ++ ((its ys).take j).filter (ofP s.first t lk))) (fun _ i _ => ys.length - (intOf i).toNat)
      case atStart => exact ⟨0, zs, rfl, Nat.zero_le _, hxi, hown, Nat.le_trans hzl (Nat.le_add_right _ _), hzs, by show _ = _; simp⟩
      case round =>
        clear hown hzs hzl p0 q1
        obtain ⟨j, zs', rfl, hj, hxj, hown', hzl', hzs', HT'⟩ := hrel
        obtain ⟨Ai, ci, rfl⟩ := hown'.form
        by_cases hlt' : j < ys.length
        · have hix := (hok _ (List.getElem_mem hlt')).ext hxj
          obtain ⟨ad', hA0, p0, p1, p2, p3, p4⟩ := RowsIv.get (RowsAt.ext hR' hxj) hlt'
          have e0 : A0 = some ad' := hA0
          have q1 := ext_cell hxj c1
          have q2 := fun o => ext_cell (ext_trans hxj (ext_alloc wr o)) c2
          subst e0
          have HTJ : Hid (((its ys).take (j + 1)).filter (ofP s.first t lk) = ((its ys).take j).filter (ofP s.first t lk) ++ [ys[j].it].filter (ofP s.first t lk)) := by
            show _ = _
            have e : (its ys)[j]? = some ys[j].it := by simp [its, List.getElem?_eq_getElem hlt']
            rw [List.take_add_one, e, List.filter_append]; rfl
          by_cases h1 : ys[j].it.turn = t
          · by_cases h2 : ys[j].it.level = (lk : Int)
            · by_cases h3 : t < s.first
              · have HNP : Hid (((its ys).take (j + 1)).filter (ofP s.first t lk) = ((its ys).take j).filter (ofP s.first t lk)) := by
                  show _ = _
                  rw [HTJ.out]; simp [ofP, h1, h2, show ¬ s.first ≤ t by omega]
                clear hR' c1 c2
                go_wp2
                go_roundw
                case rel => exact ⟨j + 1, zs', by go_num, hlt', ext_trans hxj (ext_alloc _ _), hown'.ext (ext_alloc _ _), by omega, fun z hz => (hzs' z hz).ext (ext_alloc _ _), by show _ = _; rw [HNP.out, HT'.out]⟩
                case measure => simp [intOf]; omega
              · have HYP : Hid (((its ys).take (j + 1)).filter (ofP s.first t lk) = ((its ys).take j).filter (ofP s.first t lk) ++ [ys[j].it]) := by
                  show _ = _
                  rw [HTJ.out]; simp [ofP, h1, h2, show s.first ≤ t by omega]
                have HXE : Hid (ys[j].it = (⟨(lk : Int), ys[j].it.n, t, ys[j].it.shut, ys[j].it.ws⟩ : It)) := by
                  show _ = _
                  rw [← h1, ← h2]
                clear hR' c1 c2
                go_wp2_with fail
                refine (itemCopy_any (⟨(lk : Int), ys[j].it.n, t, ys[j].it.shut, ys[j].it.ws⟩ : It) _ _ _ B (hix.at_.ext (ext_alloc _ _)) (by have := hix.len; omega)).mono ?_
                rintro e w2 ⟨A', c', rfl, hW, hext0⟩
                have hext : Ext wr w2 := ext_trans (ext_alloc _ _) hext0
                have HB := Lib.hid (rows_block (E := elIv) (B := B) (⟨(⟨(lk : Int), ys[j].it.n, t, ys[j].it.shut, ys[j].it.ws⟩ : It), A', c'⟩ : Iv) (Blk.new w2 33 (Iv.cells ⟨(⟨(lk : Int), ys[j].it.n, t, ys[j].it.shut, ys[j].it.ws⟩ : It), A', c'⟩).toArray))
                have HO := Lib.hid ((hown'.ext hext).ext (ext_alloc w2 (.cells (Iv.cells ⟨(⟨(lk : Int), ys[j].it.n, t, ys[j].it.shut, ys[j].it.ws⟩ : It), A', c'⟩).toArray 33)))
                have hz1 : w1.heap.size ≤ w2.heap.size := Nat.le_trans hxj.size hext.size
                have hz2 : B ≤ w1.heap.size := Nat.le_trans hbase x1.size
                clear p0 p1 p2 p3 p4 hext0 q1 q2 hown'
                go_wp2_with (at_builtin; refine wpList_append elIv rfl _ _ rfl w1.heap.size (.slice Ai zs'.length ci) zs' rfl HO.out _ 1 [(⟨(⟨(lk : Int), ys[j].it.n, t, ys[j].it.shut, ys[j].it.ws⟩ : It), A', c'⟩ : Iv)] rfl B HB.out (by show _ * 56 ≤ _; simp; omega) (by simp; omega) (by simp; omega) ?_; intro A2 c2 w3 hown3 hg3 hat3)
                have hk2 : Keeps B [33] (w2.alloc (.cells (Iv.cells ⟨(⟨(lk : Int), ys[j].it.n, t, ys[j].it.shut, ys[j].it.ws⟩ : It), A', c'⟩).toArray 33)) w3 := HO.out.keeps hg3 hz2
                have hx2 : Ext wr (w2.alloc (.cells (Iv.cells ⟨(⟨(lk : Int), ys[j].it.n, t, ys[j].it.shut, ys[j].it.ws⟩ : It), A', c'⟩).toArray 33)) := ext_trans hext (ext_alloc _ _)
                go_roundw
                case rel =>
                  refine ⟨j + 1, zs' ++ [⟨(⟨(lk : Int), ys[j].it.n, t, ys[j].it.shut, ys[j].it.ws⟩ : It), A', c'⟩], by go_num, hlt', ?_, by simpa using hown3, by simp; omega, ?_, ?_⟩
                  · exact (below_ext hxj (Nat.le_refl _) hx2).grown hg3 (by simp; omega) (fun k hk => (HO.out.typed hk).1)
                  · intro y hy
                    rcases List.mem_append.1 hy with hy | hy
                    · exact ((hzs' y hy).ext hx2).keeps hk2 (by decide)
                    · have e1 : y = ⟨(⟨(lk : Int), ys[j].it.n, t, ys[j].it.shut, ys[j].it.ws⟩ : It), A', c'⟩ := by simpa using hy
                      subst e1
                      exact ⟨(RowsAt.ext hW (ext_alloc _ _)).keeps hk2 (by decide), hix.wr, hix.len⟩
                  · show _ = _
                    rw [its_append, HYP.out, HT'.out, HXE.out]; simp [its]
                case measure => simp [intOf]; omega
            · have HNP : Hid (((its ys).take (j + 1)).filter (ofP s.first t lk) = ((its ys).take j).filter (ofP s.first t lk)) := by
                show _ = _
                rw [HTJ.out]; simp [ofP, h1, h2]
              clear hR' c1 c2
              go_wp2
              go_roundw
              case rel => exact ⟨j + 1, zs', by go_num, hlt', ext_trans hxj (ext_alloc _ _), hown'.ext (ext_alloc _ _), by omega, fun z hz => (hzs' z hz).ext (ext_alloc _ _), by show _ = _; rw [HNP.out, HT'.out]⟩
              case measure => simp [intOf]; omega
          · have HNP : Hid (((its ys).take (j + 1)).filter (ofP s.first t lk) = ((its ys).take j).filter (ofP s.first t lk)) := by
              show _ = _
              rw [HTJ.out]; simp [ofP, h1]
            clear hR' c1 c2
            go_wp2
            go_roundw
            case rel => exact ⟨j + 1, zs', by go_num, hlt', ext_trans hxj (ext_alloc _ _), hown'.ext (ext_alloc _ _), by omega, fun z hz => (hzs' z hz).ext (ext_alloc _ _), by show _ = _; rw [HNP.out, HT'.out]⟩
            case measure => simp [intOf]; omega
        · obtain rfl : j = ys.length := by omega
          have HF : Hid (its zs' = (ls.take (k + 1)).flatMap fun a => (its ys).filter (ofP s.first t a)) := by
            show _ = _
            rw [HT'.out, HTK.out, ← HT.out, show ys.length = (its ys).length from (its_length ys).symm, List.take_length]
          clear hR' c1 c2 hok
          go_wp2
          rw [Exit.noGoto_normal]
          go_wp2
          go_roundw
          case rel => exact ⟨k + 1, zs', by go_num, hlt, hxj, hown', by omega, hzs', HF⟩
          case measure => simp [intOf]; omega
    · obtain rfl : k = ls.length := by omega
      clear hR' c1 c2 hok
      have HF : Hid (its zs = ofL (mat rs) s.came s.first t) := by
        show _ = _
        rw [HT.out, List.take_length, HYS.out, HL.out]; rfl
      go_wp2
      go_ret
      exact ⟨_, zs, rfl, hown.le x1.size, HF.out, hzs, ext_trans x1 hxi⟩
end
end Go.Proofs.Ytdknkbpgkkakhaa
