/- slices.Delete of one item, walked. -/
import Derived.Test.YtdknkbpgkkakhaaRoad8
namespace Go.Proofs.Ytdknkbpgkkakhaa
open Go.RowKit

theorem wp_append_run {P : Program} {o : Oper} {a : Act} {K : Act → World → Prop} {Q : Exit → Act → World → Prop} {w w' : World} {t : TypeId} {v u v' : Value} (s x : Operand) (ho : o.op = .call { callee := .builtin .append, args := #[s, x], argTypes := #[t, t] })
    (hs : a.eval s = v) (hx : a.eval x = u) (hrun : (Builtin.append_ #[t, t] o.type #[v, u]).run P w = .ok v' w') (h : K (a.put o.dst v') w') : o.wp P a w K Q := by
  unfold Oper.wp execOp
  simp only [ho, resolve, invoke, builtin, Sem.run_bind, Sem.run_pure, Result.andThen_ok, List.map_toArray, List.map_cons, List.map_nil, hs, hx, hrun]
  exact h

set_option maxRecDepth 100000 in
set_option maxHeartbeats 2000000 in
theorem delete_any {w : World} {base g cap : Nat} {ys : List Iv} (h : Own elIv w base (.slice (some ⟨g, 0, none⟩) ys.length cap) ys) {n : Nat} (hn : n < ys.length) (hl : ys.length ≤ 1000000) (hcap : ys.length ≤ cap) :
    Calls Try.prog 99 #[.slice (some ⟨g, 0, none⟩) ys.length cap, .int .i64 n, .int .i64 ((n : Int) + 1)] w fun e w' => e = .returned (.slice (some ⟨g, 0, none⟩) (ys.length - 1) cap) ∧
      Own elIv w' base (.slice (some ⟨g, 0, none⟩) (ys.eraseIdx n).length cap) (ys.eraseIdx n) ∧ Mods (fun k => k = g) w w' := by
  obtain ⟨w2, hr2, ho2, hm2⟩ := run_delete_append (h.ext (ext_drewN w 1)) hn 22
  have hel : (ys.eraseIdx n).length = ys.length - 1 := by rw [List.length_eraseIdx, if_pos hn]
  obtain ⟨w3, hr30, ho3, hm3⟩ := run_delete_clear ho2 (by rw [hel]; omega) 0
  have hr3 : ∀ c, (Builtin.clear_ #[22] 0 #[.slice (some ⟨g, (ys.length - 1) * 5, none⟩) (ys.length - (ys.length - 1)) c]).run Try.prog w2 = .ok (.tuple #[]) w3 := fun c => by
    rw [show ys.length - (ys.length - 1) = 1 by omega, ← hel]; exact hr30 c
  have HO := Lib.hid ho3
  have HM := Lib.hid (((Mods.of_below (ext_drewN w 1) (fun k => k = g)).trans hm2 (fun _ _ h => h)).trans hm3 (fun _ _ h => h))
  have MS := ((Mods.of_below (ext_drewN w 1) (fun k => k = g)).trans hm2 (fun _ _ h => h))
  clear h ho2 hm2 ho3 hm3 hel hr30
  have hb : ((n : Int) == (n : Int) + 1) = false := by simp; omega
  go_enter Try.func99, Try.ntmps99
  go_upto_region 5 with fail
  refine wp_region_planH (.reads 0 (.reads 1 (.reads 2 (.reads 3 (.reads 4 (.reads 5 (.turns 6 (.reads 7 (.done))))))))) (by kernel_rfl) (by kernel_rfl) (fun x' => Mods (fun k => k = g) w x') (Mods.of_below (ext_drewN w 1) _) (fun ops HOPS => ?_)
  (refine segH_pure _ _ _ _ _ _ (hid_get HOPS 0 _ rfl) rfl wanted_none (fun _ _ _ _ h => h) ?_; intro K hK; go_big_quiet_op; go_big_quiet_on)
  (refine segH_pure _ _ _ _ _ _ (hid_get HOPS 1 _ rfl) rfl wanted_none (fun _ _ _ _ h => h) ?_; intro K hK; go_big_quiet_op; go_big_quiet_on)
  (refine segH_pure _ _ _ _ _ _ (hid_get HOPS 2 _ rfl) rfl wanted_none (fun _ _ _ _ h => h) ?_; intro K hK; go_big_quiet_op; go_big_quiet_on)
  (refine segH_pure _ _ _ _ _ _ (hid_get HOPS 3 _ rfl) rfl wanted_none (fun _ _ _ _ h => h) ?_; intro K hK; go_big_quiet_op; go_big_quiet_on)
  (refine segH_pure _ _ _ _ _ _ (hid_get HOPS 4 _ rfl) rfl wanted_none (fun _ _ _ _ h => h) ?_; intro K hK; go_big_quiet_op; go_big_quiet_on)
  (refine segH_pure _ _ _ _ _ _ (hid_get HOPS 5 _ rfl) rfl wanted_none (fun _ _ _ _ h => h) ?_; intro K hK; go_big_quiet_op; go_big_quiet_on)
  refine segH_turns _ _ _ _ _ _ (hid_get HOPS 6 _ rfl) wanted_none (fun K hK => ?_)
  refine wp_append_run _ _ rfl rfl rfl hr2 ?_
  refine hK _ _ (fun x' => Mods (fun k => k = g) w x') MS ?_
  clear hK
  simp only [Act.put, List.setIfInBounds_toArray, List.set_cons_zero, List.set_cons_succ]
  (refine segH_pure _ _ _ _ _ _ (hid_get HOPS 7 _ rfl) rfl wanted_none (fun _ _ _ _ h => h) ?_; intro K hK; go_big_quiet_op; go_big_quiet_on)
  refine seg_done ?_
  clear HOPS
  go_wp2
  all_goals
    go_ret
    first | exact ⟨rfl, HO.out, HM.out⟩ | (rw [← ‹cap = n + 1›]; exact ⟨rfl, HO.out, HM.out⟩)
end Go.Proofs.Ytdknkbpgkkakhaa
