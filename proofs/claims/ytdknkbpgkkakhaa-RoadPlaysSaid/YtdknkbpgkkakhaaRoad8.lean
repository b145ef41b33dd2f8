/- slices.Delete of one item: the append onto the row itself. -/
import Derived.Test.YtdknkbpgkkakhaaRoad4
namespace Go.Proofs.Ytdknkbpgkkakhaa
open Go.RowKit

theorem run_delete_append {w : World} {base g cap : Nat} {ys : List Iv} (h : Own elIv w base (.slice (some ⟨g, 0, none⟩) ys.length cap) ys) {n : Nat} (hn : n < ys.length) (ty : TypeId) :
    ∃ w', (Builtin.append_ #[22, 22] ty #[.slice (some ⟨g, 0, none⟩) n cap, .slice (if cap = n + 1 then some ⟨g, 0, none⟩ else some ⟨g, (n + 1) * 5, none⟩) (ys.length - (n + 1)) (cap - (n + 1))]).run Try.prog w = .ok (.slice (some ⟨g, 0, none⟩) (ys.length - 1) cap) w' ∧
      Own elIv w' base (.slice (some ⟨g, 0, none⟩) (ys.eraseIdx n).length cap) (ys.eraseIdx n) ∧ Mods (fun k => k = g) w w' := by
  obtain ⟨i0, hi, hz0, hz1, hz2⟩ := info_parts elIv.info
  have hz1' : i0.size = 5 := hz1
  rcases h.2 with ⟨hv, _⟩ | ⟨g', cap', cur, hv, hb, hg, hnc, hcm, hcs, htake⟩
  · cases hv
  · injection hv with e1 _ e3
    injection e1 with e1
    injection e1 with e1 _ _
    subst e1 e3
    have hcs5 : cur.size = cap * 5 := hcs
    have htk : cur.toList.take (ys.length * 5) = flat Iv.cells ys := htake
    have hfl : (flat Iv.cells ys).length = ys.length * 5 := flat_length Iv.cells_len
    have hel : (ys.eraseIdx n).length = ys.length - 1 := by rw [List.length_eraseIdx, if_pos hn]
    have hE : flat Iv.cells (ys.eraseIdx n) = flat Iv.cells (ys.take n) ++ flat Iv.cells (ys.drop (n + 1)) := by
      rw [List.eraseIdx_eq_take_drop_succ, flat_append]
    have hl1 : (flat Iv.cells (ys.take n)).length = n * 5 := by rw [flat_length Iv.cells_len, List.length_take, Nat.min_eq_left (by omega)]
    have hl2 : (flat Iv.cells (ys.drop (n + 1))).length = (ys.length - (n + 1)) * 5 := by rw [flat_length Iv.cells_len, List.length_drop]
    have hsplit : flat Iv.cells ys = flat Iv.cells (ys.take (n + 1)) ++ flat Iv.cells (ys.drop (n + 1)) := by rw [← flat_append, List.take_append_drop]
    have hsplit0 : flat Iv.cells ys = flat Iv.cells (ys.take n) ++ flat Iv.cells (ys.drop n) := by rw [← flat_append, List.take_append_drop]
    have hl3 : (flat Iv.cells (ys.take (n + 1))).length = (n + 1) * 5 := by rw [flat_length Iv.cells_len, List.length_take, Nat.min_eq_left (by omega)]
    have hB : Blk w g 33 cur := hg
    obtain ⟨ad, had, hadv⟩ : ∃ ad : Addr, (if cap = n + 1 then some (⟨g, 0, none⟩ : Addr) else some ⟨g, (n + 1) * 5, none⟩) = some ad ∧ (cap ≠ n + 1 → ad = ⟨g, (n + 1) * 5, none⟩) := by
      by_cases hc : cap = n + 1
      · exact ⟨_, if_pos hc, fun h => absurd hc h⟩
      · exact ⟨_, if_neg hc, fun _ => rfl⟩
    rw [had]
    have hnews : ∀ j u, (flat Iv.cells (ys.drop (n + 1)))[j]? = some u → w.cell? (ad.add j) = some u := by
      intro j u hj
      have hlt := (List.getElem?_eq_some_iff.1 hj).1
      rw [hl2] at hlt
      rw [hadv (by omega)]
      have h1 : (flat Iv.cells ys)[(n + 1) * 5 + j]? = some u := by
        rw [hsplit, List.getElem?_append_right (by rw [hl3]; omega), hl3, Nat.add_sub_cancel_left]; exact hj
      rw [← htk, List.getElem?_take] at h1
      split at h1
      · rw [Addr.add_lit, hB.cell]; simpa using h1
      · cases h1
    have hr := run_append_room (P := Try.prog) w 22 ty 33 i0 Try.underlying22 hi g n cap cur hg ad (ys.length - (n + 1)) (cap - (n + 1)) (flat Iv.cells (ys.drop (n + 1))) (by rw [hl2, hz1']) hnews (one_flat Iv.one) (by omega) (by rw [hl2, hz1', hcs5]; omega)
    rw [hz1', show n + (ys.length - (n + 1)) = ys.length - 1 by omega] at hr
    refine ⟨_, hr, ⟨by rw [hel]; show (flat Iv.cells _).length = _; rw [flat_length Iv.cells_len, hel]; rfl, .inr ⟨g, cap, _, rfl, hb, setRow_heap w g cur _ 33 _ hg, by omega, hcm, ?_, ?_⟩⟩, ⟨rfl, rfl, rfl, by simp, fun k _ hk => setRow_other w g k _ (fun e => hk e)⟩⟩
    · show _ = cap * 5
      simp only [List.size_toArray, List.length_append, List.length_take, List.length_drop, Array.length_toList, hl2]
      omega
    · show List.take ((ys.eraseIdx n).length * 5) _ = flat Iv.cells (ys.eraseIdx n)
      have ht : cur.toList.take (n * 5) = flat Iv.cells (ys.take n) := by
        have h1 : (cur.toList.take (ys.length * 5)).take (n * 5) = (flat Iv.cells ys).take (n * 5) := by rw [htk]
        rw [List.take_take, Nat.min_eq_left (by omega)] at h1
        rw [h1, hsplit0, ← hl1, List.take_left]
      rw [hE, ht, hel, show (ys.length - 1) * 5 = (flat Iv.cells (ys.take n) ++ flat Iv.cells (ys.drop (n + 1))).length by rw [List.length_append, hl1, hl2]; omega]
      exact List.take_left

def z33 : List Value := [.int .i64 0, .int .i64 0, .int .i64 0, .bool false, .slice none 0 0]
theorem zero33v (w : World) : (zeroValue 33).run Try.prog w = .ok (.agg #[.int .i64 0, .int .i64 0, .int .i64 0, .bool false, .slice none 0 0]) w := by kernel_rfl
theorem run_delete_clear {w : World} {base g cap : Nat} {zs : List Iv} (h : Own elIv w base (.slice (some ⟨g, 0, none⟩) zs.length cap) zs) (hroom : zs.length + 1 ≤ cap) (ty : TypeId) :
    ∃ w', (∀ c, (Builtin.clear_ #[22] ty #[.slice (some ⟨g, zs.length * 5, none⟩) 1 c]).run Try.prog w = .ok (.tuple #[]) w') ∧
      Own elIv w' base (.slice (some ⟨g, 0, none⟩) zs.length cap) zs ∧ Mods (fun k => k = g) w w' := by
  rcases h.2 with ⟨hv, _⟩ | ⟨g', cap', cur, hv, hb, hg, hnc, hcm, hcs, htake⟩
  · cases hv
  · injection hv with e1 _ e3
    injection e1 with e1
    injection e1 with e1 _ _
    subst e1 e3
    have hcs5 : cur.size = cap * 5 := hcs
    have htk : cur.toList.take (zs.length * 5) = flat Iv.cells zs := htake
    have hst := run_storeCells_at Try.prog g (zs.length * 5) 33 z33 0 cur w hg (by simp [z33]; omega) (by intro u hu; simp [z33] at hu; rcases hu with rfl | rfl | rfl <;> rfl)
    simp only [Nat.add_zero] at hst
    refine ⟨w.setRow g (cur.toList.take (zs.length * 5) ++ z33 ++ cur.toList.drop (zs.length * 5 + z33.length)).toArray, ?_, ⟨h.1, .inr ⟨g, cap, _, rfl, hb, setRow_heap w g cur _ 33 _ hg, by omega, hcm, ?_, ?_⟩⟩, ⟨rfl, rfl, rfl, by simp, fun k _ hk => setRow_other w g k _ (fun e => hk e)⟩⟩
    · have hzc : (Builtin.zeroCells (Value.cells (.agg #[.int .i64 0, .int .i64 0, .int .i64 0, .bool false, .slice none 0 0])) 1).toList = z33 := by kernel_rfl
      intro c
      simp [Builtin.clear_, run_underlying Try.underlying22, hzc, hst]
    · show _ = cap * 5
      simp only [List.size_toArray, List.length_append, List.length_take, List.length_drop, Array.length_toList, z33, List.length_cons, List.length_nil]
      omega
    · show List.take (zs.length * 5) _ = flat Iv.cells zs
      have hlen : (cur.toList.take (zs.length * 5)).length = zs.length * 5 := by rw [List.length_take, show cur.toList.length = cur.size from Array.length_toList]; omega
      show List.take (zs.length * 5) (cur.toList.take (zs.length * 5) ++ _ ++ _) = _
      rw [List.append_assoc, List.take_append_of_le_length (by rw [hlen]; exact Nat.le_refl _), List.take_take, Nat.min_self, htk]
end Go.Proofs.Ytdknkbpgkkakhaa
