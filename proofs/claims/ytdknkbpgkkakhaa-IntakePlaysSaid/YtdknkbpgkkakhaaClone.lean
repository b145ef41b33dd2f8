/- slices.Clone of writes and of items; item.Copy. -/
import Derived.Test.YtdknkbpgkkakhaaItem5
namespace Go.Proofs.Ytdknkbpgkkakhaa
open Go.RowKit

theorem info47 : (Try.prog.info? 47).map (fun i => (i.zero, i.size, i.bytes)) = some (some (.agg #[.string ByteArray.empty, .bool false, .string ByteArray.empty]), 3, 40) := by kernel_rfl
theorem info33 : (Try.prog.info? 33).map (fun i => (i.zero, i.size, i.bytes)) = some (some (.agg #[.int .i64 0, .int .i64 0, .int .i64 0, .bool false, .slice none 0 0]), 5, 56) := by kernel_rfl

theorem one_flat {α : Type} {f : α → List Value} {xs : List α} (h : ∀ x, ∀ u ∈ f x, u.oneCell' = true) : ∀ u ∈ flat f xs, u.oneCell' = true := by
  intro u hu
  simp only [flat, List.mem_flatMap] at hu
  obtain ⟨x, _, hx⟩ := hu
  exact h x u hx
theorem Wr.one (x : Wr) : ∀ u ∈ x.cells, u.oneCell' = true := by intro u hu; simp [Wr.cells] at hu; rcases hu with rfl | rfl | rfl <;> rfl
theorem Iv.one (x : Iv) : ∀ u ∈ x.cells, u.oneCell' = true := by intro u hu; simp [Iv.cells] at hu; rcases hu with rfl | rfl | rfl | rfl | rfl <;> rfl

set_option maxHeartbeats 1000000 in
theorem cloneWrs_any (A : Option Addr) (c : Nat) (ws : List Wr) (w : World) (B : Nat) (hA : RowsAt w B 47 3 Wr.cells A ws) (hl : ws.length * 40 ≤ 140737488351232) :
    Calls Try.prog 90 #[.slice A ws.length c] w fun e w' => ∃ v, e = .returned v ∧ w'.ownsRow w.heap.size 47 3 v ws.length (flat Wr.cells ws) ∧ Ext w w' := by
  obtain ⟨i0, hi, hz0, hz1, hz2⟩ := info_parts info47
  have HI := Lib.hid hi; clear hi
  have HZ0 := Lib.hid hz0; clear hz0
  have HZ1 := Lib.hid hz1; clear hz1
  have HZ2 := Lib.hid hz2; clear hz2
  cases A with
  | none =>
    have h0 : ws = [] := by
      cases ws with
      | nil => rfl
      | cons x xs => obtain ⟨ad, h, _⟩ := hA 0 (by simp); cases h
    subst h0
    have hnil := fun x => Lib.run_eql_slice_nil (P := Try.prog) x 31 47 none 0 c 0 0 Try.underlying31
    go_enter Try.func90, Try.ntmps90
    go_wp2
    go_ret
    exact ⟨_, rfl, World.ownsRow_nil _ _ _ _, Below.refl _ _⟩
  | some ad =>
    have hnil := fun x => Lib.run_eql_slice_nil (P := Try.prog) x 31 47 (some ad) ws.length c 0 0 Try.underlying31
    have hnews : ∀ j u, (flat Wr.cells ws)[j]? = some u → (w.alloc (.cells #[] 47)).cell? (ad.add j) = some u := by
      intro j u hj
      have hne : ws ≠ [] := fun h => by subst h; simp [flat] at hj
      obtain ⟨ad', e1, hc⟩ := hA.news Wr.cells_len hne
      have e2 : ad = ad' := Option.some.inj e1
      rw [e2]
      exact ext_cell (ext_alloc w _) (hc j u hj)
    have HN := Lib.hid hnews; clear hnews
    clear hA
    go_enter Try.func90, Try.ntmps90
    go_wp2_with (at_builtin; refine wpList_append_own_at _ rfl _ _ 31 rfl w.heap.size 47 i0 _ 3 40 Try.underlying31 HI.out HZ0.out HZ1.out HZ2.out rfl (by decide) (.slice (some ⟨w.heap.size, 0, none⟩) 0 0) 0 [] rfl (World.ownsRow_made _ _ _ (Nat.le_refl _) (by simp [maxLen]) rfl) ad ws.length c (flat Wr.cells ws) rfl (flat_length Wr.cells_len) HN.out (one_flat Wr.one) (by simp only [maxLen]; omega) (by omega) (by simp) ?_; intro v1 w1 hown1 hg1 _ hat1)
    go_ret
    refine ⟨v1, rfl, by simpa using hown1, ?_⟩
    refine (Below.alloc (Below.refl _ _) (Nat.le_refl _) _).grown hg1 (by simp) ?_
    intro k hk
    have : w.heap.size = k := by simpa [Value.ownBlock] using hk
    omega
set_option maxHeartbeats 1000000 in
theorem cloneIts_any (A : Option Addr) (c : Nat) (ws : List Iv) (w : World) (B : Nat) (hA : RowsAt w B 33 5 Iv.cells A ws) (hl : ws.length * 56 ≤ 140737488351232) :
    Calls Try.prog 92 #[.slice A ws.length c] w fun e w' => ∃ v, e = .returned v ∧ w'.ownsRow w.heap.size 33 5 v ws.length (flat Iv.cells ws) ∧ Ext w w' := by
  obtain ⟨i0, hi, hz0, hz1, hz2⟩ := info_parts info33
  have HI := Lib.hid hi; clear hi
  have HZ0 := Lib.hid hz0; clear hz0
  have HZ1 := Lib.hid hz1; clear hz1
  have HZ2 := Lib.hid hz2; clear hz2
  cases A with
  | none =>
    have h0 : ws = [] := by
      cases ws with
      | nil => rfl
      | cons x xs => obtain ⟨ad, h, _⟩ := hA 0 (by simp); cases h
    subst h0
    have hnil := fun x => Lib.run_eql_slice_nil (P := Try.prog) x 22 33 none 0 c 0 0 Try.underlying22
    go_enter Try.func92, Try.ntmps92
    go_wp2
    go_ret
    exact ⟨_, rfl, World.ownsRow_nil _ _ _ _, Below.refl _ _⟩
  | some ad =>
    have hnil := fun x => Lib.run_eql_slice_nil (P := Try.prog) x 22 33 (some ad) ws.length c 0 0 Try.underlying22
    have hnews : ∀ j u, (flat Iv.cells ws)[j]? = some u → (w.alloc (.cells #[] 33)).cell? (ad.add j) = some u := by
      intro j u hj
      have hne : ws ≠ [] := fun h => by subst h; simp [flat] at hj
      obtain ⟨ad', e1, hc⟩ := hA.news Iv.cells_len hne
      have e2 : ad = ad' := Option.some.inj e1
      rw [e2]
      exact ext_cell (ext_alloc w _) (hc j u hj)
    have HN := Lib.hid hnews; clear hnews
    clear hA
    go_enter Try.func92, Try.ntmps92
    go_wp2_with (at_builtin; refine wpList_append_own_at _ rfl _ _ 22 rfl w.heap.size 33 i0 _ 5 56 Try.underlying22 HI.out HZ0.out HZ1.out HZ2.out rfl (by decide) (.slice (some ⟨w.heap.size, 0, none⟩) 0 0) 0 [] rfl (World.ownsRow_made _ _ _ (Nat.le_refl _) (by simp [maxLen]) rfl) ad ws.length c (flat Iv.cells ws) rfl (flat_length Iv.cells_len) HN.out (one_flat Iv.one) (by simp only [maxLen]; omega) (by omega) (by simp) ?_; intro v1 w1 hown1 hg1 _ hat1)
    go_ret
    refine ⟨v1, rfl, by simpa using hown1, ?_⟩
    refine (Below.alloc (Below.refl _ _) (Nat.le_refl _) _).grown hg1 (by simp) ?_
    intro k hk
    have : w.heap.size = k := by simpa [Value.ownBlock] using hk
    omega

end Go.Proofs.Ytdknkbpgkkakhaa
