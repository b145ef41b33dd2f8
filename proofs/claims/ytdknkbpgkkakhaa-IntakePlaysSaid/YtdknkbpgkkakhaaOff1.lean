/- append onto a row of the call's own that has lost its head ('l[k:]'): the slice begins somewhere in its block. -/
import Derived.Test.YtdknkbpgkkakhaaApp
namespace Go.Proofs.Ytdknkbpgkkakhaa
open Go.RowKit

/-- The slice v is the call's own and reads as xs; it may begin anywhere in its block. -/
def Off {α : Type} (E : Elem α) (w : World) (base : Nat) (v : Value) (xs : List α) : Prop :=
  (v = .slice none 0 0 ∧ xs = []) ∨
  ∃ g off cap cur, v = .slice (some ⟨g, off, none⟩) xs.length cap ∧ base ≤ g ∧ Blk w g E.e cur ∧ xs.length ≤ cap ∧ cap ≤ maxLen ∧ off + cap * E.size ≤ cur.size ∧
    ∀ j u, (flat E.f xs)[j]? = some u → cur[off + j]? = some u
section
variable {α : Type} {E : Elem α} {w w' : World} {base : Nat} {v : Value} {xs : List α}
theorem Off.nil (w : World) (base : Nat) : Off E w base (.slice none 0 0) [] := .inl ⟨rfl, rfl⟩
theorem Off.form (h : Off E w base v xs) : ∃ A c, v = .slice A xs.length c := by
  rcases h with ⟨rfl, rfl⟩ | ⟨g, off, cap, cur, rfl, _⟩
  · exact ⟨none, 0, rfl⟩
  · exact ⟨_, _, rfl⟩
theorem Off.mods {S : Nat → Prop} (h : Off E w base v xs) (k : Mods S w w') (hS : ∀ b, v.ownBlock = some b → ¬ S b) : Off E w' base v xs := by
  rcases h with h | ⟨g, off, cap, cur, hv, hb, hg, rest⟩
  · exact .inl h
  · exact .inr ⟨g, off, cap, cur, hv, hb, hg.mods k (hS g (by rw [hv]; rfl)), rest⟩
theorem Off.ext (h : Off E w base v xs) (k : Ext w w') : Off E w' base v xs := by
  rcases h with h | ⟨g, off, cap, cur, hv, hb, hg, rest⟩
  · exact .inl h
  · exact .inr ⟨g, off, cap, cur, hv, hb, hg.ext k, rest⟩
theorem Off.le {base' : Nat} (h : Off E w base v xs) (hb' : base' ≤ base) : Off E w base' v xs := by
  rcases h with h | ⟨g, off, cap, cur, hv, hb, rest⟩
  · exact .inl h
  · exact .inr ⟨g, off, cap, cur, hv, by omega, rest⟩
theorem Off.typed (h : Off E w base v xs) {b : Nat} (hb : v.ownBlock = some b) : base ≤ b ∧ b < w.heap.size ∧ ∃ cur, Blk w b E.e cur := by
  rcases h with ⟨rfl, _⟩ | ⟨g, off, cap, cur, rfl, hg, hB, _⟩
  · cases hb
  · have : g = b := by simpa [Value.ownBlock] using hb
    subst this
    exact ⟨hg, hB.lt, cur, hB⟩
theorem Off.rows {A : Option Addr} {c B : Nat} (h : Off E w base (.slice A xs.length c) xs) : RowsAt w B E.e E.size E.f A xs := by
  intro i hi
  rcases h with ⟨_, rfl⟩ | ⟨g, off, cap, cur, hv, _, hB, _, _, _, hc⟩
  · simp at hi
  · injection hv with h1 _ _
    refine ⟨⟨g, off, none⟩, h1, .inr ⟨_, _, hB⟩, fun j u hj => ?_⟩
    have hjs : j < E.size := by have := (List.getElem?_eq_some_iff.1 hj).1; rwa [E.len] at this
    have hf := flat_get (f := E.f) (s := E.size) E.len xs i hi j hjs
    rw [hj] at hf
    have := hc _ _ hf
    rw [Addr.add_lit, Addr.add_lit, hB.cell]
    rw [← this]
    congr 1
    rw [Nat.add_assoc]

theorem run_append_room_off (P : Program) (w : World) (t ty e : TypeId) (i : TypeInfo) (ht : P.underlying t = some (.slice e)) (hi : P.info? e = some i)
    (g off sLen sCap : Nat) (cur : Array Value) (hg : w.heap[g]? = some (.cells cur e (0, 0)))
    (a : Addr) (m c : Nat) (news : List Value) (hl : news.length = m * i.size) (hnews : ∀ j u, news[j]? = some u → w.cell? (a.add j) = some u) (h1 : ∀ u ∈ news, u.oneCell' = true)
    (hroom : sLen + m ≤ sCap) (hfit : off + sLen * i.size + news.length ≤ cur.size) :
    (Builtin.append_ #[t, t] ty #[.slice (some ⟨g, off, none⟩) sLen sCap, .slice (some a) m c]).run P w =
      .ok (.slice (some ⟨g, off, none⟩) (sLen + m) sCap) (w.setRow g (cur.toList.take (off + sLen * i.size) ++ news ++ cur.toList.drop (off + sLen * i.size + news.length)).toArray) := by
  have hf := run_firstCells_some (P := P) w i.size m a m c news hl hnews
  have hst := run_storeCells_at P g (off + sLen * i.size) e news 0 cur w hg (by simpa using hfit) h1
  simp only [Nat.add_zero] at hst
  simp [Builtin.append_, run_underlying ht, sizeOf, typeInfo, hi, Builtin.lenOf, hroom, hf, Addr.add_lit, hst]

theorem run_append_off (ty : TypeId) (h : Off E w base v xs) (ad : Addr) (c : Nat) (ys : List α) (B : Nat) (hr : RowsAt w B E.e E.size E.f (some ad) ys) (hne : ys ≠ [])
    (hlen : (xs.length + ys.length) * E.bytes ≤ 140737488355328) (hl2 : xs.length + ys.length ≤ maxLen) (hbase : base ≤ w.heap.size) :
    ∃ v' w', (Builtin.append_ #[E.t, E.t] ty #[v, .slice (some ad) ys.length c]).run Try.prog w = .ok v' w' ∧ Off E w' base v' (xs ++ ys) ∧ w.grownBy w' v.ownBlock ∧ (v'.ownBlock = v.ownBlock ∨ v'.ownBlock = some w.heap.size) := by
  obtain ⟨i0, hi, hz0, hz1, hz2⟩ := info_parts E.info
  have hpos : 0 < ys.length := List.length_pos_iff.2 hne
  have hnews : ∀ j u, (flat E.f ys)[j]? = some u → w.cell? (ad.add j) = some u := by
    intro j u hj
    obtain ⟨ad', e1, hc⟩ := hr.news E.len hne
    rw [Option.some.inj e1]
    exact hc j u hj
  rcases h with ⟨rfl, rfl⟩ | ⟨g, off, cap, cur, rfl, hbg, hB, hnc, hcm, hcs, hcells⟩
  · obtain ⟨v', w', hrun, h2, h3, _, h5⟩ := run_append_own_at (P := Try.prog) w base E.t ty E.e i0 E.z E.size E.bytes E.ht hi hz0 hz1 hz2 E.hz E.pos (.slice none 0 0) 0 [] (World.ownsRow_nil _ _ _ _) ad ys.length c (flat E.f ys) (flat_length E.len) hnews (one_flat E.one) (by simpa [maxLen] using hl2) (by simpa using hlen) hbase
    refine ⟨v', w', hrun, ?_, h3, h5⟩
    simp only [Nat.zero_add, List.nil_append] at h2 ⊢
    rcases h2.2 with ⟨rfl, h0⟩ | ⟨g, cap, cur, rfl, hg, hh, hnc, hcm, hsz, htk⟩
    · omega
    · refine .inr ⟨g, 0, cap, cur, rfl, hg, hh, hnc, hcm, by omega, fun j u hj => ?_⟩
      rw [← htk, List.getElem?_take] at hj
      split at hj
      · simpa using hj
      · cases hj
  · have hnl : (flat E.f ys).length = ys.length * E.size := flat_length E.len
    have hxl : (flat E.f xs).length = xs.length * E.size := flat_length E.len
    by_cases hroom : xs.length + ys.length ≤ cap
    · have hmul : (xs.length + ys.length) * E.size ≤ cap * E.size := Nat.mul_le_mul_right _ hroom
      rw [Nat.add_mul] at hmul
      have hr2 := run_append_room_off Try.prog w E.t ty E.e i0 E.ht hi g off xs.length cap cur hB ad ys.length c (flat E.f ys) (by rw [hnl, hz1]) hnews (one_flat E.one) hroom (by rw [hz1, hnl]; omega)
      rw [hz1, hnl] at hr2
      refine ⟨_, _, hr2, .inr ⟨g, off, cap, _, by rw [List.length_append], hbg, setRow_heap w g cur _ E.e _ hB, by rw [List.length_append]; exact hroom, hcm, ?_, ?_⟩,
        ⟨rfl, rfl, rfl, by simp, fun k _ hk => setRow_other w g k _ (fun e => hk (by simp [Value.ownBlock, e]))⟩, .inl rfl⟩
      · simp only [List.size_toArray, List.length_append, List.length_take, List.length_drop, Array.length_toList, hnl]
        omega
      · intro j u hj
        rw [flat_append] at hj
        simp only [List.getElem?_toArray]
        have hcl : cur.toList.length = cur.size := Array.length_toList
        by_cases hjx : j < xs.length * E.size
        · rw [List.getElem?_append_left (by rw [hxl]; exact hjx)] at hj
          have h3 := hcells j u hj
          rw [List.append_assoc, List.getElem?_append_left (by rw [List.length_take, hcl]; omega), List.getElem?_take, if_pos (by omega)]
          simpa using h3
        · rw [List.getElem?_append_right (by rw [hxl]; omega), hxl] at hj
          have hj2 : j - xs.length * E.size < ys.length * E.size := by rw [← hnl]; exact (List.getElem?_eq_some_iff.1 hj).1
          have htl : (List.take (off + xs.length * E.size) cur.toList).length = off + xs.length * E.size := by rw [List.length_take, hcl]; omega
          rw [List.getElem?_append_left (by rw [List.length_append, htl, hnl]; omega), List.getElem?_append_right (by rw [htl]; omega), htl, show off + j - (off + xs.length * E.size) = j - xs.length * E.size by omega]
          exact hj
    · have holds : ∀ j u, (flat E.f xs)[j]? = some u → w.cell? ((⟨g, off, none⟩ : Addr).add j) = some u := by
        intro j u hj
        rw [Addr.add_lit, hB.cell]
        exact hcells j u hj
      have h63 : xs.length + ys.length ≤ 9223372036854775807 := by simp only [maxLen] at hl2; omega
      have hr2 := Go.run_append_grow (P := Try.prog) w E.t ty E.e i0 E.z E.ht hi hz0 ⟨g, off, none⟩ xs.length cap (flat E.f xs) (by rw [hxl, hz1]) holds ad ys.length c (flat E.f ys) (by rw [hnl, hz1]) hnews (by omega) (by omega) (growslice_fits (by omega) (by rw [hz2]; exact hlen))
      have hge := grownCap_ge w (xs.length + ys.length) cap E.e
      refine ⟨_, _, hr2, .inr ⟨w.heap.size, 0, _, _, by rw [List.length_append], hbase, heap_alloc_new w.drew _, by rw [List.length_append]; exact hge, grownCap_le_maxLen w _ cap E.e hl2, ?_, ?_⟩,
        ⟨rfl, rfl, rfl, by simp, fun k hk _ => Below.heap_alloc w.drew _ k hk⟩, .inr rfl⟩
      · simp only [Array.size_append, List.size_toArray, size_zeroCells, E.hz, hxl, hnl, ← Nat.add_mul]
        rw [Nat.zero_add]
        exact Nat.mul_le_mul_right _ (by omega)
      · intro j u hj
        rw [flat_append] at hj
        have hlt := (List.getElem?_eq_some_iff.1 hj).1
        rw [Nat.zero_add, Array.getElem?_append_left (by simpa using hlt)]
        simpa using hj
end
end Go.Proofs.Ytdknkbpgkkakhaa
