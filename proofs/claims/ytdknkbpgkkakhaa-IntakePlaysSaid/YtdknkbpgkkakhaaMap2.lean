/- Maps that the call itself makes, with their size: look-up with comma-ok, store, delete, len, a copy. -/
import Derived.Test.YtdknkbpgkkakhaaMap1
import Derived.Maps.RangeRun
namespace Go.Proofs.Ytdknkbpgkkakhaa
open Go.RowKit Go.ChangeShapes Go.WideShapes Go.MapKept Go.Maps
open Go.ChangeMaps (setBlock modify_eq_set)

section
variable {P : Program} {k : TypeId} {K : Type} {kv : K → Value} {w w' : World} {b n : Nat} {f : K → Option Value}
/-- Entries that hold what f says. -/
structure EntsIs (P : Program) (k : TypeId) (kv : K → Value) (es : Array MapEntry) (clock : Nat) (f : K → Option Value) : Prop where
  keys : ∀ e ∈ es.toList, ∃ l, keyOf P k e.key = some l
  apart : es.toList.Pairwise (fun x y => x.key ≠ y.key)
  said : ∀ e ∈ es.toList, ∃ x, e.key = kv x ∧ f x = some e.val
  held : ∀ x v, f x = some v → ∃ e ∈ es.toList, e.key = kv x ∧ e.val = v
  born : es.toList.Pairwise (fun x y => x.born ≠ y.born)
  old : ∀ e ∈ es.toList, e.born < clock
/-- The map in block b holds what f says, n entries. -/
def MapN (P : Program) (k : TypeId) (kv : K → Value) (w : World) (b n : Nat) (f : K → Option Value) : Prop :=
  ∃ es clock, w.heap[b]? = some (.map es clock) ∧ es.size = n ∧ EntsIs P k kv es clock f
theorem MapN.lt (h : MapN P k kv w b n f) : b < w.heap.size := by
  obtain ⟨es, clock, h1, _⟩ := h
  exact (Array.getElem?_eq_some_iff.1 h1).1
theorem MapN.mods {S : Nat → Prop} (h : MapN P k kv w b n f) (x : Mods S w w') (hb : ¬ S b) : MapN P k kv w' b n f := by
  have hl := h.lt
  obtain ⟨es, clock, h1, h2⟩ := h
  exact ⟨es, clock, (x.block b hl hb).trans h1, h2⟩
theorem MapN.ext (h : MapN P k kv w b n f) (x : Ext w w') : MapN P k kv w' b n f := by
  have hl := h.lt
  obtain ⟨es, clock, h1, h2⟩ := h
  exact ⟨es, clock, (x.block b hl).trans h1, h2⟩
theorem MapN.not_blk (h : MapN P k kv w b n f) {g : Nat} {t : TypeId} {cs : Array Value} (hb : Blk w g t cs) : g ≠ b := by
  rintro rfl
  obtain ⟨es, clock, h1, _⟩ := h
  unfold Blk at hb
  rw [hb] at h1
  cases h1
theorem EntsIs.nil : EntsIs P k kv #[] 0 (fun _ => none) := ⟨by simp, by simp, by simp, (fun x v h => by cases h), by simp, by simp⟩
theorem MapN.new (w : World) : MapN P k kv (w.alloc (.map #[] 0)) w.heap.size 0 (fun _ => none) :=
  ⟨#[], 0, (MapKept.heap_alloc w _).1, rfl, .nil⟩

theorem MapN.look {t e : TypeId} (h : MapN P k kv w b n f) (KD : Keyed P k) (ht : P.underlying t = some (.map k e)) {z : Value} (hz : (zeroValue e).run P w = .ok z w)
    (hinj : ∀ x y, kv x = kv y → x = y) {x : K} {l : Lit} (hl : keyOf P k (kv x) = some l) :
    (Instr.lookup t (.map (some b)) (kv x) true).run P w = .ok (.tuple #[(f x).getD z, .bool (f x).isSome]) w := by
  obtain ⟨es, clock, hb, _, hE⟩ := h
  rcases KD.find w hl es.toList hE.keys with ⟨g1, g2⟩ | ⟨j, e0, g1, g2, g3⟩
  · have hf : f x = none := by
      cases hc : f x with
      | none => rfl
      | some v =>
        obtain ⟨e, he, hek, _⟩ := hE.held x v hc
        exact absurd hek (g2 e he)
    simp [Instr.lookup, run_underlying ht, MapKept.run_getObj_map hb, KD.check w _ hl, g1, hz, Result.andThen, hf]
  · have hf : f x = some e0.val := by
      obtain ⟨y, hy, hv⟩ := hE.said e0 (List.mem_of_getElem? g2)
      rw [g3] at hy
      rw [hinj _ _ hy]; exact hv
    simp [Instr.lookup, run_underlying ht, MapKept.run_getObj_map hb, KD.check w _ hl, g1, Result.andThen, hf]

theorem MapN.len (h : MapN P k kv w b n f) {t e ty : TypeId} (ht : P.underlying t = some (.map k e)) : (Builtin.len_ #[t] ty #[.map (some b)]).run P w = .ok (.int .i64 (n : Int)) w := by
  obtain ⟨es, clock, hb, hn, _⟩ := h
  simp [Builtin.len_, run_underlying ht, MapKept.run_getObj_map hb, Result.andThen, hn, goInt]

theorem MapN.delete [DecidableEq K] {t e ty : TypeId} (h : MapN P k kv w b n f) (KD : Keyed P k) (ht : P.underlying t = some (.map k e))
    (hinj : ∀ x y, kv x = kv y → x = y) {x : K} {l : Lit} (hl : keyOf P k (kv x) = some l) :
    ∃ o, (Builtin.delete_ #[t, k] ty #[.map (some b), kv x]).run P w = .ok (.tuple #[]) (setBlock w b o) ∧ MapN P k kv (setBlock w b o) b (if (f x).isSome = true then n - 1 else n) (fun y => if y = x then none else f y) := by
  obtain ⟨es, clock, hb, hn, hE⟩ := h
  have hlt : b < w.heap.size := (Array.getElem?_eq_some_iff.1 hb).1
  have hset : ∀ o, (setBlock w b o).heap[b]? = some o := fun o => by simp [setBlock, hlt]
  rcases KD.find w hl es.toList hE.keys with ⟨g1, g2⟩ | ⟨j, e0, g1, g2, g3⟩
  · have hf : f x = none := by
      cases hc : f x with
      | none => rfl
      | some v =>
        obtain ⟨e, he, hek, _⟩ := hE.held x v hc
        exact absurd hek (g2 e he)
    refine ⟨.map es clock, ?_, es, clock, hset _, by simp [hf, hn], hE.keys, hE.apart, fun e he => ?_, fun y v hv => ?_, hE.born, hE.old⟩
    · simp [Builtin.delete_, run_underlying ht, MapKept.run_getObj_map hb, KD.check w _ hl, g1, MapKept.run_setObj_map _ hb, Result.andThen, setBlock]
    · obtain ⟨y, hy, hv⟩ := hE.said e he
      refine ⟨y, hy, ?_⟩
      show (if y = x then none else f y) = some e.val
      rw [if_neg (fun hc => g2 e he (by rw [hy, hc]))]
      exact hv
    · replace hv : (if y = x then none else f y) = some v := hv
      by_cases hyx : y = x
      · rw [if_pos hyx] at hv; cases hv
      · rw [if_neg hyx] at hv
        exact hE.held y v hv
  · have hf : f x = some e0.val := by
      obtain ⟨y, hy, hv⟩ := hE.said e0 (List.mem_of_getElem? g2)
      rw [g3] at hy
      rw [hinj _ _ hy]; exact hv
    have hjl : j < es.toList.length := (List.getElem?_eq_some_iff.1 g2).1
    have hjs : j < es.size := by simpa using hjl
    have hej : es.toList[j] = e0 := (List.getElem?_eq_some_iff.1 g2).2
    have hlist : (es.eraseIdxIfInBounds j).toList = es.toList.eraseIdx j := by
      rw [Array.eraseIdxIfInBounds, dif_pos hjs, Array.toList_eraseIdx]
    have hsub : (es.toList.eraseIdx j).Sublist es.toList := List.eraseIdx_sublist ..
    have who : ∀ e ∈ es.toList.eraseIdx j, e ∈ es.toList ∧ e.key ≠ kv x := fun e he => by
      refine ⟨hsub.subset he, ?_⟩
      rw [List.eraseIdx_eq_take_drop_succ] at he
      rw [← g3, ← hej]
      rcases List.mem_append.1 he with he | he
      · obtain ⟨i, hi, rfl⟩ := List.getElem_of_mem he
        rw [List.getElem_take]
        have hij : i < j := by rw [List.length_take] at hi; omega
        exact List.pairwise_iff_getElem.1 hE.apart i j (by omega) hjl hij
      · obtain ⟨i, hi, rfl⟩ := List.getElem_of_mem he
        rw [List.getElem_drop]
        rw [List.length_drop] at hi
        exact fun hc => List.pairwise_iff_getElem.1 hE.apart j (j + 1 + i) hjl (by omega) (by omega) hc.symm
    refine ⟨.map (es.eraseIdxIfInBounds j) clock, ?_, _, clock, hset _, ?_, ?_, ?_, ?_, ?_, ?_, ?_⟩
    · simp [Builtin.delete_, run_underlying ht, MapKept.run_getObj_map hb, KD.check w _ hl, g1, MapKept.run_setObj_map _ hb, Result.andThen, setBlock]
    · rw [← Array.length_toList, hlist, List.length_eraseIdx, if_pos hjl, hf]
      simp [hn]
    · rw [hlist]; exact fun e he => hE.keys e (who e he).1
    · rw [hlist]; exact hE.apart.sublist hsub
    · rw [hlist]
      intro e he
      obtain ⟨y, hy, hv⟩ := hE.said e (who e he).1
      refine ⟨y, hy, ?_⟩
      show (if y = x then none else f y) = some e.val
      rw [if_neg (fun hc => (who e he).2 (by rw [hy, hc]))]
      exact hv
    · rw [hlist]
      intro y v hv
      replace hv : (if y = x then none else f y) = some v := hv
      by_cases hyx : y = x
      · rw [if_pos hyx] at hv; cases hv
      · rw [if_neg hyx] at hv
        obtain ⟨e, he, hek, hev⟩ := hE.held y v hv
        refine ⟨e, ?_, hek, hev⟩
        obtain ⟨i, hi, rfl⟩ := List.getElem_of_mem he
        have hij : i ≠ j := fun hc => by
          subst hc
          rw [hej] at hek
          rw [g3] at hek
          exact hyx (hinj _ _ hek.symm)
        rw [List.mem_eraseIdx_iff_getElem]
        exact ⟨i, hi, hij, rfl⟩
    · rw [hlist]; exact hE.born.sublist hsub
    · rw [hlist]; exact fun e he => hE.old e (who e he).1

theorem MapN.store [DecidableEq K] {t e : TypeId} (h : MapN P k kv w b n f) (KD : Keyed P k) (ht : P.underlying t = some (.map k e))
    (hinj : ∀ x y, kv x = kv y → x = y) {x : K} {l : Lit} (hl : keyOf P k (kv x) = some l) (hnew : f x = none) (val : Value) :
    ∃ o, (Instr.mapUpdate t (.map (some b)) (kv x) val).run P w = .ok () (setBlock w b o) ∧ MapN P k kv (setBlock w b o) b (n + 1) (fun y => if y = x then some val else f y) := by
  obtain ⟨es, clock, hb, hn, hE⟩ := h
  have hlt : b < w.heap.size := (Array.getElem?_eq_some_iff.1 hb).1
  have hset : ∀ o, (setBlock w b o).heap[b]? = some o := fun o => by simp [setBlock, hlt]
  rcases KD.find w hl es.toList hE.keys with ⟨g1, g2⟩ | ⟨j, e0, g1, g2, g3⟩
  · refine ⟨.map (es.push ⟨kv x, val, clock⟩) (clock + 1), ?_, _, _, hset _, by simp [hn], ?_, ?_, ?_, ?_, ?_, ?_⟩
    · simp [Instr.mapUpdate, run_underlying ht, MapKept.run_getObj_map hb, KD.check w false hl, g1, MapKept.run_setObj_map _ hb, Result.andThen, setBlock]
    · intro e he
      simp only [Array.toList_push, List.mem_append, List.mem_singleton] at he
      rcases he with he | rfl
      · exact hE.keys e he
      · exact ⟨l, hl⟩
    · rw [Array.toList_push, List.pairwise_append]
      refine ⟨hE.apart, by simp, fun a ha c hc => ?_⟩
      have : c = ⟨kv x, val, clock⟩ := by simpa using hc
      rw [this]
      exact g2 a ha
    · intro e he
      simp only [Array.toList_push, List.mem_append, List.mem_singleton] at he
      rcases he with he | rfl
      · obtain ⟨y, hy, hv⟩ := hE.said e he
        refine ⟨y, hy, ?_⟩
        show (if y = x then some val else f y) = some e.val
        rw [if_neg (fun hc => g2 e he (by rw [hy, hc]))]
        exact hv
      · exact ⟨x, rfl, by simp⟩
    · intro y v hv
      by_cases hyx : y = x
      · subst hyx
        simp at hv
        exact ⟨⟨kv y, val, clock⟩, by simp, rfl, hv⟩
      · replace hv : (if y = x then some val else f y) = some v := hv
        rw [if_neg hyx] at hv
        obtain ⟨e, he, hek, hev⟩ := hE.held y v hv
        exact ⟨e, by simp [Array.mem_toList_iff.1 he], hek, hev⟩
    · rw [Array.toList_push, List.pairwise_append]
      refine ⟨hE.born, by simp, fun a ha c hc => ?_⟩
      have : c = ⟨kv x, val, clock⟩ := by simpa using hc
      rw [this]
      have := hE.old a ha
      show a.born ≠ clock
      omega
    · intro e he
      simp only [Array.toList_push, List.mem_append, List.mem_singleton] at he
      rcases he with he | rfl
      · have := hE.old e he
        omega
      · show clock < clock + 1
        omega
  · exfalso
    obtain ⟨y, hy, hv⟩ := hE.said e0 (List.mem_of_getElem? g2)
    rw [g3] at hy
    rw [← hinj _ _ hy, hnew] at hv
    cases hv
end
end Go.Proofs.Ytdknkbpgkkakhaa
