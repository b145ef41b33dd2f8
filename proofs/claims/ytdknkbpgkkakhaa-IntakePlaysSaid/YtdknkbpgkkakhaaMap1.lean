/- Maps that the call itself makes: a block told by a plain function from keys. -/
import Derived.Test.YtdknkbpgkkakhaaPlanF
import Derived.Test.YtdknkbpgkkakhaaApp
import Derived.Maps.Keyed
import Derived.DeepKeys4
namespace Go.Proofs.Ytdknkbpgkkakhaa
open Go.RowKit Go.ChangeShapes Go.WideShapes Go.MapKept Go.Maps
open Go.ChangeMaps (setBlock modify_eq_set)

section
variable {P : Program} {k : TypeId} {K : Type} {kv : K → Value} {w w' : World} {b : Nat} {f : K → Option Value}

/-- The map in block b holds what f says; kv gives a key's value. -/
def MapIs (P : Program) (k : TypeId) (kv : K → Value) (w : World) (b : Nat) (f : K → Option Value) : Prop :=
  ∃ es clock, w.heap[b]? = some (.map es clock) ∧ (∀ e ∈ es.toList, ∃ l, keyOf P k e.key = some l) ∧ es.toList.Pairwise (fun x y => x.key ≠ y.key) ∧
    (∀ e ∈ es.toList, ∃ x, e.key = kv x ∧ f x = some e.val) ∧ ∀ x v, f x = some v → ∃ e ∈ es.toList, e.key = kv x ∧ e.val = v
theorem MapIs.lt (h : MapIs P k kv w b f) : b < w.heap.size := by
  obtain ⟨es, clock, h1, _⟩ := h
  exact (Array.getElem?_eq_some_iff.1 h1).1
theorem MapIs.mods {S : Nat → Prop} (h : MapIs P k kv w b f) (x : Mods S w w') (hb : ¬ S b) : MapIs P k kv w' b f := by
  have hl := h.lt
  obtain ⟨es, clock, h1, h2⟩ := h
  exact ⟨es, clock, (x.block b hl hb).trans h1, h2⟩
theorem MapIs.ext (h : MapIs P k kv w b f) (x : Ext w w') : MapIs P k kv w' b f := by
  have hl := h.lt
  obtain ⟨es, clock, h1, h2⟩ := h
  exact ⟨es, clock, (x.block b hl).trans h1, h2⟩
theorem MapIs.new (w : World) : MapIs P k kv (w.alloc (.map #[] 0)) w.heap.size (fun _ => none) :=
  ⟨#[], 0, (MapKept.heap_alloc w _).1, by simp, by simp, by simp, fun x v h => by cases h⟩

theorem MapIs.look {t e : TypeId} (h : MapIs P k kv w b f) (KD : Keyed P k) (ht : P.underlying t = some (.map k e)) {z : Value} (hz : (zeroValue e).run P w = .ok z w)
    (hinj : ∀ x y, kv x = kv y → x = y) {x : K} {l : Lit} (hl : keyOf P k (kv x) = some l) :
    (Instr.lookup t (.map (some b)) (kv x) false).run P w = .ok ((f x).getD z) w := by
  obtain ⟨es, clock, hb, hk, hn, h1, h2⟩ := h
  rcases KD.find w hl es.toList hk with ⟨g1, g2⟩ | ⟨j, e0, g1, g2, g3⟩
  · have hf : f x = none := by
      cases hc : f x with
      | none => rfl
      | some v =>
        obtain ⟨e, he, hek, _⟩ := h2 x v hc
        exact absurd hek (g2 e he)
    simp [Instr.lookup, run_underlying ht, MapKept.run_getObj_map hb, KD.check w _ hl, g1, hz, Result.andThen, hf]
  · have hf : f x = some e0.val := by
      obtain ⟨y, hy, hv⟩ := h1 e0 (List.mem_of_getElem? g2)
      rw [g3] at hy
      rw [hinj _ _ hy]; exact hv
    simp [Instr.lookup, run_underlying ht, MapKept.run_getObj_map hb, KD.check w _ hl, g1, Result.andThen, hf]

theorem MapIs.store [DecidableEq K] {t e : TypeId} (h : MapIs P k kv w b f) (KD : Keyed P k) (ht : P.underlying t = some (.map k e))
    (hinj : ∀ x y, kv x = kv y → x = y) {x : K} {l : Lit} (hl : keyOf P k (kv x) = some l) (val : Value) :
    ∃ o, (Instr.mapUpdate t (.map (some b)) (kv x) val).run P w = .ok () (setBlock w b o) ∧ MapIs P k kv (setBlock w b o) b (fun y => if y = x then some val else f y) := by
  obtain ⟨es, clock, hb, hk, hn, h1, h2⟩ := h
  have hlt : b < w.heap.size := (Array.getElem?_eq_some_iff.1 hb).1
  have hset : ∀ o, (setBlock w b o).heap[b]? = some o := fun o => by simp [setBlock, hlt]
  rcases KD.find w hl es.toList hk with ⟨g1, g2⟩ | ⟨j, e0, g1, g2, g3⟩
  · refine ⟨.map (es.push ⟨kv x, val, clock⟩) (clock + 1), ?_, _, _, hset _, ?_, ?_, ?_, ?_⟩
    · simp [Instr.mapUpdate, run_underlying ht, MapKept.run_getObj_map hb, KD.check w false hl, g1, MapKept.run_setObj_map _ hb, Result.andThen, setBlock]
    · intro e he
      simp only [Array.toList_push, List.mem_append, List.mem_singleton] at he
      rcases he with he | rfl
      · exact hk e he
      · exact ⟨l, hl⟩
    · rw [Array.toList_push, List.pairwise_append]
      refine ⟨hn, by simp, fun a ha c hc => ?_⟩
      have : c = ⟨kv x, val, clock⟩ := by simpa using hc
      rw [this]
      exact g2 a ha
    · intro e he
      simp only [Array.toList_push, List.mem_append, List.mem_singleton] at he
      rcases he with he | rfl
      · obtain ⟨y, hy, hv⟩ := h1 e he
        refine ⟨y, hy, ?_⟩
        show (if y = x then some val else f y) = some e.val
        rw [if_neg (fun hc => g2 e he (by rw [hy, hc]))]
        exact hv
      · exact ⟨x, rfl, by simp⟩
    · intro y v hv
      by_cases hyx : y = x
      · subst hyx
        simp at hv
        exact ⟨⟨kv y, val, clock⟩, by simp, rfl, hv⟩
      · replace hv : (if y = x then some val else f y) = some v := hv
        rw [if_neg hyx] at hv
        obtain ⟨e, he, hek, hev⟩ := h2 y v hv
        exact ⟨e, by simp [Array.mem_toList_iff.1 he], hek, hev⟩
  · have hj : es[j]? = some e0 := by simpa using g2
    have hjl : j < es.toList.length := (List.getElem?_eq_some_iff.1 g2).1
    have hlist : (es.modify j (fun e' => { e' with key := kv x, val := val })).toList = es.toList.set j { e0 with key := kv x, val := val } := by rw [Array.toList_modify, modify_eq_set _ _ _ _ g2]
    have hej : es.toList[j] = e0 := (List.getElem?_eq_some_iff.1 g2).2
    have other : ∀ i, (hi : i < es.toList.length) → i ≠ j → es.toList[i].key ≠ kv x := by
      intro i hi hij
      rw [← g3, ← hej]
      rcases Nat.lt_or_gt_of_ne hij with h | h
      · exact List.pairwise_iff_getElem.1 hn i j hi hjl h
      · exact fun hc => List.pairwise_iff_getElem.1 hn j i hjl hi h hc.symm
    have who : ∀ y ∈ es.toList.set j { e0 with key := kv x, val := val }, y = { e0 with key := kv x, val := val } ∨ (y ∈ es.toList ∧ y.key ≠ kv x) := by
      intro y hy
      obtain ⟨i, hi, ex⟩ := List.getElem_of_mem hy
      rw [List.getElem_set] at ex
      split at ex
      · exact Or.inl ex.symm
      · rename_i hne
        have hi' : i < es.toList.length := by simpa using hi
        exact Or.inr ⟨ex ▸ List.getElem_mem hi', by rw [← ex]; exact other i hi' (fun e => hne e.symm)⟩
    refine ⟨.map (es.modify j (fun e' => { e' with key := kv x, val := val })) clock, ?_, _, _, hset _, ?_, ?_, ?_, ?_⟩
    · simp [Instr.mapUpdate, run_underlying ht, MapKept.run_getObj_map hb, KD.check w false hl, g1, hj, g3, KD.stays w hl, MapKept.run_setObj_map _ hb, Result.andThen, setBlock]
    · rw [hlist]
      intro e he
      rcases who e he with rfl | ⟨he', _⟩
      · exact ⟨l, hl⟩
      · exact hk e he'
    · rw [hlist, List.pairwise_iff_getElem]
      intro i i' hi hi' hlt'
      have hi1 : i < es.toList.length := by simpa using hi
      have hi2 : i' < es.toList.length := by simpa using hi'
      rw [List.getElem_set, List.getElem_set]
      split
      · rename_i e1
        subst e1
        rw [if_neg (by omega)]
        exact fun hc => other i' hi2 (by omega) hc.symm
      · rename_i e1
        split
        · exact other i hi1 (fun e => e1 e.symm)
        · exact List.pairwise_iff_getElem.1 hn i i' hi1 hi2 hlt'
    · rw [hlist]
      intro e he
      rcases who e he with rfl | ⟨he', hne⟩
      · exact ⟨x, rfl, by simp⟩
      · obtain ⟨y, hy, hv⟩ := h1 e he'
        refine ⟨y, hy, ?_⟩
        show (if y = x then some val else f y) = some e.val
        rw [if_neg (fun hc => hne (by rw [hy, hc]))]
        exact hv
    · rw [hlist]
      intro y v hv
      by_cases hyx : y = x
      · subst hyx
        simp at hv
        exact ⟨{ e0 with key := kv y, val := val }, List.mem_iff_getElem.2 ⟨j, by simpa using hjl, by simp⟩, rfl, hv⟩
      · replace hv : (if y = x then some val else f y) = some v := hv
        rw [if_neg hyx] at hv
        obtain ⟨e, he, hek, hev⟩ := h2 y v hv
        obtain ⟨i, hi, hie⟩ := List.getElem_of_mem he
        refine ⟨e, List.mem_iff_getElem.2 ⟨i, by simpa using hi, ?_⟩, hek, hev⟩
        rw [List.getElem_set, if_neg, hie]
        intro e1
        subst e1
        rw [hej] at hie
        rw [← hie, g3] at hek
        exact hyx (hinj _ _ hek).symm

theorem mods_setBlock (w : World) (b : Nat) (o : Obj) : Mods (fun i => i = b) w (setBlock w b o) :=
  ⟨rfl, rfl, rfl, by simp [setBlock], fun i _ hi => by simp [setBlock, Ne.symm hi]⟩
theorem below_setBlock {B : Nat} (w : World) {b : Nat} (o : Obj) (hB : B ≤ b) : Below B w (setBlock w b o) :=
  ⟨rfl, rfl, rfl, by simp [setBlock], fun i hi => by simp [setBlock, show b ≠ i by omega]⟩
end

/-! The seat's own key types: int; a way (two ints). -/
theorem ul130 : Try.prog.underlying 130 = some (.map 135 3) := by kernel_rfl
theorem ul131 : Try.prog.underlying 131 = some (.map 3 22) := by kernel_rfl
theorem keyed3 : Keyed Try.prog 3 := int_keyed Try.underlying3
theorem laid135 : laidOutB Try.prog = true := by kernel_rfl
theorem row135 : 135 < Try.prog.types.size := of_decide_eq_true (by kernel_rfl)
theorem wide135 : (match Try.prog.underlying 135 with | some (.array _ _) | some (.struct _) => true | _ => false) = true := by kernel_rfl
set_option maxRecDepth 100000 in
theorem keyed135 : Keyed Try.prog 135 := Keyed.of_law (deep_law_laid laid135 (m := 2) (by omega) row135 (by kernel_rfl) wide135)
def wayV (x : Int × Int) : Value := .agg #[.int .i64 x.1, .int .i64 x.2]
theorem wayV_inj (x y : Int × Int) (h : wayV x = wayV y) : x = y := by
  simp only [wayV, Value.agg.injEq, Array.mk.injEq, List.cons.injEq, Value.int.injEq, true_and, and_true] at h
  exact Prod.ext h.1 h.2
def levV (x : Int) : Value := .int .i64 x
theorem levV_inj (x y : Int) (h : levV x = levV y) : x = y := by
  simpa [levV] using h
theorem key3 {x : Int} (h : (Lit.int .i64 x).wf = true) : keyOf Try.prog 3 (levV x) = some (.int .i64 x) := keyOf_int_mk Try.underlying3 h
theorem cells135 : Try.prog.cellsOf 135 = 2 := by kernel_rfl
theorem cells3 : Try.prog.cellsOf 3 = 1 := by kernel_rfl
theorem keyType135 : Try.prog.keyType 135 = true := by kernel_rfl
theorem keyLits3 (d : Nat) {x : Int} (h : (Lit.int .i64 x).wf = true) : Try.prog.keyLits (d + 1) 3 [.int .i64 x] = some [.int .i64 x] := by
  simp [Program.keyLits, Try.underlying3, h]
theorem key135 {x : Int × Int} (h1 : (Lit.int .i64 x.1).wf = true) (h2 : (Lit.int .i64 x.2).wf = true) : ∃ l, keyOf Try.prog 135 (wayV x) = some l := by
  obtain ⟨m, hm⟩ : ∃ m, Try.prog.types.size = m + 1 := Nat.exists_eq_succ_of_ne_zero (by have := row135; omega)
  have hf : (wayV x).formed Try.prog 135 = true := by simp [wayV, Value.formed, Try.underlying135, cells135]
  have hk : Try.prog.keyLits (Try.prog.types.size + 1) 135 (wayV x).cells.toList = some [.int .i64 x.1, .int .i64 x.2] := by
    rw [hm]
    unfold Program.keyLits
    rw [Try.underlying135]
    simp [wayV, Value.cells, cells135, cells3, keyLits3, h1, h2]
  unfold keyOf
  rw [Try.underlying135]
  simp only [keyType135, hf, hk, Bool.and_self, if_true, Option.map_some]
  exact ⟨_, rfl⟩
theorem zero3 (w : World) : (zeroValue 3).run Try.prog w = .ok (.int .i64 0) w := by kernel_rfl
theorem zero22 (w : World) : (zeroValue 22).run Try.prog w = .ok (.slice none 0 0) w := by kernel_rfl
end Go.Proofs.Ytdknkbpgkkakhaa
