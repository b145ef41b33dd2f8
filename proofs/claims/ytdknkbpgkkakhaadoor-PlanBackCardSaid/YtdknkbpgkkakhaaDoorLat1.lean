/- Layer 1: a lattice in memory; whether it is square, in order; Check. -/
import Derived.Test.YtdknkbpgkkakhaaDoorPlan
import Derived.Test.YtdknkbpgkkakhaaDoorLatM
namespace Go.Proofs.YtdknkbpgkkakhaaDoor
open Go.RowKit

def bitCells (b : Bool) : List Value := [.bool b]
abbrev BitsAt (w : World) (B : Nat) (A : Option Addr) (ks : List Bool) : Prop := RowsAt w B 4 1 bitCells A ks
theorem BitsAt.get {w : World} {B : Nat} {A : Option Addr} {ks : List Bool} (h : BitsAt w B A ks) {k : Nat} (hk : k < ks.length) : ∃ ad, A = some ad ∧ w.cell? (ad.add k) = some (.bool ks[k]) := by
  obtain ⟨ad, e, _, hc⟩ := h k hk
  exact ⟨ad, e, by simpa [add_zero] using hc 0 _ rfl⟩

/-- A row of a lattice in memory. -/
structure Rw where
  A : Option Addr
  c : Nat
  bs : List Bool
def Rw.cells (r : Rw) : List Value := [.slice r.A r.bs.length r.c]
def mat (rs : List Rw) : Mat := rs.map (·.bs)
structure MatAt (w : World) (B : Nat) (A : Option Addr) (rs : List Rw) : Prop where
  rows : RowsAt w B 38 1 Rw.cells A rs
  each : ∀ r ∈ rs, BitsAt w B r.A r.bs
theorem MatAt.ext {w w' : World} {B : Nat} {A : Option Addr} {rs : List Rw} (h : MatAt w B A rs) (k : Ext w w') : MatAt w' B A rs :=
  ⟨h.rows.ext k, fun r hr => RowsAt.ext (h.each r hr) k⟩
theorem mat_length (rs : List Rw) : (mat rs).length = rs.length := by simp [mat]
theorem MatAt.row {w : World} {B : Nat} {A : Option Addr} {rs : List Rw} (h : MatAt w B A rs) {a : Nat} (ha : a < rs.length) :
    ∃ ad, A = some ad ∧ w.cell? (ad.add a) = some (.slice rs[a].A rs[a].bs.length rs[a].c) := by
  obtain ⟨ad, e, _, hc⟩ := h.rows a ha
  exact ⟨ad, e, by simpa [add_zero] using hc 0 _ rfl⟩
theorem at2_of {rs : List Rw} {a b : Nat} (ha : a < rs.length) (hb : b < rs[a].bs.length) : at2 (mat rs) a b = rs[a].bs[b] := by
  simp [at2, mat, ha, hb]
def Sq (rs : List Rw) : Prop := ∀ a, (h : a < rs.length) → rs[a].bs.length = rs.length
theorem sq_of {rs : List Rw} (h : squareB (mat rs) = true) : Sq rs ∧ 1 ≤ rs.length ∧ rs.length ≤ 6 := by
  simp only [squareB, mat_length, Bool.and_eq_true, List.all_eq_true, decide_eq_true_eq, beq_iff_eq] at h
  exact ⟨fun a ha => h.1.1 _ (by simp only [mat]; exact List.mem_map_of_mem (List.getElem_mem ha)), h.1.2, h.2⟩
theorem MatAt.get {w : World} {B : Nat} {A : Option Addr} {rs : List Rw} (h : MatAt w B A rs) (hs : Sq rs) {a b : Nat} (ha : a < rs.length) (hb : b < rs.length) :
    ∃ ad ad' c', A = some ad ∧ w.cell? (ad.add a) = some (.slice (some ad') rs.length c') ∧ w.cell? (ad'.add b) = some (.bool (at2 (mat rs) a b)) := by
  obtain ⟨ad, e, h1⟩ := h.row ha
  have hb' : b < rs[a].bs.length := by rw [hs a ha]; exact hb
  obtain ⟨ad', e', h2⟩ := BitsAt.get (h.each _ (List.getElem_mem ha)) hb'
  rw [e', hs a ha] at h1
  exact ⟨ad, ad', _, e, h1, by rw [at2_of ha hb']; exact h2⟩

/-- A square lattice's cells, all under one name. -/
def MatCells (w : World) (n : Nat) (m : Mat) (ad : Addr) (ra : Nat → Addr) (ca : Nat → Nat) : Prop :=
  ∀ a, a < n → w.cell? (ad.add a) = some (.slice (some (ra a)) n (ca a)) ∧ ∀ b, b < n → w.cell? ((ra a).add b) = some (.bool (at2 m a b))
theorem MatAt.all {w : World} {B : Nat} {A : Option Addr} {rs : List Rw} (h : MatAt w B A rs) (hs : Sq rs) (hn : 0 < rs.length) :
    ∃ ad ra ca, A = some ad ∧ MatCells w rs.length (mat rs) ad ra ca := by
  obtain ⟨ad, e, _⟩ := h.row hn
  have : ∀ a, ∃ (r : Addr) (c : Nat), a < rs.length → w.cell? (ad.add a) = some (.slice (some r) rs.length c) ∧ ∀ b, b < rs.length → w.cell? (r.add b) = some (.bool (at2 (mat rs) a b)) := by
    intro a
    by_cases ha : a < rs.length
    · obtain ⟨ad1, r, c, e1, h1, h2⟩ := h.get hs ha ha
      have e2 : ad = ad1 := Option.some.inj (e.symm.trans e1)
      subst e2
      refine ⟨r, c, fun _ => ⟨h1, fun b hb => ?_⟩⟩
      obtain ⟨ad3, r3, c3, e3, h3, h4⟩ := h.get hs ha hb
      have e4 : ad = ad3 := Option.some.inj (e.symm.trans e3)
      subst e4
      rw [h1] at h3
      injection h3 with h3
      injection h3 with h3
      rw [Option.some.inj h3]
      exact h4
    · exact ⟨ad, 0, fun h => absurd h ha⟩
  exact ⟨ad, fun a => (this a).choose, fun a => (this a).choose_spec.choose, e, fun a ha => (this a).choose_spec.choose_spec ha⟩

set_option maxHeartbeats 400000 in
theorem square_any (A : Option Addr) (c : Nat) (rs : List Rw) (w : World) (B : Nat) (hA : MatAt w B A rs) (hl : rs.length ≤ 9223372036854775807) :
    Calls Tryd.prog 36 #[.agg #[.slice A rs.length c]] w fun e w' => e = .returned (.bool (squareB (mat rs))) ∧ Ext w w' := by
  go_enter Tryd.func36, Tryd.ntmps36
  go_wp2
  go_loop [8] (fun i => ∃ k : Nat, k ≤ rs.length ∧ i = .int .i64 k ∧ Hid (∀ a, (h : a < rs.length) → a < k → rs[a].bs.length = rs.length)) (fun i => rs.length - (intOf i).toNat)
  case atStart => exact ⟨0, Nat.zero_le _, rfl, fun a h ha => by omega⟩
  case round =>
    obtain ⟨k, hk, rfl, HS⟩ := hrel
    by_cases hlt : k < rs.length
    · obtain ⟨ad, rfl, h1⟩ := (hA.ext (ext_alloc w (.cells #[.slice A rs.length c] 24))).row hlt
      clear hA
      by_cases he : rs[k].bs.length = rs.length
      · have hb : ((rs[k].bs.length : Int) != rs.length) = false := by simp [he]
        have HE := Lib.hid he; clear he
        go_wp2
        go_round
        case rel => exact ⟨k + 1, hlt, by go_num, fun a h ha => by
          by_cases hak : a = k
          · subst hak; exact HE.out
          · exact HS.out a h (by omega)⟩
        case measure => simp [intOf]; omega
      · have hb : ((rs[k].bs.length : Int) != rs.length) = true := by simp; omega
        have HE := Lib.hid he; clear he
        go_wp2
        go_ret
        refine ⟨ret_bool ?_, ext_alloc _ _⟩
        cases hs : squareB (mat rs)
        · rfl
        · exact absurd ((sq_of hs).1 k hlt) HE.out
    · obtain rfl : k = rs.length := by omega
      have hsq : squareB (mat rs) = (decide (1 ≤ rs.length) && decide (rs.length ≤ 6)) := by
        simp only [squareB, mat_length]
        rw [show (mat rs).all (fun r => r.length == rs.length) = true from ?_]
        · simp
        · simp only [List.all_eq_true, beq_iff_eq]
          intro r hr
          obtain ⟨x, hx, rfl⟩ := List.mem_map.1 hr
          obtain ⟨a, ha, rfl⟩ := List.getElem_of_mem hx
          exact HS.out a ha ha
      have HQ := Lib.hid hsq; clear hsq
      go_wp2
      all_goals
        go_ret
        refine ⟨ret_bool ?_, ext_alloc _ _⟩
        rw [HQ.out, Bool.eq_iff_iff]
        simp
        try omega
end Go.Proofs.YtdknkbpgkkakhaaDoor
