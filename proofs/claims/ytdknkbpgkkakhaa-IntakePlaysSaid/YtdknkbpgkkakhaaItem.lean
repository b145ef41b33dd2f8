/- Writes and items: what the functions on them answer. -/
import Derived.Test.YtdknkbpgkkakhaaPlan
namespace Go.Proofs.Ytdknkbpgkkakhaa
open Go.RowKit

structure Wr where
  key : ByteArray
  del : Bool
  val : ByteArray
def Wr.cells (x : Wr) : List Value := [.string x.key, .bool x.del, .string x.val]
def Wr.value (x : Wr) : Value := .agg #[.string x.key, .bool x.del, .string x.val]
def Wr.ok (x : Wr) : Prop := x.key.size ≤ 9223372036854775807 ∧ x.val.size ≤ 9223372036854775807
theorem Wr.cells_len (x : Wr) : x.cells.length = 3 := rfl

abbrev WrsAt (w : World) (B : Nat) (A : Option Addr) (ws : List Wr) : Prop := RowsAt w B 47 3 Wr.cells A ws

theorem WrsAt.get {w : World} {B : Nat} {A : Option Addr} {ws : List Wr} (h : WrsAt w B A ws) {k : Nat} (hk : k < ws.length) :
    ∃ ad, A = some ad ∧ w.cell? (ad.add (k * 3)) = some (.string ws[k].key) ∧ w.cell? ⟨(ad.add (k * 3)).block, (ad.add (k * 3)).off + 1, none⟩ = some (.bool ws[k].del) ∧
      w.cell? ⟨(ad.add (k * 3)).block, (ad.add (k * 3)).off + 2, none⟩ = some (.string ws[k].val) := by
  obtain ⟨ad, e, _, hc⟩ := h k hk
  exact ⟨ad, e, hc 0 _ rfl, hc 1 _ rfl, hc 2 _ rfl⟩

/-- entry.IsWrite -/
def Wr.is (x : Wr) : Bool := decide (1 ≤ x.key.size) && decide (x.key.size ≤ 13) && decide (x.val.size ≤ 24) && (!x.del || x.val.toList.isEmpty)

set_option maxHeartbeats 400000 in
theorem isWrite_any (x : Wr) (w : World) (hx : x.ok) : Calls Try.prog 114 #[.agg #[.string x.key, .bool x.del, .string x.val]] w fun e w' => e = .returned (.bool x.is) ∧ Ext w w' := by
  obtain ⟨hk, hv⟩ := hx
  obtain ⟨key, del, val⟩ := x
  dsimp only at hk hv ⊢
  go_enter Try.func114, Try.ntmps114
  go_wp2
  all_goals
    go_ret
    refine ⟨ret_bool ?_, ext_alloc _ _⟩
    rw [Bool.eq_iff_iff]
    simp [Wr.is, *]
    try omega

set_option maxHeartbeats 400000 in
theorem refIsWrite_any (x : Wr) (w : World) (hx : x.ok) : Calls Try.prog 115 #[.agg #[.string x.key, .bool x.del, .string x.val]] w fun e w' => e = .returned (.bool x.is) ∧ Ext w w' := by
  obtain ⟨hk, hv⟩ := hx
  obtain ⟨key, del, val⟩ := x
  dsimp only at hk hv ⊢
  go_enter Try.func115, Try.ntmps115
  go_wp2
  all_goals
    go_ret
    refine ⟨ret_bool ?_, ext_alloc _ _⟩
    rw [Bool.eq_iff_iff]
    simp [Wr.is, *]
    try omega

/-- Go's 'a <= b' on strings. -/
def leS (a b : ByteArray) : Bool := Op.bytesLess a.toList b.toList || a.toList == b.toList
def batchGo : ByteArray → List Wr → Bool
  | _, [] => true
  | a, x :: xs => x.is && !(leS x.key a) && batchGo x.key xs
def batchIs (ws : List Wr) : Bool := batchGo ByteArray.empty ws && decide (ws.length ≤ 8)

set_option maxHeartbeats 400000 in
theorem batchIs_any (A : Option Addr) (c : Nat) (ws : List Wr) (w : World) (B : Nat) (hA : WrsAt w B A ws) (hok : ∀ x ∈ ws, x.ok) (hl : ws.length ≤ 9223372036854775807) :
    Calls Try.prog 108 #[.slice A ws.length c] w fun e w' => e = .returned (.bool (batchIs ws)) ∧ Ext w w' := by
  go_enter Try.func108, Try.ntmps108
  go_wp2
  go_loopw [8, 3] (fun i a wr => ∃ (k : Nat) (s : ByteArray), k ≤ ws.length ∧ i = .int .i64 k ∧ a = .string s ∧ Ext w wr ∧ batchGo ByteArray.empty ws = batchGo s (ws.drop k)) (fun i _ _ => ws.length - (intOf i).toNat)
  case atStart => exact ⟨0, _, Nat.zero_le _, rfl, rfl, Below.refl _ _, rfl⟩
  case round =>
    obtain ⟨k, s, hk, rfl, rfl, hext, hgo⟩ := hrel
    have HG := Lib.hid hgo; clear hgo
    by_cases hlt : k < ws.length
    · have hAr := hA.ext hext
      obtain ⟨ad, rfl, h0, h1, h2⟩ := WrsAt.get hAr hlt
      have hx := hok _ (List.getElem_mem hlt)
      clear hAr hA hok
      have hdrop : batchGo s (ws.drop k) = (ws[k].is && !(leS ws[k].key s) && batchGo ws[k].key (ws.drop (k + 1))) := by rw [List.drop_eq_getElem_cons hlt]; rfl
      have HD := Lib.hid hdrop; clear hdrop
      go_wp2_with fail
      refine (isWrite_any ws[k] _ hx).mono ?_
      rintro e w1 ⟨rfl, hext1⟩
      have c0 : w1.cell? ⟨wr.heap.size, 0, none⟩ = some (.string ws[k].key) := ext_cell hext1 (by simp [go_sem])
      have hz : wr.heap.size + 1 ≤ w1.heap.size := by have := hext1.size; simpa using this
      have hwr : Ext wr w1 := ext_trans (ext_alloc _ _) hext1
      clear hext1
      cases hi : ws[k].is
      · go_wp2
        go_ret
        refine ⟨ret_bool ?_, ext_trans hext hwr⟩
        unfold batchIs; rw [HG.out, HD.out, hi]; rfl
      · cases hle : (Op.bytesLess ws[k].key.toList s.toList || ws[k].key.toList == s.toList)
        · go_wp2
          go_roundw
          case rel => exact ⟨k + 1, _, hlt, by go_num, rfl, ext_trans hext hwr, by rw [HG.out, HD.out, hi, show leS ws[k].key s = false from hle]; rfl⟩
          case measure => simp [intOf]; omega
        · go_wp2
          go_ret
          refine ⟨ret_bool ?_, ext_trans hext hwr⟩
          unfold batchIs; rw [HG.out, HD.out, hi, show leS ws[k].key s = true from hle]; rfl
    · obtain rfl : k = ws.length := by omega
      go_wp2
      go_ret
      refine ⟨ret_bool ?_, hext⟩
      unfold batchIs; rw [HG.out, List.drop_length, batchGo, Bool.true_and]
      rw [Bool.eq_iff_iff]; simp; omega
end Go.Proofs.Ytdknkbpgkkakhaa
