/- Layer 1: Join, of the program and of the document. -/
import Derived.Test.YtdknkbpgkkakhaaLat8
namespace Go.Proofs.Ytdknkbpgkkakhaa
open Go.RowKit

def joinN (m : Mat) (a b : Int) : Nat := (ljoin m a b).getD 0
def joinB (m : Mat) (a b : Int) : Bool := (ljoin m a b).isSome
def topUp (m : Mat) (a b : Int) (c l : Nat) : Bool := (List.range l).all fun d => !ldom m d a || !ldom m d b || ldom m d c
theorem topUp_zero (m : Mat) (a b : Int) (c : Nat) : topUp m a b c 0 = true := rfl
theorem topUp_succ (m : Mat) (a b : Int) (c l : Nat) : topUp m a b c (l + 1) = (topUp m a b c l && (!ldom m l a || !ldom m l b || ldom m l c)) := by
  simp [topUp, List.range_succ, List.all_append]
theorem topUp_all (m : Mat) (a b : Int) (c : Nat) : ltop m a b c = (ldom m c a && ldom m c b && topUp m a b c (levels m)) := rfl
theorem topUp_no {m : Mat} {a b : Int} {c l : Nat} (hl : l < levels m) (h : (!ldom m l a || !ldom m l b || ldom m l c) = false) : ltop m a b c = false := by
  rw [topUp_all]
  cases ht : topUp m a b c (levels m)
  · simp
  · simp only [topUp, List.all_eq_true, List.mem_range] at ht
    have := ht l hl
    rw [h] at this; cases this
def NoTop (m : Mat) (a b : Int) (k : Nat) : Prop := ∀ j, j < k → ltop m a b j = false
theorem join_some {m : Mat} {a b : Int} {k : Nat} (h : NoTop m a b k) (hk : k < levels m) (ht : ltop m a b k = true) : joinN m a b = k ∧ joinB m a b = true := by
  have : ljoin m a b = some k := by
    rw [ljoin, List.find?_range_eq_some]
    exact ⟨ht, List.mem_range.2 hk, fun j hj => by simp [h j hj]⟩
  simp [joinN, joinB, this]
theorem join_none {m : Mat} {a b : Int} (h : NoTop m a b (levels m)) : joinN m a b = 0 ∧ joinB m a b = false := by
  have : ljoin m a b = none := by
    rw [ljoin, List.find?_eq_none]
    intro x hx
    simp [h x (List.mem_range.1 hx)]
  simp [joinN, joinB, this]
theorem NoTop.snoc {m : Mat} {a b : Int} {k : Nat} (h : NoTop m a b k) (ht : ltop m a b k = false) : NoTop m a b (k + 1) := fun j hj => by
  by_cases e : j = k
  · subst e; exact ht
  · exact h j (by omega)
theorem ret_join {m : Mat} {a b : Int} {x : Nat} {y : Bool} (h : joinN m a b = x ∧ joinB m a b = y) : Ending.returned (.tuple #[.int .i64 (x : Int), .bool y]) = .returned (.tuple #[.int .i64 (joinN m a b : Int), .bool (joinB m a b)]) := by rw [h.1, h.2]

set_option maxRecDepth 100000 in
set_option maxHeartbeats 4000000 in
theorem latJoin_any (A : Option Addr) (c : Nat) (rs : List Rw) (a b : Int) (w : World) (B : Nat) (hA : MatAt w B A rs) (hl : rs.length ≤ 9223372036854775807) :
    Calls Try.prog 38 #[.agg #[.slice A rs.length c], .int .i64 a, .int .i64 b] w fun e w' => e = .returned (.tuple #[.int .i64 (joinN (mat rs) a b : Int), .bool (joinB (mat rs) a b)]) ∧ Ext w w' := by
  have h6 := levels_le (mat rs)
  obtain ⟨N, hN⟩ : ∃ N, N = levels (mat rs) := ⟨_, rfl⟩
  rw [← hN] at h6
  have HN := Lib.hid hN; clear hN
  have b0 : Blk (w.alloc (.cells #[.slice A rs.length c] 53)) w.heap.size 53 #[.slice A rs.length c] := Blk.new w 53 #[.slice A rs.length c]
  have hx := ext_alloc w (.cells #[.slice A rs.length c] 53)
  have k0 := b0.cell 0
  simp only [List.getElem?_toArray, List.getElem?_cons_zero] at k0
  go_enter Try.func38, Try.ntmps38
  go_wp2
  go_step3
  generalize w.alloc (.cells #[.slice A rs.length c] 53) = w1 at b0 hx k0 ⊢
  go_wp2
  go_step3
  go_wp2_with fail
  refine (latLevels_any A c rs _ B (hA.ext hx) hl).mono ?_
  rintro e w2 ⟨rfl, x2⟩
  rw [← HN.out]
  clear k0
  go_wp2
  go_loopw [12] (fun i wr => ∃ k : Nat, k ≤ N ∧ i = .int .i64 k ∧ Hid (NoTop (mat rs) a b k) ∧ Ext w1 wr) (fun i _ => N - (intOf i).toNat)
  case atStart => exact ⟨0, Nat.zero_le _, rfl, fun j hj => absurd hj (Nat.not_lt_zero _), x2⟩
  case round =>
    obtain ⟨k, hk, rfl, HT, hext⟩ := hrel
    clear x2
    have c0 := (b0.ext hext).cell 0
    simp only [List.getElem?_toArray, List.getElem?_cons_zero] at c0
    by_cases hlt : k < N
    · go_wp2_with fail
      refine (latDom_any A c rs k a _ B (hA.ext (ext_trans hx hext)) hl).mono ?_
      rintro e w3 ⟨rfl, x3⟩
      replace hext := ext_trans hext x3
      replace c0 := ext_cell x3 c0
      clear x3
      cases hda : ldom (mat rs) k a
      · have HD : Hid (ltop (mat rs) a b k = false) := by show _ = _; rw [ltop, hda]; rfl
        clear hda
        go_wp2
        go_roundw
        case rel => exact ⟨k + 1, hlt, by go_num, HT.out.snoc HD.out, hext⟩
        case measure => simp [intOf]; omega
      · have HDA := Lib.hid hda; clear hda
        go_wp2_with fail
        refine (latDom_any A c rs k b _ B (hA.ext (ext_trans hx hext)) hl).mono ?_
        rintro e w4 ⟨rfl, x4⟩
        replace hext := ext_trans hext x4
        replace c0 := ext_cell x4 c0
        clear x4
        cases hdb : ldom (mat rs) k b
        · have HD : Hid (ltop (mat rs) a b k = false) := by show _ = _; rw [ltop, HDA.out, hdb]; rfl
          clear hdb
          go_wp2
          go_roundw
          case rel => exact ⟨k + 1, hlt, by go_num, HT.out.snoc HD.out, hext⟩
          case measure => simp [intOf]; omega
        · have HDB := Lib.hid hdb; clear hdb
          go_wp2_with fail
          refine (latLevels_any A c rs _ B (hA.ext (ext_trans hx hext)) hl).mono ?_
          rintro e w5 ⟨rfl, x5⟩
          rw [← HN.out]
          replace hext := ext_trans hext x5
          clear x5 c0
          go_wp2
          go_loopw [29] (fun i wi => ∃ l : Nat, l ≤ N ∧ i = .int .i64 l ∧ Hid (topUp (mat rs) a b k l = true) ∧ Ext w1 wi) (fun i _ => N - (intOf i).toNat)
          case atStart => exact ⟨0, Nat.zero_le _, rfl, rfl, hext⟩
          case round =>
            obtain ⟨l, hll, rfl, HU, hxi⟩ := hrel
            clear hext
            by_cases hl2 : l < N
            · have c0 := (b0.ext hxi).cell 0
              simp only [List.getElem?_toArray, List.getElem?_cons_zero] at c0
              go_wp2_with fail
              refine (latDom_any A c rs l a _ B (hA.ext (ext_trans hx hxi)) hl).mono ?_
              rintro e w6 ⟨rfl, x6⟩
              replace hxi := ext_trans hxi x6
              replace c0 := ext_cell x6 c0
              clear x6
              cases h1 : ldom (mat rs) l a
              · have H1 := Lib.hid h1; clear h1
                go_wp2
                go_roundw
                case rel => exact ⟨l + 1, hl2, by go_num, by show _ = _; rw [topUp_succ, HU.out, H1.out]; rfl, hxi⟩
                case measure => simp [intOf]; omega
              · have H1 := Lib.hid h1; clear h1
                go_wp2_with fail
                refine (latDom_any A c rs l b _ B (hA.ext (ext_trans hx hxi)) hl).mono ?_
                rintro e w7 ⟨rfl, x7⟩
                replace hxi := ext_trans hxi x7
                replace c0 := ext_cell x7 c0
                clear x7
                cases h2 : ldom (mat rs) l b
                · have H2 := Lib.hid h2; clear h2
                  go_wp2
                  go_roundw
                  case rel => exact ⟨l + 1, hl2, by go_num, by show _ = _; rw [topUp_succ, HU.out, H1.out, H2.out]; rfl, hxi⟩
                  case measure => simp [intOf]; omega
                · have H2 := Lib.hid h2; clear h2
                  go_wp2_with fail
                  refine (latDom_any A c rs l k _ B (hA.ext (ext_trans hx hxi)) hl).mono ?_
                  rintro e w8 ⟨rfl, x8⟩
                  replace hxi := ext_trans hxi x8
                  clear x8 c0
                  cases h3 : ldom (mat rs) l k
                  · have H3 := Lib.hid h3; clear h3
                    go_wp2
                    go_roundw
                    case rel => exact ⟨k + 1, hlt, by go_num, HT.out.snoc (topUp_no (l := l) (by rw [← HN.out]; exact hl2) (by rw [H1.out, H2.out, H3.out]; rfl)), hxi⟩
                    case measure => simp [intOf]; omega
                  · have H3 := Lib.hid h3; clear h3
                    go_wp2
                    go_roundw
                    case rel => exact ⟨l + 1, hl2, by go_num, by show _ = _; rw [topUp_succ, HU.out, H1.out, H2.out, H3.out]; rfl, hxi⟩
                    case measure => simp [intOf]; omega
            · obtain rfl : l = N := by omega
              have HJ := Lib.hid (join_some HT.out (by rw [← HN.out]; exact hlt) (by rw [topUp_all, HDA.out, HDB.out, ← HN.out, HU.out]; rfl))
              go_wp2
              (rw [Exit.noGoto_ret]; go_ret2)
              exact ⟨ret_join HJ.out, ext_trans hx hxi⟩
    · obtain rfl : k = N := by omega
      have HJ := Lib.hid (join_none (by rw [← HN.out]; exact HT.out))
      go_wp2
      (rw [Exit.noGoto_ret]; go_ret2)
      exact ⟨ret_join HJ.out, ext_trans hx hext⟩

set_option maxRecDepth 100000 in
set_option maxHeartbeats 4000000 in
theorem refJoin_any (A : Option Addr) (c : Nat) (rs : List Rw) (a b : Int) (w : World) (B : Nat) (hA : MatAt w B A rs) (hl : rs.length ≤ 9223372036854775807) :
    Calls Try.prog 39 #[.agg #[.slice A rs.length c], .int .i64 a, .int .i64 b] w fun e w' => e = .returned (.tuple #[.int .i64 (joinN (mat rs) a b : Int), .bool (joinB (mat rs) a b)]) ∧ Ext w w' := by
  have h6 := levels_le (mat rs)
  obtain ⟨N, hN⟩ : ∃ N, N = levels (mat rs) := ⟨_, rfl⟩
  rw [← hN] at h6
  have HN := Lib.hid hN; clear hN
  have b0 : Blk (w.alloc (.cells #[.slice A rs.length c] 53)) w.heap.size 53 #[.slice A rs.length c] := Blk.new w 53 #[.slice A rs.length c]
  have hx := ext_alloc w (.cells #[.slice A rs.length c] 53)
  go_enter Try.func39, Try.ntmps39
  go_wp2
  generalize w.alloc (.cells #[.slice A rs.length c] 53) = w1 at b0 hx ⊢
  go_loopw [8] (fun i wr => ∃ k : Nat, k ≤ N ∧ i = .int .i64 k ∧ Hid (NoTop (mat rs) a b k) ∧ Ext w1 wr) (fun i _ => N - (intOf i).toNat)
  case atStart => exact ⟨0, Nat.zero_le _, rfl, fun j hj => absurd hj (Nat.not_lt_zero _), Below.refl _ _⟩
  case round =>
    obtain ⟨k, hk, rfl, HT, hext⟩ := hrel
    have c0 := (b0.ext hext).cell 0
    simp only [List.getElem?_toArray, List.getElem?_cons_zero] at c0
    go_wp2_with fail
    refine (refLevels_any A c rs _ B (hA.ext (ext_trans hx hext)) hl).mono ?_
    rintro e w2 ⟨rfl, x2⟩
    rw [← HN.out]
    replace hext := ext_trans hext x2
    replace c0 := ext_cell x2 c0
    clear x2
    by_cases hlt : k < N
    · go_wp2_with fail
      refine (refDom_any A c rs k a _ B (hA.ext (ext_trans hx hext)) hl).mono ?_
      rintro e w3 ⟨rfl, x3⟩
      replace hext := ext_trans hext x3
      replace c0 := ext_cell x3 c0
      clear x3
      cases hda : ldom (mat rs) k a
      · have HD : Hid (ltop (mat rs) a b k = false) := by show _ = _; rw [ltop, hda]; rfl
        clear hda
        go_wp2
        go_roundw
        case rel => exact ⟨k + 1, hlt, by go_num, HT.out.snoc HD.out, hext⟩
        case measure => simp [intOf]; omega
      · have HDA := Lib.hid hda; clear hda
        go_wp2_with fail
        refine (refDom_any A c rs k b _ B (hA.ext (ext_trans hx hext)) hl).mono ?_
        rintro e w4 ⟨rfl, x4⟩
        replace hext := ext_trans hext x4
        clear x4 c0
        cases hdb : ldom (mat rs) k b
        · have HD : Hid (ltop (mat rs) a b k = false) := by show _ = _; rw [ltop, HDA.out, hdb]; rfl
          clear hdb
          go_wp2
          go_roundw
          case rel => exact ⟨k + 1, hlt, by go_num, HT.out.snoc HD.out, hext⟩
          case measure => simp [intOf]; omega
        · have HDB := Lib.hid hdb; clear hdb
          go_wp2
          go_loopw [9, 10] (fun o i wi => ∃ l : Nat, l ≤ N ∧ i = .int .i64 l ∧ (∃ t, o = .bool t ∧ Hid (t = topUp (mat rs) a b k l)) ∧ Ext w1 wi) (fun _ i _ => N - (intOf i).toNat)
          case atStart => exact ⟨0, Nat.zero_le _, rfl, ⟨_, rfl, rfl⟩, hext⟩
          case round =>
            obtain ⟨l, hll, rfl, ⟨t, rfl, HU⟩, hxi⟩ := hrel
            clear hext
            have c0 := (b0.ext hxi).cell 0
            simp only [List.getElem?_toArray, List.getElem?_cons_zero] at c0
            go_wp2_with fail
            refine (refLevels_any A c rs _ B (hA.ext (ext_trans hx hxi)) hl).mono ?_
            rintro e w5 ⟨rfl, x5⟩
            rw [← HN.out]
            replace hxi := ext_trans hxi x5
            replace c0 := ext_cell x5 c0
            clear x5
            by_cases hl2 : l < N
            · cases t
              · go_wp2
                go_roundw
                case rel => exact ⟨l + 1, hl2, by go_num, ⟨_, rfl, by show _ = _; rw [topUp_succ, ← HU.out]; rfl⟩, hxi⟩
                case measure => simp [intOf]; omega
              · go_wp2_with fail
                refine (refDom_any A c rs l a _ B (hA.ext (ext_trans hx hxi)) hl).mono ?_
                rintro e w6 ⟨rfl, x6⟩
                replace hxi := ext_trans hxi x6
                replace c0 := ext_cell x6 c0
                clear x6
                cases h1 : ldom (mat rs) l a
                · have H1 := Lib.hid h1; clear h1
                  go_wp2
                  go_roundw
                  case rel => exact ⟨l + 1, hl2, by go_num, ⟨_, rfl, by show _ = _; rw [topUp_succ, ← HU.out, H1.out]; rfl⟩, hxi⟩
                  case measure => simp [intOf]; omega
                · have H1 := Lib.hid h1; clear h1
                  go_wp2_with fail
                  refine (refDom_any A c rs l b _ B (hA.ext (ext_trans hx hxi)) hl).mono ?_
                  rintro e w7 ⟨rfl, x7⟩
                  replace hxi := ext_trans hxi x7
                  replace c0 := ext_cell x7 c0
                  clear x7
                  cases h2 : ldom (mat rs) l b
                  · have H2 := Lib.hid h2; clear h2
                    go_wp2
                    go_roundw
                    case rel => exact ⟨l + 1, hl2, by go_num, ⟨_, rfl, by show _ = _; rw [topUp_succ, ← HU.out, H1.out, H2.out]; rfl⟩, hxi⟩
                    case measure => simp [intOf]; omega
                  · have H2 := Lib.hid h2; clear h2
                    go_wp2_with fail
                    refine (refDom_any A c rs l k _ B (hA.ext (ext_trans hx hxi)) hl).mono ?_
                    rintro e w8 ⟨rfl, x8⟩
                    replace hxi := ext_trans hxi x8
                    clear x8 c0
                    go_wp2
                    go_roundw
                    case rel => exact ⟨l + 1, hl2, by go_num, ⟨_, rfl, by show _ = _; rw [topUp_succ, ← HU.out, H1.out, H2.out]; rfl⟩, hxi⟩
                    case measure => simp [intOf]; omega
            · obtain rfl : l = N := by omega
              cases t
              · have HD : Hid (ltop (mat rs) a b k = false) := by show _ = _; rw [topUp_all, ← HN.out, ← HU.out]; simp
                go_wp2
                go_roundw
                case rel => exact ⟨k + 1, hlt, by go_num, HT.out.snoc HD.out, hxi⟩
                case measure => simp [intOf]; omega
              · have HJ := Lib.hid (join_some HT.out (by rw [← HN.out]; exact hlt) (by rw [topUp_all, HDA.out, HDB.out, ← HN.out, ← HU.out]; rfl))
                go_wp2
                go_ret2
                exact ⟨ret_join HJ.out, ext_trans hx hxi⟩
    · obtain rfl : k = N := by omega
      have HJ := Lib.hid (join_none (by rw [← HN.out]; exact HT.out))
      go_wp2
      go_ret2
      exact ⟨ret_join HJ.out, ext_trans hx hext⟩
end Go.Proofs.Ytdknkbpgkkakhaa
