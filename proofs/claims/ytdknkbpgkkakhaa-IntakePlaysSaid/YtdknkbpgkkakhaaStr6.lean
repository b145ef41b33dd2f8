/- The reference's stream: Add. -/
import Derived.Test.YtdknkbpgkkakhaaStr4
import Derived.Test.YtdknkbpgkkakhaaStr5
import Derived.Test.YtdknkbpgkkakhaaItem4
namespace Go.Proofs.Ytdknkbpgkkakhaa
open Go.RowKit

set_option maxHeartbeats 2000000 in
theorem refAdd_err {w : World} {B g : Nat} {lev turn : Int} {xs : List Iv} {v : Value} (h : StrAt w B 30 g lev turn xs v) (x : It) (A : Option Addr) (c : Nat) (B' : Nat) (hA : WrsAt w B' A x.ws) (hok : ∀ y ∈ x.ws, y.ok) (hl : x.ws.length ≤ 9223372036854775807)
    (herr : addErr lev turn xs.length x ≠ 0) :
    Calls Try.prog 30 #[.pointer (some ⟨g, 0, none⟩), .agg #[.int .i64 x.level, .int .i64 x.n, .int .i64 x.turn, .bool x.shut, .slice A x.ws.length c]] w
      fun e w' => e = .returned (.int .i64 (addErr lev turn xs.length x)) ∧ Ext w w' := by
  have hgl := h.blk.lt
  have hlen := h.len
  obtain ⟨A0, c0, rfl, -⟩ := h.form
  have hwp : IntKind.i64.wrap ((xs.length : Int) + 1) = (xs.length : Int) + 1 := IntWalk.i64_in _ (by omega)
  cases his : x.is
  · have HE : Hid (addErr lev turn xs.length x = 10) := by show _ = _; simp [addErr, his]
    clear herr h
    go_enter Try.func30, Try.ntmps30
    go_wp2_with fail
    refine (refItemIs_any x A c _ B' (hA.ext (ext_alloc _ _)) hok hl).mono ?_
    rw [his]
    rintro e w1 ⟨rfl, hext⟩
    go_wp2
    go_ret
    exact ⟨ret_int HE.out.symm, ext_trans (ext_alloc _ _) hext⟩
  · go_enter Try.func30, Try.ntmps30
    go_wp2_with fail
    refine (refItemIs_any x A c _ B' (hA.ext (ext_alloc _ _)) hok hl).mono ?_
    rw [his]
    rintro e w1 ⟨rfl, hext⟩
    have b0 : Blk w1 w.heap.size 33 #[.int .i64 x.level, .int .i64 x.n, .int .i64 x.turn, .bool x.shut, .slice A x.ws.length c] := (Blk.new _ _ _).ext hext
    have hs := (h.ext (ext_alloc w (boxIt x A c))).ext hext
    have p0 := b0.cell 0
    have p1 := b0.cell 1
    have p2 := b0.cell 2
    have q0 := hs.blk.cell 0
    have q1 := hs.blk.cell 1
    have q2 := hs.blk.cell 2
    simp only [List.getElem?_toArray, List.getElem?_cons_zero, List.getElem?_cons_succ] at p0 p1 p2 q0 q1 q2
    have hw1 : Ext w w1 := ext_trans (ext_alloc _ _) hext
    clear h hs b0 hext hA hok
    by_cases h1 : x.level = lev
    · have b1 : (x.level != lev) = false := by simp [h1]
      have H1 := Lib.hid h1; clear h1
      by_cases h2 : x.n = (xs.length : Int) + 1
      · have b2 : (x.n != (xs.length : Int) + 1) = false := by simp [h2]
        have H2 := Lib.hid h2; clear h2
        have h3 : x.turn ≠ turn := fun e => herr (by simp [addErr, his, H1.out, H2.out, e])
        have b3 : (x.turn != turn) = true := by simpa using h3
        have HE : Hid (addErr lev turn xs.length x = 22) := by show _ = _; simp [addErr, his, H1.out, H2.out, h3]
        clear herr h3
        go_wp2
        go_quiet (fail)
        go_wp2
        go_quiet (fail)
        go_wp2
        go_quiet (fail)
        go_wp2
        go_ret
        exact ⟨ret_int HE.out.symm, ext_trans hw1 (ext_trans (ext_drewN _ _) (ext_trans (ext_drewN _ _) (ext_drewN _ _)))⟩
      · have b2 : (x.n != (xs.length : Int) + 1) = true := by simpa using h2
        have HE : Hid (addErr lev turn xs.length x = 23) := by show _ = _; simp [addErr, his, H1.out, h2]
        clear herr h2
        go_wp2
        go_quiet (fail)
        go_wp2
        go_quiet (fail)
        go_wp2
        go_ret
        exact ⟨ret_int HE.out.symm, ext_trans hw1 (ext_trans (ext_drewN _ _) (ext_drewN _ _))⟩
    · have b1 : (x.level != lev) = true := by simpa using h1
      have HE : Hid (addErr lev turn xs.length x = 20) := by show _ = _; simp [addErr, his, h1]
      clear herr h1
      go_wp2
      go_quiet (fail)
      go_wp2
      go_ret
      exact ⟨ret_int HE.out.symm, ext_trans hw1 (ext_drewN _ _)⟩

set_option maxHeartbeats 2000000 in
theorem refAdd_ok {w : World} {B g : Nat} {lev turn : Int} {xs : List Iv} {v : Value} (h : StrAt w B 30 g lev turn xs v) (x : It) (A : Option Addr) (c : Nat) (hA : WrsAt w B A x.ws) (hok : ∀ y ∈ x.ws, y.ok) (hl : x.ws.length * 40 ≤ 140737488351232)
    (herr : addErr lev turn xs.length x = 0) :
    Calls Try.prog 30 #[.pointer (some ⟨g, 0, none⟩), .agg #[.int .i64 x.level, .int .i64 x.n, .int .i64 x.turn, .bool x.shut, .slice A x.ws.length c]] w
      (AddPost w B 30 g lev turn xs v x) := by
  obtain ⟨his, h1, h2, h3⟩ : x.is = true ∧ x.level = lev ∧ x.n = (xs.length : Int) + 1 ∧ x.turn = turn := by
    unfold addErr at herr
    by_cases h0 : x.is = true
    · by_cases h1 : x.level = lev
      · by_cases h2 : x.n = (xs.length : Int) + 1
        · by_cases h3 : x.turn = turn
          · exact ⟨h0, h1, h2, h3⟩
          · rw [if_pos h0, if_pos h1, if_pos h2, if_neg h3] at herr; omega
        · rw [if_pos h0, if_pos h1, if_neg h2] at herr; omega
      · rw [if_pos h0, if_neg h1] at herr; omega
    · rw [if_neg h0] at herr; omega
  have hn6 : (xs.length : Int) + 1 ≤ 1000000 ∧ 0 ≤ turn ∧ turn ≤ 1000000 := by
    have h4 := his
    simp only [It.is, betw, Bool.and_eq_true, decide_eq_true_eq] at h4
    rw [h2, h3] at h4
    exact ⟨h4.1.1.2.2, h4.1.2.1, h4.1.2.2⟩
  obtain ⟨hn7, ht0, ht1⟩ := hn6
  have hgl := h.blk.lt
  have hlen := h.len
  obtain ⟨A0, c0, rfl, -⟩ := h.form
  have hwp : IntKind.i64.wrap ((xs.length : Int) + 1) = (xs.length : Int) + 1 := IntWalk.i64_in _ (by omega)
  have b1 : (x.level != lev) = false := by simp [h1]
  have b2 : (x.n != (xs.length : Int) + 1) = false := by simp [h2]
  have b3 : (x.turn != turn) = false := by simp [h3]
  clear h1 h2 h3 herr
  go_enter Try.func30, Try.ntmps30
  go_wp2_with fail
  refine (refItemIs_any x A c _ B (hA.ext (ext_alloc _ _)) hok (by omega)).mono ?_
  rw [his]
  rintro e w1 ⟨rfl, hext⟩
  have b0 : Blk w1 w.heap.size 33 #[.int .i64 x.level, .int .i64 x.n, .int .i64 x.turn, .bool x.shut, .slice A x.ws.length c] := (Blk.new _ _ _).ext hext
  have hs := (h.ext (ext_alloc w (boxIt x A c))).ext hext
  have p0 := b0.cell 0
  have p1 := b0.cell 1
  have p2 := b0.cell 2
  have q0 := hs.blk.cell 0
  have q1 := hs.blk.cell 1
  have q2 := hs.blk.cell 2
  simp only [List.getElem?_toArray, List.getElem?_cons_zero, List.getElem?_cons_succ] at p0 p1 p2 q0 q1 q2
  have hw1 : Ext w w1 := ext_trans (ext_alloc _ _) hext
  have hz0 := b0.lt
  go_wp2
  go_quiet (fail)
  revert nq; intro n1
  go_wp2
  go_quiet (fail)
  revert nq; intro n2
  go_wp2
  go_quiet (fail)
  revert nq; intro n3
  go_wp2
  have hW : Ext w1 (((w1.drewN n1).drewN n2).drewN n3) := ext_trans (ext_drewN _ _) (ext_trans (ext_drewN _ _) (ext_drewN _ _))
  generalize ((w1.drewN n1).drewN n2).drewN n3 = W at hW ⊢
  replace b0 := b0.ext hW
  replace hs := hs.ext hW
  replace hw1 := ext_trans hw1 hW
  replace hA := hA.ext hw1
  clear p0 p1 p2 q0 q1 q2 b1 b2 b3 hwp hW hext h
  have hz0 := b0.lt
  have hzg := hs.blk.lt
  have p0 := b0.cell 0
  have p1 := b0.cell 1
  have p2 := b0.cell 2
  have p3 := b0.cell 3
  have p4 := b0.cell 4
  have q2 := hs.blk.cell 2
  simp only [List.getElem?_toArray, List.getElem?_cons_zero, List.getElem?_cons_succ] at p0 p1 p2 p3 p4 q2
  have x0 := fun x (hx : Ext W x) => ext_cell hx p0
  have x1 := fun x (hx : Ext W x) => ext_cell hx p1
  have x2 := fun x (hx : Ext W x) => ext_cell hx p2
  have x3 := fun x (hx : Ext W x) => ext_cell hx p3
  have x4 := fun x (hx : Ext W x) => ext_cell hx p4
  have y2 := fun x (hx : Ext W x) => ext_cell hx q2
  have hR0 : RowsIv W B A0 xs := by
    obtain ⟨A1, c1, e1, hR⟩ := hs.form
    injection e1 with e1 e2 e3
    subst e1
    exact hR
  clear p0 p1 p2 p3 p4 q2
  refine wp_region_plan (.reads 0 (.reads 1 (.reads 2 (.reads 3 (.reads 4 (.reads 6 (.fork 5 (.makes 7 (.makes 8 (.reads 9 (.reads 10 (.turns 11 (.done)))))) 7 (.makes 5 (.makes 8 (.reads 9 (.reads 10 (.turns 11 (.done))))))))))))) (by kernel_rfl) (by kernel_rfl) (fun x => Ext W x) (ext_drewN W 1) ?_
  iterate 6 (refine seg_take0 ⟨_, _, _, _, _, _⟩ _ rfl rfl (fun x hx => by go_simp; try with_reducible rfl) (fun _ _ _ h => h) ?_; simp only [Act.put, List.setIfInBounds_toArray, List.set_cons_zero, List.set_cons_succ])
  refine seg_fork ⟨_, _, _, _, _, _⟩ ⟨_, _, _, _, _, _⟩ rfl rfl (fun K hK => ?_) (fun K hK => ?_)
  · refine step_append elIv rfl _ _ rfl W.heap.size (.slice none 0 0) [] rfl (Own.nil _ _) A0 c0 xs rfl B (hR0.ext (ext_drewN W 1)) (by show _ * 56 ≤ _; simp; omega) (by simp; omega) (by simp) ?_
    intro A5 c5 w5 hown5 hg5 hat5
    have h5 : Ext W w5 := ext_trans (ext_drewN W 1) ((Below.refl _ _).grown hg5 (Nat.le_refl _) (by intro k hk; cases hk))
    refine hK _ _ (fun x => Ext W x) (h5) (fun x hx => hx) ?_
    clear hK
    simp only [Act.put, List.setIfInBounds_toArray, List.set_cons_zero, List.set_cons_succ]
    refine seg_makes ⟨_, _, _, _, _, _⟩ rfl (fun K hK => ?_)
    go_simp
    have h6 : Ext W (w5.alloc (.cells (Iv.cells ⟨x, A, c⟩).toArray 33)) := ext_trans h5 (ext_alloc _ _)
    refine hK _ _ (fun x => Ext W x) (h6) (fun x hx => hx) ?_
    clear hK
    refine seg_makes ⟨_, _, _, _, _, _⟩ rfl (fun K hK => ?_)
    have HB := rows_block (E := elIv) (B := B) (⟨x, A, c⟩ : Iv) (Blk.new w5 33 (Iv.cells ⟨x, A, c⟩).toArray)
    have HO : Own elIv (w5.alloc (.cells (Iv.cells ⟨x, A, c⟩).toArray 33)) W.heap.size (.slice A5 xs.length c5) xs := by simpa using Own.ext hown5 (ext_alloc w5 (.cells (Iv.cells ⟨x, A, c⟩).toArray 33))
    refine step_append elIv rfl _ _ rfl W.heap.size (.slice A5 xs.length c5) xs rfl HO _ 1 [(⟨x, A, c⟩ : Iv)] rfl B HB (by show _ * 56 ≤ _; simp; omega) (by simp; omega) h6.size ?_
    intro A2 c2 w3 hown3 hg3 hat3
    have hx3 : Ext W w3 := h6.grown hg3 h6.size (fun k hk => (HO.typed hk).1)
    refine hK _ _ (fun x => Ext W x) (hx3) (fun x hx => hx) ?_
    clear hK
    simp only [Act.put, List.setIfInBounds_toArray, List.set_cons_zero, List.set_cons_succ]
    iterate 2 (refine seg_take0 ⟨_, _, _, _, _, _⟩ _ rfl rfl (fun x hx => by go_simp; try with_reducible rfl) (fun _ _ _ h => h) ?_; simp only [Act.put, List.setIfInBounds_toArray, List.set_cons_zero, List.set_cons_succ])
    refine seg_turns ⟨_, _, _, _, _, _⟩ rfl (fun K hK => ?_)
    clear HB HO hown5 hg5 hat5 h5 h6 hg3 hat3
    have hs3 := hs.ext hx3
    have g3 := hs3.blk
    have b3 := b0.ext hx3
    have hwx3 := ext_trans hw1 hx3
    have hokx : ∀ z ∈ xs ++ [(⟨x, A, c⟩ : Iv)], IvOk w3 B z := by
      intro z hz
      rcases List.mem_append.1 hz with hz | hz
      · exact hs3.ok z hz
      · have e1 : z = ⟨x, A, c⟩ := by simpa using hz
        subst e1
        exact ⟨RowsAt.ext hA hx3, hok, hl⟩
    have hnew : ∀ b, (Value.slice A2 (xs ++ [(⟨x, A, c⟩ : Iv)]).length c2).ownBlock = some b → w.heap.size ≤ b := fun b hb => by
      have h9 := (hown3.typed hb).1
      have h8 := hw1.size
      omega
    have hbase := hs.base
    have hown3' : Own elIv w3 B (.slice A2 (xs ++ [(⟨x, A, c⟩ : Iv)]).length c2) (xs ++ [(⟨x, A, c⟩ : Iv)]) := hown3.le (by have := hw1.size; omega)
    have hng2 : ∀ b, (Value.slice A2 (xs ++ [(⟨x, A, c⟩ : Iv)]).length c2).ownBlock = some b → b ≠ g := fun b hb e => by
      subst e
      have := hnew _ hb
      omega
    have p3 := b3.cell 3
    have q1 := g3.cell 1
    have q2 := g3.cell 2
    have f3 := g3.frozen
    simp only [List.getElem?_toArray, List.getElem?_cons_zero, List.getElem?_cons_succ] at p3 q1 q2
    have hgz : g ≠ w.heap.size := by omega
    have hmt : Mods (fun k => k = g ∨ RowOf (.slice A0 xs.length c0) k) w w3 := Mods.of_below hwx3 _
    have hwt1 : IntKind.i64.wrap (turn + 1) = turn + 1 := IntWalk.i64_in _ (by omega)
    have hwt2 : wrap64 (turn + 1) = turn + 1 := IntWalk.wrap64_in _ (by omega)
    have HALL := Lib.hid (And.intro g3 (And.intro hown3' (And.intro hokx (And.intro hmt (And.intro hnew (And.intro hng2 hn7))))))
    clear b0 hs hs3 x0 x1 x2 x3 x4 y2 hA hw1 hx3 hwx3 hz0 hzg g3 b3 hown3 hown3' hokx hmt hnew hng2 hok hn7 ht0 ht1 hl hlen hR0
    go_simp
    refine hK _ _ (fun _ => True) trivial ?_
    clear hK
    refine seg_done ?_
    cases hsh : x.shut
    · go_wp2
      go_ret
      obtain ⟨g3, hown3, hokx, hmt, hnew, hng2, hn7⟩ := HALL.out
      refine ⟨⟨x, A, c⟩, _, rfl, rfl, ⟨?_, hbase, own_mods hown3 (mods_setCell _ _ _) (fun b hb => hng2 b hb), fun z hz => (hokx z hz).keeps (T := [30]) (keeps_set g3 hbase 2 _) (by decide), ?_⟩, hmt.trans (mods_setCell _ _ _) (fun k _ hk => .inl hk), .inr hnew⟩
      · rw [hsh]; simpa using g3.set_ 2 (.slice A2 (xs ++ [(⟨x, A, c⟩ : Iv)]).length c2)
      · simp; omega
    · go_wp2
      go_ret
      obtain ⟨g3, hown3, hokx, hmt, hnew, hng2, hn7⟩ := HALL.out
      have g4 : Blk (w3.setCell ⟨g, 2, none⟩ (.slice A2 (xs.length + 1) c2)) g 30 #[.int .i64 lev, .int .i64 turn, .slice A2 (xs.length + 1) c2] := by simpa using g3.set_ 2 (.slice A2 (xs.length + 1) c2)
      refine ⟨⟨x, A, c⟩, _, rfl, rfl, ⟨?_, hbase, own_mods (own_mods hown3 (mods_setCell _ _ _) (fun b hb => hng2 b hb)) (mods_setCell _ _ _) (fun b hb => hng2 b hb), fun z hz => ((hokx z hz).keeps (T := [30]) (keeps_set g3 hbase 2 _) (by decide)).keeps (T := [30]) (keeps_set g4 hbase 1 _) (by decide), ?_⟩, (hmt.trans (mods_setCell _ _ _) (fun k _ hk => .inl hk)).trans (mods_setCell _ _ _) (fun k _ hk => .inl hk), .inr hnew⟩
      · rw [hsh]; simpa using g4.set_ 1 (.int .i64 (turn + 1))
      · simp; omega
  · go_simp
    have h6 : Ext W (W.alloc (.cells (Iv.cells ⟨x, A, c⟩).toArray 33)).drew := ext_trans (ext_alloc _ _) (ext_drewN _ 1)
    refine hK _ _ (fun x => Ext W x) (h6) (fun x hx => hx) ?_
    clear hK
    refine seg_makes ⟨_, _, _, _, _, _⟩ rfl (fun K hK => ?_)
    refine step_append elIv rfl _ _ rfl W.heap.size (.slice none 0 0) [] rfl (Own.nil _ _) A0 c0 xs rfl B (hR0.ext h6) (by show _ * 56 ≤ _; simp; omega) (by simp; omega) h6.size ?_
    intro A5 c5 w5 hown5 hg5 hat5
    have h65 : Ext (W.alloc (.cells (Iv.cells ⟨x, A, c⟩).toArray 33)).drew w5 := (Below.refl _ _).grown hg5 (Nat.le_refl _) (by intro k hk; cases hk)
    have h5 : Ext W w5 := ext_trans h6 h65
    refine hK _ _ (fun x => Ext W x) (h5) (fun x hx => hx) ?_
    clear hK
    simp only [Act.put, List.setIfInBounds_toArray, List.set_cons_zero, List.set_cons_succ]
    refine seg_makes ⟨_, _, _, _, _, _⟩ rfl (fun K hK => ?_)
    have HB := rows_block (E := elIv) (B := B) (⟨x, A, c⟩ : Iv) (ext_block h65 (Blk.new W 33 (Iv.cells ⟨x, A, c⟩).toArray))
    have HO : Own elIv w5 W.heap.size (.slice A5 xs.length c5) xs := by simpa using hown5
    refine step_append elIv rfl _ _ rfl W.heap.size (.slice A5 xs.length c5) xs rfl HO _ 1 [(⟨x, A, c⟩ : Iv)] rfl B HB (by show _ * 56 ≤ _; simp; omega) (by simp; omega) h5.size ?_
    intro A2 c2 w3 hown3 hg3 hat3
    have hx3 : Ext W w3 := h5.grown hg3 h5.size (fun k hk => (HO.typed hk).1)
    refine hK _ _ (fun x => Ext W x) (hx3) (fun x hx => hx) ?_
    clear hK
    simp only [Act.put, List.setIfInBounds_toArray, List.set_cons_zero, List.set_cons_succ]
    iterate 2 (refine seg_take0 ⟨_, _, _, _, _, _⟩ _ rfl rfl (fun x hx => by go_simp; try with_reducible rfl) (fun _ _ _ h => h) ?_; simp only [Act.put, List.setIfInBounds_toArray, List.set_cons_zero, List.set_cons_succ])
    refine seg_turns ⟨_, _, _, _, _, _⟩ rfl (fun K hK => ?_)
    clear HB HO hown5 hg5 hat5 h5 h6 h65 hg3 hat3
    have hs3 := hs.ext hx3
    have g3 := hs3.blk
    have b3 := b0.ext hx3
    have hwx3 := ext_trans hw1 hx3
    have hokx : ∀ z ∈ xs ++ [(⟨x, A, c⟩ : Iv)], IvOk w3 B z := by
      intro z hz
      rcases List.mem_append.1 hz with hz | hz
      · exact hs3.ok z hz
      · have e1 : z = ⟨x, A, c⟩ := by simpa using hz
        subst e1
        exact ⟨RowsAt.ext hA hx3, hok, hl⟩
    have hnew : ∀ b, (Value.slice A2 (xs ++ [(⟨x, A, c⟩ : Iv)]).length c2).ownBlock = some b → w.heap.size ≤ b := fun b hb => by
      have h9 := (hown3.typed hb).1
      have h8 := hw1.size
      omega
    have hbase := hs.base
    have hown3' : Own elIv w3 B (.slice A2 (xs ++ [(⟨x, A, c⟩ : Iv)]).length c2) (xs ++ [(⟨x, A, c⟩ : Iv)]) := hown3.le (by have := hw1.size; omega)
    have hng2 : ∀ b, (Value.slice A2 (xs ++ [(⟨x, A, c⟩ : Iv)]).length c2).ownBlock = some b → b ≠ g := fun b hb e => by
      subst e
      have := hnew _ hb
      omega
    have p3 := b3.cell 3
    have q1 := g3.cell 1
    have q2 := g3.cell 2
    have f3 := g3.frozen
    simp only [List.getElem?_toArray, List.getElem?_cons_zero, List.getElem?_cons_succ] at p3 q1 q2
    have hgz : g ≠ w.heap.size := by omega
    have hmt : Mods (fun k => k = g ∨ RowOf (.slice A0 xs.length c0) k) w w3 := Mods.of_below hwx3 _
    have hwt1 : IntKind.i64.wrap (turn + 1) = turn + 1 := IntWalk.i64_in _ (by omega)
    have hwt2 : wrap64 (turn + 1) = turn + 1 := IntWalk.wrap64_in _ (by omega)
    have HALL := Lib.hid (And.intro g3 (And.intro hown3' (And.intro hokx (And.intro hmt (And.intro hnew (And.intro hng2 hn7))))))
    clear b0 hs hs3 x0 x1 x2 x3 x4 y2 hA hw1 hx3 hwx3 hz0 hzg g3 b3 hown3 hown3' hokx hmt hnew hng2 hok hn7 ht0 ht1 hl hlen hR0
    go_simp
    refine hK _ _ (fun _ => True) trivial ?_
    clear hK
    refine seg_done ?_
    cases hsh : x.shut
    · go_wp2
      go_ret
      obtain ⟨g3, hown3, hokx, hmt, hnew, hng2, hn7⟩ := HALL.out
      refine ⟨⟨x, A, c⟩, _, rfl, rfl, ⟨?_, hbase, own_mods hown3 (mods_setCell _ _ _) (fun b hb => hng2 b hb), fun z hz => (hokx z hz).keeps (T := [30]) (keeps_set g3 hbase 2 _) (by decide), ?_⟩, hmt.trans (mods_setCell _ _ _) (fun k _ hk => .inl hk), .inr hnew⟩
      · rw [hsh]; simpa using g3.set_ 2 (.slice A2 (xs ++ [(⟨x, A, c⟩ : Iv)]).length c2)
      · simp; omega
    · go_wp2
      go_ret
      obtain ⟨g3, hown3, hokx, hmt, hnew, hng2, hn7⟩ := HALL.out
      have g4 : Blk (w3.setCell ⟨g, 2, none⟩ (.slice A2 (xs.length + 1) c2)) g 30 #[.int .i64 lev, .int .i64 turn, .slice A2 (xs.length + 1) c2] := by simpa using g3.set_ 2 (.slice A2 (xs.length + 1) c2)
      refine ⟨⟨x, A, c⟩, _, rfl, rfl, ⟨?_, hbase, own_mods (own_mods hown3 (mods_setCell _ _ _) (fun b hb => hng2 b hb)) (mods_setCell _ _ _) (fun b hb => hng2 b hb), fun z hz => ((hokx z hz).keeps (T := [30]) (keeps_set g3 hbase 2 _) (by decide)).keeps (T := [30]) (keeps_set g4 hbase 1 _) (by decide), ?_⟩, (hmt.trans (mods_setCell _ _ _) (fun k _ hk => .inl hk)).trans (mods_setCell _ _ _) (fun k _ hk => .inl hk), .inr hnew⟩
      · rw [hsh]; simpa using g4.set_ 1 (.int .i64 (turn + 1))
      · simp; omega
end Go.Proofs.Ytdknkbpgkkakhaa
