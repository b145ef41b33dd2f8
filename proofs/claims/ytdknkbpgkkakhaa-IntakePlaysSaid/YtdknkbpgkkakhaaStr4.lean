/- stream.Stream's Add. -/
import Derived.Test.YtdknkbpgkkakhaaStr2
import Derived.Test.YtdknkbpgkkakhaaApp
namespace Go.Proofs.Ytdknkbpgkkakhaa
open Go.RowKit

/-- The block of a slice's own row. -/
def RowOf (v : Value) : Nat → Prop := fun k => v.ownBlock = some k
theorem keeps_set {w : World} {B g : Nat} {t : TypeId} {cs : Array Value} (hb : Blk w g t cs) (hB : B ≤ g) (i : Nat) (u : Value) : Keeps B [t] w (w.setCell ⟨g, i, none⟩ u) :=
  Keeps.of_mods (mods_setCell w ⟨g, i, none⟩ u) fun k hk => by
    subst hk
    refine ⟨hB, fun cs' t' fr hk => ?_⟩
    unfold Blk at hb
    rw [hb] at hk
    injection hk with hk
    injection hk with _ hk
    simp [hk]
theorem cell_mods {S : Nat → Prop} {W x : World} {b i : Nat} {u : Value} (hx : Mods S W x) (hb : b < W.heap.size) (hS : ¬ S b) (h : W.cell? ⟨b, i, none⟩ = some u) : x.cell? ⟨b, i, none⟩ = some u :=
  (World.cell?_of_block (w := W) (a := ⟨b, i, none⟩) (hx.block b hb hS)).trans h

def addErr (lev turn : Int) (n : Nat) (x : It) : Int := if x.is then (if x.level = lev then (if x.n = (n : Int) + 1 then (if x.turn = turn then 0 else 22) else 23) else 20) else 10

/-- What an item's argument box holds. -/
abbrev boxIt (x : It) (A : Option Addr) (c : Nat) : Obj := .cells #[.int .i64 x.level, .int .i64 x.n, .int .i64 x.turn, .bool x.shut, .slice A x.ws.length c] 33

set_option maxHeartbeats 2000000 in
theorem strAdd_err {w : World} {B g : Nat} {lev turn : Int} {xs : List Iv} {v : Value} (h : StrAt w B 121 g lev turn xs v) (x : It) (A : Option Addr) (c : Nat) (B' : Nat) (hA : WrsAt w B' A x.ws) (hok : ∀ y ∈ x.ws, y.ok) (hl : x.ws.length ≤ 9223372036854775807)
    (herr : addErr lev turn xs.length x ≠ 0) :
    Calls Try.prog 28 #[.pointer (some ⟨g, 0, none⟩), .agg #[.int .i64 x.level, .int .i64 x.n, .int .i64 x.turn, .bool x.shut, .slice A x.ws.length c]] w
      fun e w' => e = .returned (.int .i64 (addErr lev turn xs.length x)) ∧ Ext w w' := by
  have hgl := h.blk.lt
  have hlen := h.len
  obtain ⟨A0, c0, rfl, -⟩ := h.form
  have hwp : IntKind.i64.wrap ((xs.length : Int) + 1) = (xs.length : Int) + 1 := IntWalk.i64_in _ (by omega)
  cases his : x.is
  · have HE : Hid (addErr lev turn xs.length x = 10) := by show _ = _; simp [addErr, his]
    clear herr h
    go_enter Try.func28, Try.ntmps28
    go_wp2_with fail
    refine (itemIs_any x A c _ B' (hA.ext (ext_alloc _ _)) hok hl).mono ?_
    rw [his]
    rintro e w1 ⟨rfl, hext⟩
    go_wp2
    go_ret
    exact ⟨ret_int HE.out.symm, ext_trans (ext_alloc _ _) hext⟩
  · go_enter Try.func28, Try.ntmps28
    go_wp2_with fail
    refine (itemIs_any x A c _ B' (hA.ext (ext_alloc _ _)) hok hl).mono ?_
    rw [his]
    rintro e w1 ⟨rfl, hext⟩
    have b0 : Blk w1 w.heap.size 33 #[.int .i64 x.level, .int .i64 x.n, .int .i64 x.turn, .bool x.shut, .slice A x.ws.length c] := (Blk.new _ _ _).ext hext
    have hs := (h.ext (ext_alloc w (boxIt x A c))).ext hext
    have p0 := b0.cell 0
    have p1 := b0.cell 1
    have p2 := b0.cell 2
    have q0 := hs.blk.cell 0
    have q1 := hs.blk.cell 1
    have q2 := hs.blk.cell 2
    simp only [List.getElem?_toArray, List.getElem?_cons_zero, List.getElem?_cons_succ] at p0 p1 p2 q0 q1 q2
    have hw1 : Ext w w1 := ext_trans (ext_alloc _ _) hext
    clear h hs b0 hext hA hok
    by_cases h1 : x.level = lev
    · have b1 : (x.level != lev) = false := by simp [h1]
      have H1 := Lib.hid h1; clear h1
      by_cases h2 : x.n = (xs.length : Int) + 1
      · have b2 : (x.n != (xs.length : Int) + 1) = false := by simp [h2]
        have H2 := Lib.hid h2; clear h2
        have h3 : x.turn ≠ turn := fun e => herr (by simp [addErr, his, H1.out, H2.out, e])
        have b3 : (x.turn != turn) = true := by simpa using h3
        have HE : Hid (addErr lev turn xs.length x = 22) := by show _ = _; simp [addErr, his, H1.out, H2.out, h3]
        clear herr h3
        go_wp2
        go_quiet (fail)
        go_wp2
        go_quiet (fail)
        go_wp2
        go_quiet (fail)
        go_wp2
        go_ret
        exact ⟨ret_int HE.out.symm, ext_trans hw1 (ext_trans (ext_drewN _ _) (ext_trans (ext_drewN _ _) (ext_drewN _ _)))⟩
      · have b2 : (x.n != (xs.length : Int) + 1) = true := by simpa using h2
        have HE : Hid (addErr lev turn xs.length x = 23) := by show _ = _; simp [addErr, his, H1.out, h2]
        clear herr h2
        go_wp2
        go_quiet (fail)
        go_wp2
        go_quiet (fail)
        go_wp2
        go_ret
        exact ⟨ret_int HE.out.symm, ext_trans hw1 (ext_trans (ext_drewN _ _) (ext_drewN _ _))⟩
    · have b1 : (x.level != lev) = true := by simpa using h1
      have HE : Hid (addErr lev turn xs.length x = 20) := by show _ = _; simp [addErr, his, h1]
      clear herr h1
      go_wp2
      go_quiet (fail)
      go_wp2
      go_ret
      exact ⟨ret_int HE.out.symm, ext_trans hw1 (ext_drewN _ _)⟩

def AddPost (w : World) (B : Nat) (T : TypeId) (g : Nat) (lev turn : Int) (xs : List Iv) (v : Value) (x : It) (e : Ending) (w' : World) : Prop :=
  ∃ x' v', e = .returned (.int .i64 0) ∧ x'.it = x ∧ StrAt w' B T g lev (if x.shut then turn + 1 else turn) (xs ++ [x']) v' ∧ Mods (fun k => k = g ∨ RowOf v k) w w' ∧ (v'.ownBlock = v.ownBlock ∨ ∀ b, v'.ownBlock = some b → w.heap.size ≤ b)

set_option maxHeartbeats 2000000 in
theorem strAdd_ok {w : World} {B g : Nat} {lev turn : Int} {xs : List Iv} {v : Value} (h : StrAt w B 121 g lev turn xs v) (x : It) (A : Option Addr) (c : Nat) (hA : WrsAt w B A x.ws) (hok : ∀ y ∈ x.ws, y.ok) (hl : x.ws.length * 40 ≤ 140737488351232)
    (herr : addErr lev turn xs.length x = 0) :
    Calls Try.prog 28 #[.pointer (some ⟨g, 0, none⟩), .agg #[.int .i64 x.level, .int .i64 x.n, .int .i64 x.turn, .bool x.shut, .slice A x.ws.length c]] w
      (AddPost w B 121 g lev turn xs v x) := by
  obtain ⟨his, h1, h2, h3⟩ : x.is = true ∧ x.level = lev ∧ x.n = (xs.length : Int) + 1 ∧ x.turn = turn := by
    unfold addErr at herr
    by_cases h0 : x.is = true
    · by_cases h1 : x.level = lev
      · by_cases h2 : x.n = (xs.length : Int) + 1
        · by_cases h3 : x.turn = turn
          · exact ⟨h0, h1, h2, h3⟩
          · rw [if_pos h0, if_pos h1, if_pos h2, if_neg h3] at herr; omega
        · rw [if_pos h0, if_pos h1, if_neg h2] at herr; omega
      · rw [if_pos h0, if_neg h1] at herr; omega
    · rw [if_neg h0] at herr; omega
  have hn6 : (xs.length : Int) + 1 ≤ 1000000 ∧ 0 ≤ turn ∧ turn ≤ 1000000 := by
    have h4 := his
    simp only [It.is, betw, Bool.and_eq_true, decide_eq_true_eq] at h4
    rw [h2, h3] at h4
    exact ⟨h4.1.1.2.2, h4.1.2.1, h4.1.2.2⟩
  obtain ⟨hn7, ht0, ht1⟩ := hn6
  have hgl := h.blk.lt
  have hlen := h.len
  obtain ⟨A0, c0, rfl, -⟩ := h.form
  have hown0 := h.own
  have hwp : IntKind.i64.wrap ((xs.length : Int) + 1) = (xs.length : Int) + 1 := IntWalk.i64_in _ (by omega)
  have b1 : (x.level != lev) = false := by simp [h1]
  have b2 : (x.n != (xs.length : Int) + 1) = false := by simp [h2]
  have b3 : (x.turn != turn) = false := by simp [h3]
  clear h1 h2 h3 herr
  go_enter Try.func28, Try.ntmps28
  go_wp2_with fail
  refine (itemIs_any x A c _ B (hA.ext (ext_alloc _ _)) hok (by omega)).mono ?_
  rw [his]
  rintro e w1 ⟨rfl, hext⟩
  have b0 : Blk w1 w.heap.size 33 #[.int .i64 x.level, .int .i64 x.n, .int .i64 x.turn, .bool x.shut, .slice A x.ws.length c] := (Blk.new _ _ _).ext hext
  have hs := (h.ext (ext_alloc w (boxIt x A c))).ext hext
  have p0 := b0.cell 0
  have p1 := b0.cell 1
  have p2 := b0.cell 2
  have q0 := hs.blk.cell 0
  have q1 := hs.blk.cell 1
  have q2 := hs.blk.cell 2
  simp only [List.getElem?_toArray, List.getElem?_cons_zero, List.getElem?_cons_succ] at p0 p1 p2 q0 q1 q2
  have hw1 : Ext w w1 := ext_trans (ext_alloc _ _) hext
  have hz0 := b0.lt
  go_wp2
  go_quiet (fail)
  revert nq; intro n1
  go_wp2
  go_quiet (fail)
  revert nq; intro n2
  go_wp2
  go_quiet (fail)
  revert nq; intro n3
  go_wp2
  have hW : Ext w1 (((w1.drewN n1).drewN n2).drewN n3) := ext_trans (ext_drewN _ _) (ext_trans (ext_drewN _ _) (ext_drewN _ _))
  generalize ((w1.drewN n1).drewN n2).drewN n3 = W at hW ⊢
  replace b0 := b0.ext hW
  replace hs := hs.ext hW
  replace hw1 := ext_trans hw1 hW
  replace hA := hA.ext hw1
  clear p0 p1 p2 q0 q1 q2 b1 b2 b3 hwp hW hext h
  have hz0 := b0.lt
  have hzg := hs.blk.lt
  have p0 := b0.cell 0
  have p1 := b0.cell 1
  have p2 := b0.cell 2
  have p3 := b0.cell 3
  have p4 := b0.cell 4
  have q2 := hs.blk.cell 2
  simp only [List.getElem?_toArray, List.getElem?_cons_zero, List.getElem?_cons_succ] at p0 p1 p2 p3 p4 q2
  have hne0 : ¬ RowOf (.slice A0 xs.length c0) w.heap.size := fun e => by have := (World.ownsRow.lt hown0 _ e).2; omega
  have hneg : ¬ RowOf (.slice A0 xs.length c0) g := hs.blk.ne_own hs.own (by decide)
  have x0 := fun x (hx : Mods (RowOf (.slice A0 xs.length c0)) W x) => cell_mods hx hz0 hne0 p0
  have x1 := fun x (hx : Mods (RowOf (.slice A0 xs.length c0)) W x) => cell_mods hx hz0 hne0 p1
  have x2 := fun x (hx : Mods (RowOf (.slice A0 xs.length c0)) W x) => cell_mods hx hz0 hne0 p2
  have x3 := fun x (hx : Mods (RowOf (.slice A0 xs.length c0)) W x) => cell_mods hx hz0 hne0 p3
  have x4 := fun x (hx : Mods (RowOf (.slice A0 xs.length c0)) W x) => cell_mods hx hz0 hne0 p4
  have y2 := fun x (hx : Mods (RowOf (.slice A0 xs.length c0)) W x) => cell_mods hx hzg hneg q2
  clear p0 p1 p2 p3 p4 q2
  refine wp_region_plan (.reads 0 (.reads 1 (.reads 2 (.reads 3 (.reads 4 (.reads 5 (.makes 6 (.makes 7 (.makes 8 (.reads 9 (.reads 10 (.turns 11 (.done))))))))))))) (by kernel_rfl) (by kernel_rfl) (fun x => Mods (RowOf (.slice A0 xs.length c0)) W x) (Mods.of_below (ext_drewN W 1) _) ?_
  iterate 6 (refine seg_take0 ⟨_, _, _, _, _, _⟩ _ rfl rfl (fun x hx => by go_simp; try with_reducible rfl) (fun _ _ _ h => h) ?_; simp only [Act.put, List.setIfInBounds_toArray, List.set_cons_zero, List.set_cons_succ])
  refine seg_makes ⟨_, _, _, _, _, _⟩ rfl (fun K hK => ?_)
  go_simp
  refine (itemCopy_any x A c _ B (hA.ext (ext_drewN W 1)) hl).mono ?_
  rintro e w2 ⟨A', c', rfl, hW2, hext2⟩
  have hx2 : Ext W w2 := ext_trans (ext_drewN W 1) hext2
  refine hK _ _ (fun x => Mods (RowOf (.slice A0 xs.length c0)) w2 x) (Mods.refl _ _) (fun x hx => (Mods.of_below hx2 _).trans hx (fun _ _ h => h)) ?_
  clear hK
  refine seg_makes ⟨_, _, _, _, _, _⟩ rfl (fun K hK => ?_)
  go_simp
  have hx2' : Ext W (w2.alloc (.cells (Iv.cells ⟨x, A', c'⟩).toArray 33)) := ext_trans hx2 (ext_alloc _ _)
  refine hK _ _ (fun y => Mods (RowOf (.slice A0 xs.length c0)) (w2.alloc (.cells (Iv.cells ⟨x, A', c'⟩).toArray 33)) y) (Mods.refl _ _) (fun y hy => (Mods.of_below (ext_alloc w2 (.cells (Iv.cells ⟨x, A', c'⟩).toArray 33)) _).trans hy (fun _ _ h => h)) ?_
  clear hK
  refine seg_makes ⟨_, _, _, _, _, _⟩ rfl (fun K hK => ?_)
  have HB := rows_block (E := elIv) (B := B) (⟨x, A', c'⟩ : Iv) (Blk.new w2 33 (Iv.cells ⟨x, A', c'⟩).toArray)
  have HO : Own elIv (w2.alloc (.cells (Iv.cells ⟨x, A', c'⟩).toArray 33)) B (.slice A0 xs.length c0) xs := Own.ext hs.own hx2'
  have hBs : B ≤ (w2.alloc (.cells (Iv.cells ⟨x, A', c'⟩).toArray 33)).heap.size := by have := hs.base; have := hx2'.size; omega
  refine step_append elIv rfl _ _ rfl B (.slice A0 xs.length c0) xs rfl HO _ 1 [(⟨x, A', c'⟩ : Iv)] rfl B HB (by show _ * 56 ≤ _; simp; omega) (by simp; omega) hBs ?_
  intro A2 c2 w3 hown3 hg3 hat3
  have hm3 : Mods (RowOf (.slice A0 xs.length c0)) (w2.alloc (.cells (Iv.cells ⟨x, A', c'⟩).toArray 33)) w3 := Mods.grown hg3
  refine hK _ _ (fun y => Mods (RowOf (.slice A0 xs.length c0)) w3 y) (Mods.refl _ _) (fun y hy => hm3.trans hy (fun _ _ h => h)) ?_
  clear hK
  iterate 2 (refine seg_take0 ⟨_, _, _, _, _, _⟩ _ rfl rfl (fun x hx => by go_simp; try with_reducible rfl) (fun _ _ _ h => h) ?_; simp only [Act.put, List.setIfInBounds_toArray, List.set_cons_zero, List.set_cons_succ])
  refine seg_turns ⟨_, _, _, _, _, _⟩ rfl (fun K hK => ?_)
  have hk3 : Keeps B [33] (w2.alloc (.cells (Iv.cells ⟨x, A', c'⟩).toArray 33)) w3 := HO.keeps hg3 (Nat.le_refl _)
  have g3 : Blk w3 g 121 #[.int .i64 lev, .int .i64 turn, .slice A0 xs.length c0] := (hs.blk.ext hx2').mods hm3 hneg
  have b3 : Blk w3 w.heap.size 33 #[.int .i64 x.level, .int .i64 x.n, .int .i64 x.turn, .bool x.shut, .slice A x.ws.length c] := (b0.ext hx2').mods hm3 hne0
  have hokx : ∀ z ∈ xs ++ [(⟨x, A', c'⟩ : Iv)], IvOk w3 B z := by
    intro z hz
    rcases List.mem_append.1 hz with hz | hz
    · exact ((hs.ok z hz).ext hx2').keeps hk3 (by decide)
    · have e1 : z = ⟨x, A', c'⟩ := by simpa using hz
      subst e1
      exact ⟨(RowsAt.ext hW2 (ext_alloc _ _)).keeps hk3 (by decide), hok, hl⟩
  have hmt : Mods (fun k => k = g ∨ RowOf (.slice A0 xs.length c0) k) w w3 := (Mods.of_below (ext_trans hw1 hx2') _).trans hm3 (fun _ _ h => .inr h)
  have hnew : (Value.slice A2 (xs ++ [(⟨x, A', c'⟩ : Iv)]).length c2).ownBlock = (Value.slice A0 xs.length c0).ownBlock ∨ ∀ b, (Value.slice A2 (xs ++ [(⟨x, A', c'⟩ : Iv)]).length c2).ownBlock = some b → w.heap.size ≤ b := by
    rcases hat3 with e | e
    · exact .inl e
    · refine .inr fun b hb => ?_
      rw [e] at hb
      have h9 := (ext_trans hw1 hx2').size
      exact (Option.some.inj hb) ▸ h9
  have hng2 : ∀ b, (Value.slice A2 (xs ++ [(⟨x, A', c'⟩ : Iv)]).length c2).ownBlock = some b → b ≠ g := by
    intro b hb e
    subst e
    rcases hnew with e | e
    · rw [e] at hb; exact hneg hb
    · have := e _ hb; omega
  have p3 := b3.cell 3
  have q1 := g3.cell 1
  have q2 := g3.cell 2
  have f3 := g3.frozen
  simp only [List.getElem?_toArray, List.getElem?_cons_zero, List.getElem?_cons_succ] at p3 q1 q2
  have hgz : g ≠ w.heap.size := by omega
  have hbase := hs.base
  have HALL := Lib.hid (And.intro g3 (And.intro hown3 (And.intro hokx (And.intro hmt (And.intro hnew hng2)))))
  clear b0 hW2 hown0 hs x0 x1 x2 x3 x4 y2 hA hw1 hext2 hx2 hx2' HB HO hBs hg3 hm3 hk3 hat3 hz0 hzg g3 b3 hown3 hokx hmt hnew hng2 hok hneg hne0
  go_simp
  refine hK _ _ (fun _ => True) trivial ?_
  clear hK
  refine seg_done ?_
  have hwt1 : IntKind.i64.wrap (turn + 1) = turn + 1 := IntWalk.i64_in _ (by omega)
  have hwt2 : wrap64 (turn + 1) = turn + 1 := IntWalk.wrap64_in _ (by omega)
  have HN := Lib.hid (And.intro hn7 (And.intro ht0 ht1))
  clear hn7 ht0 ht1 hl hlen hz0
  cases hsh : x.shut
  · go_wp2
    go_ret
    obtain ⟨g3, hown3, hokx, hmt, hnew, hng2⟩ := HALL.out
    refine ⟨⟨x, A', c'⟩, _, rfl, rfl, ⟨?_, hbase, own_mods hown3 (mods_setCell _ _ _) (fun b hb => hng2 b hb), fun z hz => (hokx z hz).keeps (keeps_set g3 hbase 2 _) (by decide), ?_⟩, hmt.trans (mods_setCell _ _ _) (fun k _ hk => .inl hk), hnew⟩
    · rw [hsh]; simpa using g3.set_ 2 (.slice A2 (xs ++ [(⟨x, A', c'⟩ : Iv)]).length c2)
    · have := HN.out.1; simp; omega
  · go_wp2
    go_ret
    obtain ⟨g3, hown3, hokx, hmt, hnew, hng2⟩ := HALL.out
    have g4 : Blk (w3.setCell ⟨g, 2, none⟩ (.slice A2 (xs.length + 1) c2)) g 121 #[.int .i64 lev, .int .i64 turn, .slice A2 (xs.length + 1) c2] := by simpa using g3.set_ 2 (.slice A2 (xs.length + 1) c2)
    refine ⟨⟨x, A', c'⟩, _, rfl, rfl, ⟨?_, hbase, own_mods (own_mods hown3 (mods_setCell _ _ _) (fun b hb => hng2 b hb)) (mods_setCell _ _ _) (fun b hb => hng2 b hb), fun z hz => ((hokx z hz).keeps (T := [121]) (keeps_set g3 hbase 2 _) (by decide)).keeps (T := [121]) (keeps_set g4 hbase 1 _) (by decide), ?_⟩, (hmt.trans (mods_setCell _ _ _) (fun k _ hk => .inl hk)).trans (mods_setCell _ _ _) (fun k _ hk => .inl hk), hnew⟩
    · rw [hsh]; simpa using g4.set_ 1 (.int .i64 (turn + 1))
    · have := HN.out.1; simp; omega
end Go.Proofs.Ytdknkbpgkkakhaa
