/- Layer 22: the document's road: Take. -/
import Derived.Test.YtdknkbpgkkakhaaRoad18
import Derived.Test.YtdknkbpgkkakhaaPlan3
namespace Go.Proofs.Ytdknkbpgkkakhaa
open Go.RowKit

theorem Off.le_cap {α : Type} {E : Elem α} {w : World} {base : Nat} {A : Option Addr} {c : Nat} {xs : List α} (h : Off E w base (.slice A xs.length c) xs) : xs.length ≤ c := by
  rcases h with ⟨hv, rfl⟩ | ⟨g, off, cap, cur, hv, _, _, hnc, _⟩
  · exact Nat.zero_le _
  · injection hv with _ _ h3
    omega
section
variable {w w' w0 : World} {B : Nat} {A : Option Addr} {c : Nat} {rs : List Rw} {r : RefMem} {s : RoadSt}
theorem RefAt.own_lt (h : RefAt w B A c rs r s) {g : Nat} (hg : RefOwn r g) : g < w.heap.size := by
  rcases hg with rfl | hg | ⟨a, ha, hg⟩
  · exact h.blk.lt
  · obtain ⟨ps, p1, _⟩ := h.log
    obtain ⟨_, cur, h3⟩ := p1.blk hg
    exact h3.lt
  · obtain ⟨ys, y1, _⟩ := h.unds a ha
    exact (y1.typed hg).2.1
theorem RefAt.modsF {S : Nat → Prop} {T : List TypeId} (h : RefAt w B A c rs r s) (k : Mods S w w') (hS : ∀ g, S g → ¬ RefOwn r g) (hk : Keeps B T w w') (h23 : 23 ∉ T) (h4 : 4 ∉ T) (h47 : 47 ∉ T) : RefAt w' B A c rs r s := by
  refine ⟨h.base, h.blk.mods k (fun e => hS _ e (.inl rfl)), h.size, h.lat, h.toc, h.offc, h.logc, ?_, ?_, h.mat.keeps hk h23 h4⟩
  · intro a ha
    obtain ⟨us, u1, u2, u3⟩ := h.unds a ha
    exact ⟨us, u1.mods k (fun b hb e => hS b e (.inr (.inr ⟨a, ha, hb⟩))), u2, fun z hz => (u3 z hz).keeps hk h47⟩
  · obtain ⟨ps, p1, p2, p3⟩ := h.log
    exact ⟨ps, p1.mods k (fun b hb e => hS b e (.inr (.inl hb))), p2, fun p hp => (p3 p hp).keeps hk h47⟩
theorem keeps_of33 {g : Nat} {cs : Array Value} (k : Mods (fun i => i = g) w w') (hB : B ≤ g) (hb : Blk w g 33 cs) : Keeps B [33] w w' := Keeps.of_mods k fun i hi => by
  subst hi
  refine ⟨hB, fun cs' t' fr hh => ?_⟩
  unfold Blk at hb
  rw [hb] at hh
  injection hh with hh
  injection hh with _ hh
  simp [hh]
def RefMem.setTo (r : RefMem) (d : Nat) (v : Value) : RefMem := ⟨r.g, r.cs.setIfInBounds (1 + d) v, fun x => if x = d then v else r.to_ x, r.vl⟩
theorem RefAt.setTo (h : RefAt w0 B A c rs r s) (k : Ext w0 w) {d : Nat} (hd : d < 6) {v : Value} {ys : List Iv} (hO : Off elIv w B v ys) (hok : ∀ y ∈ ys, IvOk w B y) (hnew : ∀ b, v.ownBlock = some b → w0.heap.size ≤ b) :
    RefAt (w.setCell ⟨r.g, 1 + d, none⟩ v) B A c rs (r.setTo d v) ⟨s.off, fun t => if t = (d : Int) then ys.map Iv.it else s.und t, s.log⟩ ∧ RefGo B w0 r (w.setCell ⟨r.g, 1 + d, none⟩ v) (r.setTo d v) := by
  have h1 := h.ext k
  refine ⟨⟨h.base, h1.blk.set_ _ _, by show (r.cs.setIfInBounds _ _).size = _; rw [Array.size_setIfInBounds]; exact h.size, ?_, ?_, ?_, ?_, ?_, h1.log_set _ _, h1.mat.keeps (h1.keeps80 _ _) (by decide) (by decide)⟩,
    ⟨(k.mono h.base_le).trans ((Below.refl _ _).setCell h.base _), (Mods.of_below k _).trans (mods_setCell w ⟨r.g, 1 + d, none⟩ _) (fun _ _ e => e), ?_⟩⟩
  · show (r.cs.setIfInBounds _ _)[0]? = _
    rw [get_set_ne (by omega)]; exact h.lat
  · intro a' ha'
    show (r.cs.setIfInBounds _ _)[1 + a']? = some (if a' = d then v else r.to_ a')
    by_cases he : a' = d
    · subst he
      rw [if_pos rfl, get_set_eq (by rw [h.size]; omega)]
    · rw [if_neg he, get_set_ne (by omega)]
      exact h.toc a' ha'
  · intro a' b' ha' hb'
    show (r.cs.setIfInBounds _ _)[7 + a' * 6 + b']? = _
    rw [get_set_ne (by omega)]
    exact h.offc a' b' ha' hb'
  · show (r.cs.setIfInBounds _ _)[43]? = _
    rw [get_set_ne (by omega)]; exact h.logc
  · intro a' ha'
    show ∃ ys', Off elIv _ B (if a' = d then v else r.to_ a') ys' ∧ ys'.map Iv.it = (if (a' : Int) = (d : Int) then ys.map Iv.it else s.und a') ∧ _
    by_cases he : a' = d
    · subst he
      rw [if_pos rfl, if_pos rfl]
      refine ⟨ys, hO.mods (mods_setCell w ⟨r.g, 1 + a', none⟩ v) (fun b hb e => ?_), rfl, fun y hy => (hok y hy).keeps (h1.keeps80 _ _) (by decide)⟩
      obtain ⟨_, _, cur, hB⟩ := hO.typed hb
      exact blk_ne hB h1.blk (by decide) e
    · rw [if_neg he, if_neg (by omega)]
      exact h1.unds_set _ _ ha'
  · rintro g (hg | hg | ⟨a', ha', hg⟩)
    · exact .inl (.inl hg)
    · exact .inl (.inr (.inl hg))
    · replace hg : (if a' = d then v else r.to_ a').ownBlock = some g := hg
      by_cases he : a' = d
      · rw [if_pos he] at hg
        exact .inr (hnew g hg)
      · rw [if_neg he] at hg
        exact .inl (.inr (.inr ⟨a', ha', hg⟩))
def RefMem.setLog (r : RefMem) (v : Value) : RefMem := ⟨r.g, r.cs.setIfInBounds 43 v, r.to_, v⟩
theorem RefAt.setLog (h : RefAt w0 B A c rs r s) (k : Ext w0 w) {v : Value} {ps : List Pv} (hO : Own elPv w B v ps) (hok : ∀ p ∈ ps, IvOk w B p.x) (hnew : ∀ b, v.ownBlock = some b → w0.heap.size ≤ b) :
    RefAt (w.setCell ⟨r.g, 43, none⟩ v) B A c rs (r.setLog v) ⟨s.off, s.und, prs ps⟩ ∧ RefGo B w0 r (w.setCell ⟨r.g, 43, none⟩ v) (r.setLog v) := by
  have h1 := h.ext k
  refine ⟨⟨h.base, h1.blk.set_ _ _, by show (r.cs.setIfInBounds _ _).size = _; rw [Array.size_setIfInBounds]; exact h.size, ?_, ?_, ?_, ?_, fun a' ha' => h1.unds_set _ _ ha', ?_, h1.mat.keeps (h1.keeps80 _ _) (by decide) (by decide)⟩,
    ⟨(k.mono h.base_le).trans ((Below.refl _ _).setCell h.base _), (Mods.of_below k _).trans (mods_setCell w ⟨r.g, 43, none⟩ _) (fun _ _ e => e), ?_⟩⟩
  · show (r.cs.setIfInBounds _ _)[0]? = _
    rw [get_set_ne (by omega)]; exact h.lat
  · intro a' ha'
    show (r.cs.setIfInBounds _ _)[1 + a']? = _
    rw [get_set_ne (by omega)]
    exact h.toc a' ha'
  · intro a' b' ha' hb'
    show (r.cs.setIfInBounds _ _)[7 + a' * 6 + b']? = _
    rw [get_set_ne (by omega)]
    exact h.offc a' b' ha' hb'
  · show (r.cs.setIfInBounds _ _)[43]? = _
    rw [get_set_eq (by rw [h.size]; omega)]; rfl
  · refine ⟨ps, hO.mods (mods_setCell w ⟨r.g, 43, none⟩ v) (fun b hb e => ?_), rfl, fun p hp => (hok p hp).keeps (h1.keeps80 _ _) (by decide)⟩
    obtain ⟨_, cur, hB⟩ := hO.blk hb
    exact blk_ne hB h1.blk (by decide) e
  · rintro g (hg | hg | ⟨a', ha', hg⟩)
    · exact .inl (.inl hg)
    · exact .inr (hnew g hg)
    · exact .inl (.inr (.inr ⟨a', ha', hg⟩))

set_option maxRecDepth 100000 in
set_option maxHeartbeats 4000000 in
theorem refTake_none (h : RefAt w B A c rs r s) {t n : Int} (stays : Bool) (hno : t < 0 ∨ 6 ≤ t ∨ n < 0 ∨ ((s.und t).length : Int) ≤ n) (hfew : ∀ t, (s.und t).length ≤ 40) :
    Calls Try.prog 67 #[.pointer (some ⟨r.g, 0, none⟩), .int .i64 t, .int .i64 n, .bool stays] w
      fun e w' => e = .returned (.tuple #[.agg #[.int .i64 0, .int .i64 0, .int .i64 0, .bool false, .slice none 0 0], .int .i64 18]) ∧ Ext w w' := by
  have x1 := ext_alloc w (.cells #[.int .i64 0, .int .i64 0, .int .i64 0, .bool false, .slice none 0 0] 33)
  by_cases h1 : t < 0
  · clear hno h hfew
    go_enter Try.func67, Try.ntmps67
    go_wp2
    exact bodyPost_ret (v := .tuple #[.agg #[.int .i64 0, .int .i64 0, .int .i64 0, .bool false, .slice none 0 0], .int .i64 18]) (by simp [results, Try.results67, go_sem]) rfl ⟨rfl, x1⟩
  · by_cases h2 : 6 ≤ t
    · clear hno h hfew
      go_enter Try.func67, Try.ntmps67
      go_wp2
      exact bodyPost_ret (v := .tuple #[.agg #[.int .i64 0, .int .i64 0, .int .i64 0, .bool false, .slice none 0 0], .int .i64 18]) (by simp [results, Try.results67, go_sem]) rfl ⟨rfl, x1⟩
    · by_cases h3 : n < 0
      · clear hno h hfew
        go_enter Try.func67, Try.ntmps67
        go_wp2
        exact bodyPost_ret (v := .tuple #[.agg #[.int .i64 0, .int .i64 0, .int .i64 0, .bool false, .slice none 0 0], .int .i64 18]) (by simp [results, Try.results67, go_sem]) rfl ⟨rfl, x1⟩
      · have h4 : ((s.und t).length : Int) ≤ n := by omega
        obtain ⟨a, rfl⟩ := Int.eq_ofNat_of_zero_le (show 0 ≤ t by omega)
        have ha : a < 6 := by omega
        have hc := (h.ext x1).blk.cell (1 + a)
        rw [h.toc a ha] at hc
        obtain ⟨ys, hO, hys, _⟩ := h.unds a ha
        obtain ⟨A0, c0, hv⟩ := hO.form
        rw [hv] at hc
        have hl : ys.length ≤ 40 := by
          have := hfew a
          rw [← hys, List.length_map] at this
          exact this
        rw [← hys, List.length_map] at h4
        clear hno h hfew hO hys hv h1 h2
        go_enter Try.func67, Try.ntmps67
        go_wp2
        exact bodyPost_ret (v := .tuple #[.agg #[.int .i64 0, .int .i64 0, .int .i64 0, .bool false, .slice none 0 0], .int .i64 18]) (by simp [results, Try.results67, go_sem]) rfl ⟨rfl, x1⟩

set_option maxRecDepth 100000 in
set_option maxHeartbeats 8000000 in
theorem refTake_stays (h : RefAt w B A c rs r s) {a k : Nat} (ha : a < 6) (hk : k < (s.und a).length) (hfew : ∀ t, (s.und t).length ≤ 40) :
    Calls Try.prog 67 #[.pointer (some ⟨r.g, 0, none⟩), .int .i64 a, .int .i64 k, .bool true] w
      fun e w' => ∃ A' c', e = .returned (.tuple #[.agg #[.int .i64 (s.und a)[k].level, .int .i64 (s.und a)[k].n, .int .i64 (s.und a)[k].turn, .bool (s.und a)[k].shut, .slice A' (s.und a)[k].ws.length c'], .int .i64 0]) ∧
        IvOk w' B ⟨(s.und a)[k], A', c'⟩ ∧ Ext w w' := by
  have x1 := ext_alloc w (.cells #[.int .i64 0, .int .i64 0, .int .i64 0, .bool false, .slice none 0 0] 33)
  have b0 := Blk.new w 33 #[.int .i64 0, .int .i64 0, .int .i64 0, .bool false, .slice none 0 0]
  have hc := (h.ext x1).blk.cell (1 + a)
  rw [h.toc a ha] at hc
  obtain ⟨ys, hO, hys, hok⟩ := h.unds a ha
  obtain ⟨A0, c0, hv⟩ := hO.form
  rw [hv] at hc hO
  have hR' : RowsIv w B A0 ys := hO.rows (B := B)
  have hl : ys.length ≤ 40 := by
    have := hfew a
    rw [← hys, List.length_map] at this
    exact this
  have hlt : k < ys.length := by rw [← hys, List.length_map] at hk; exact hk
  have hxk : (s.und a)[k] = ys[k].it := by simp [← hys]
  rw [hxk]
  have hix := hok _ (List.getElem_mem hlt)
  obtain ⟨ad, hA0, p0, p1, p2, p3, p4⟩ := RowsIv.get (RowsAt.ext hR' x1) hlt
  have e0 : A0 = some ad := hA0
  subst e0
  generalize hy : ys[k] = y at hix p0 p1 p2 p3 p4 ⊢
  have HBW := Lib.hid h.base_le
  have HYS : Hid (ys.map Iv.it = s.und a) := hys
  have HH := Lib.hid h
  have HOK := Lib.hid hok
  have HR := Lib.hid hR'
  have HO := Lib.hid hO
  have hvs := hv
  clear h hO hv hys hok hk hxk hR' hy hfew
  go_enter Try.func67, Try.ntmps67
  go_wp2
  refine bodyPost_ret (v := .tuple #[.agg #[.int .i64 y.it.level, .int .i64 y.it.n, .int .i64 y.it.turn, .bool y.it.shut, .slice y.A y.it.ws.length y.c], .int .i64 0]) (by simp [results, Try.results67, go_sem]) rfl ⟨y.A, y.c, rfl, ?_, ?_⟩
  · exact (hix.ext (ext_alloc _ _)).ext (ext_alloc _ _)
  · exact ext_trans (ext_alloc _ _) (ext_alloc _ _)

set_option maxRecDepth 100000 in
set_option maxHeartbeats 8000000 in
theorem refTake_goes (h : RefAt w B A c rs r s) {a k : Nat} (ha : a < 6) (hk : k < (s.und a).length) (hfew : ∀ t, (s.und t).length ≤ 40) :
    Calls Try.prog 67 #[.pointer (some ⟨r.g, 0, none⟩), .int .i64 a, .int .i64 k, .bool false] w
      fun e w' => ∃ A' c', e = .returned (.tuple #[.agg #[.int .i64 (s.und a)[k].level, .int .i64 (s.und a)[k].n, .int .i64 (s.und a)[k].turn, .bool (s.und a)[k].shut, .slice A' (s.und a)[k].ws.length c'], .int .i64 0]) ∧
        IvOk w' B ⟨(s.und a)[k], A', c'⟩ ∧ ∃ r', r'.g = r.g ∧ RefAt w' B A c rs r' ⟨s.off, fun u => if u = (a : Int) then (s.und a).eraseIdx k else s.und u, s.log⟩ ∧ RefGo B w r w' r' := by
  have x1 := ext_alloc w (.cells #[.int .i64 0, .int .i64 0, .int .i64 0, .bool false, .slice none 0 0] 33)
  have b0 := Blk.new w 33 #[.int .i64 0, .int .i64 0, .int .i64 0, .bool false, .slice none 0 0]
  have hc := (h.ext x1).blk.cell (1 + a)
  rw [h.toc a ha] at hc
  obtain ⟨ys, hO, hys, hok⟩ := h.unds a ha
  obtain ⟨A0, c0, hv⟩ := hO.form
  rw [hv] at hc hO
  have hR' : RowsIv w B A0 ys := hO.rows (B := B)
  have hl : ys.length ≤ 40 := by
    have := hfew a
    rw [← hys, List.length_map] at this
    exact this
  have hlt : k < ys.length := by rw [← hys, List.length_map] at hk; exact hk
  have hxk : (s.und a)[k] = ys[k].it := by simp [← hys]
  rw [hxk]
  have hix := hok _ (List.getElem_mem hlt)
  obtain ⟨ad, hA0, p0, p1, p2, p3, p4⟩ := RowsIv.get (RowsAt.ext hR' x1) hlt
  have e0 : A0 = some ad := hA0
  subst e0
  generalize hy : ys[k] = y at hix p0 p1 p2 p3 p4 ⊢
  have HBW := Lib.hid h.base_le
  have HYS : Hid (ys.map Iv.it = s.und a) := hys
  have HH := Lib.hid h
  have HOK := Lib.hid hok
  have HR := Lib.hid hR'
  have HO := Lib.hid hO
  have hvs := hv
  clear h hO hv hys hok hk hxk hR' hy hfew
  go_enter Try.func67, Try.ntmps67
  go_upto_region 5 with fail
  have x5 := ext_trans x1 (ext_alloc (w.alloc (.cells #[.int .i64 0, .int .i64 0, .int .i64 0, .bool false, .slice none 0 0] 33)) (.cells #[.int .i64 y.it.level, .int .i64 y.it.n, .int .i64 y.it.turn, .bool y.it.shut, .slice y.A y.it.ws.length y.c] 33))
  have b8 := b0.ext (ext_alloc (w.alloc (.cells #[.int .i64 0, .int .i64 0, .int .i64 0, .bool false, .slice none 0 0] 33)) (.cells #[.int .i64 y.it.level, .int .i64 y.it.n, .int .i64 y.it.turn, .bool y.it.shut, .slice y.A y.it.ws.length y.c] 33))
  have b10 := Blk.new (w.alloc (.cells #[.int .i64 0, .int .i64 0, .int .i64 0, .bool false, .slice none 0 0] 33)) 33 #[.int .i64 y.it.level, .int .i64 y.it.n, .int .i64 y.it.turn, .bool y.it.shut, .slice y.A y.it.ws.length y.c]
  rw [show (w.alloc (.cells #[.int .i64 0, .int .i64 0, .int .i64 0, .bool false, .slice none 0 0] 33)).heap.size = w.heap.size + 1 by simp] at b10
  generalize (w.alloc (.cells #[.int .i64 0, .int .i64 0, .int .i64 0, .bool false, .slice none 0 0] 33)).alloc (.cells #[.int .i64 y.it.level, .int .i64 y.it.n, .int .i64 y.it.turn, .bool y.it.shut, .slice y.A y.it.ws.length y.c] 33) = W at x5 b8 b10 ⊢
  clear p0 p1 p2 p3 p4 hc b0 x1
  have h5 := HH.out.ext x5
  have hcap := Off.le_cap HO.out
  have r0 := h5.blk.cell (1 + a)
  rw [h5.toc a ha] at r0
  obtain ⟨vt, hvt⟩ : ∃ vt, vt = r.to_ a := ⟨_, rfl⟩
  rw [← hvt] at r0
  have HVT := Lib.hid hvt
  have HVS := Lib.hid hvs
  have e1 : vt = .slice (some ad) ys.length c0 := by rw [HVT.out, HVS.out]
  rw [e1] at r0
  have y0 := fun x' (hx : Ext W x') => ext_cell hx r0
  have HWS := Lib.hid (⟨b8.lt, b10.lt⟩ : w.heap.size < W.heap.size ∧ w.heap.size + 1 < W.heap.size)
  have HRW : Hid (RowsIv W B (some ad) ys) := RowsAt.ext HR.out x5
  have lt1 : (ys.take k).length = k := by rw [List.length_take]; omega
  have ld1 : (ys.drop (k + 1)).length = ys.length - (k + 1) := List.length_drop
  have LT := Lib.hid lt1
  have LD := Lib.hid ld1
  have hwr : IntKind.i64.wrap ((k : Int) + 1) = (k : Int) + 1 := IntWalk.i64_in _ (by omega)
  clear r0 lt1 ld1 e1 hvt hvs
  refine wp_region_planH3 (.reads 0 (.reads 1 (.reads 2 (.reads 3 (.reads 4 (.reads 5 (.reads 6 (.reads 7 (.reads 8 (.reads 9 (.reads 11 (.reads 12 (.reads 13 (.reads 14 (.reads 15 (.reads 16 (.reads 17 (.reads 18 (.reads 19 (.reads 21 (.reads 22 (.makes 10 (.makes 20 (.reads 23 (.turns 24 (.done)))))))))))))))))))))))))) (by kernel_rfl) (by kernel_rfl) (fun x' => Ext W x') (ext_drewN W 1) (fun ops HOPS => ?_)
  (refine segH_pure _ _ _ _ _ _ (hid_get HOPS 0 _ rfl) rfl wanted_none (fun _ _ _ _ h => h) ?_; intro K hK; go_big_quiet_op; go_big_quiet_on)
  (refine segH_pure _ _ _ _ _ _ (hid_get HOPS 1 _ rfl) rfl wanted_none (fun _ _ _ _ h => h) ?_; intro K hK; go_big_quiet_op; go_big_quiet_on)
  (refine segH_pure _ _ _ _ _ _ (hid_get HOPS 2 _ rfl) rfl wanted_none (fun _ _ _ _ h => h) ?_; intro K hK; go_big_quiet_op; go_big_quiet_on)
  (refine segH_pure _ _ _ _ _ _ (hid_get HOPS 3 _ rfl) rfl wanted_none (fun _ _ _ _ h => h) ?_; intro K hK; go_big_quiet_op; go_big_quiet_on)
  (refine segH_nil _ _ _ _ _ _ _ (hid_get HOPS 4 _ rfl) wanted_none rfl (fun _ _ _ _ h => h) ?_; simp only [Act.put, List.setIfInBounds_toArray, List.set_cons_zero, List.set_cons_succ])
  (refine segH_pure _ _ _ _ _ _ (hid_get HOPS 5 _ rfl) rfl wanted_none (fun _ _ _ _ h => h) ?_; intro K hK; go_big_quiet_op; go_big_quiet_on)
  (refine segH_pure _ _ _ _ _ _ (hid_get HOPS 6 _ rfl) rfl wanted_none (fun _ _ _ _ h => h) ?_; intro K hK; go_big_quiet_op; go_big_quiet_on)
  (refine segH_load _ _ _ _ _ _ _ _ _ (hid_get HOPS 7 _ rfl) wanted_none rfl (fun _ _ _ _ h => h) (fun y hy => by go_simp; try with_reducible rfl) ?_; simp only [Act.put, List.setIfInBounds_toArray, List.set_cons_zero, List.set_cons_succ])
  (refine segH_pure _ _ _ _ _ _ (hid_get HOPS 8 _ rfl) rfl wanted_none (fun _ _ _ _ h => h) ?_; intro K hK; go_big_quiet_op; go_big_quiet_on)
  (refine segH_pure _ _ _ _ _ _ (hid_get HOPS 9 _ rfl) rfl wanted_none (fun _ _ _ _ h => h) ?_; intro K hK; go_big_quiet_op; go_big_quiet_on)
  (refine segH_pure _ _ _ _ _ _ (hid_get HOPS 11 _ rfl) rfl wanted_none (fun _ _ _ _ h => h) ?_; intro K hK; go_big_quiet_op; go_big_quiet_on)
  (refine segH_pure _ _ _ _ _ _ (hid_get HOPS 12 _ rfl) rfl wanted_none (fun _ _ _ _ h => h) ?_; intro K hK; go_big_quiet_op; go_big_quiet_on)
  (refine segH_nil _ _ _ _ _ _ _ (hid_get HOPS 13 _ rfl) wanted_none rfl (fun _ _ _ _ h => h) ?_; simp only [Act.put, List.setIfInBounds_toArray, List.set_cons_zero, List.set_cons_succ])
  (refine segH_pure _ _ _ _ _ _ (hid_get HOPS 14 _ rfl) rfl wanted_none (fun _ _ _ _ h => h) ?_; intro K hK; go_big_quiet_op; go_big_quiet_on)
  (refine segH_pure _ _ _ _ _ _ (hid_get HOPS 15 _ rfl) rfl wanted_none (fun _ _ _ _ h => h) ?_; intro K hK; go_big_quiet_op; go_big_quiet_on)
  (refine segH_load _ _ _ _ _ _ _ _ _ (hid_get HOPS 16 _ rfl) wanted_none rfl (fun _ _ _ _ h => h) (fun y hy => by go_simp; try with_reducible rfl) ?_; simp only [Act.put, List.setIfInBounds_toArray, List.set_cons_zero, List.set_cons_succ])
  (refine segH_pure _ _ _ _ _ _ (hid_get HOPS 17 _ rfl) rfl wanted_none (fun _ _ _ _ h => h) ?_; intro K hK; go_big_quiet_op; go_big_quiet_on)
  (refine segH_pure _ _ _ _ _ _ (hid_get HOPS 18 _ rfl) rfl wanted_none (fun _ _ _ _ h => h) ?_; intro K hK; go_big_quiet_op; go_big_quiet_on)
  (refine segH_pure _ _ _ _ _ _ (hid_get HOPS 19 _ rfl) rfl wanted_none (fun _ _ _ _ h => h) ?_; intro K hK; go_big_quiet_op; go_big_quiet_on)
  (refine segH_nil _ _ _ _ _ _ _ (hid_get HOPS 21 _ rfl) wanted_none rfl (fun _ _ _ _ h => h) ?_; simp only [Act.put, List.setIfInBounds_toArray, List.set_cons_zero, List.set_cons_succ])
  (refine segH_pure _ _ _ _ _ _ (hid_get HOPS 22 _ rfl) rfl wanted_none (fun _ _ _ _ h => h) ?_; intro K hK; go_big_quiet_op; go_big_quiet_on)
  refine segH_makes _ _ _ _ _ _ (hid_get HOPS 10 _ rfl) wanted_none (fun K hK => ?_)
  refine wp_append elIv _ _ rfl W.heap.size (.slice none 0 0) [] rfl (Own.nil _ _) (some ad) c0 (ys.take k) (by show _ = _; rw [LT.out]; rfl) B ((RowsAt.ext HRW.out (ext_drewN W 1)).take k) (by rw [LT.out]; show _ * 56 ≤ _; simp; omega) (by rw [LT.out]; simp; omega) (by simp) ?_
  intro A11 c11 w11 hown11 hg11 hat11
  have P11 : Ext W w11 := ext_trans (ext_drewN W 1) ((Below.refl _ _).grown hg11 (Nat.le_refl _) (fun k hk => by cases hk))
  have hO11 : Own elIv w11 W.heap.size (.slice A11 k c11) (ys.take k) := by
    have := hown11
    rw [List.nil_append, LT.out] at this
    exact this
  rw [List.nil_append, LT.out]
  have HO11 := Lib.hid hO11
  refine hK _ _ (fun x' => Ext W x') P11 (fun _ h => h) ?_
  clear hK hown11 hg11 hat11 hO11
  simp only [Act.put, List.setIfInBounds_toArray, List.set_cons_zero, List.set_cons_succ]
  refine segH_makes _ _ _ _ _ _ (hid_get HOPS 20 _ rfl) wanted_none (fun K hK => ?_)
  have HR3 : RowsAt w11 B 33 5 Iv.cells (if c0 = k + 1 then some ad else some (ad.add ((k + 1) * 5))) (ys.drop (k + 1)) := by
    by_cases hc : c0 = k + 1
    · intro i hi
      rw [LD.out] at hi
      omega
    · rw [if_neg hc]
      exact rows_drop (RowsAt.ext HRW.out P11) (k + 1)
  refine wp_append elIv _ _ rfl W.heap.size (.slice A11 (ys.take k).length c11) (ys.take k) (by show _ = _; rw [LT.out]; rfl) (by rw [LT.out]; exact HO11.out) _ (c0 - (k + 1)) (ys.drop (k + 1)) (by show _ = _; rw [LD.out]; rfl) B HR3 (by rw [LT.out, LD.out]; show _ * 56 ≤ _; omega) (by rw [LT.out, LD.out]; omega) P11.size ?_
  intro A12 c12 w12 hown12 hg12 hat12
  have e12 : ys.take k ++ ys.drop (k + 1) = ys.eraseIdx k := by rw [List.eraseIdx_eq_take_drop_succ]
  have P12 : Ext W w12 := P11.grown hg12 P11.size (fun j hj => by
    have h1 := HO11.out
    rw [← LT.out] at h1
    exact (h1.typed hj).1)
  rw [e12] at hown12 ⊢
  have hB12 : B ≤ W.heap.size := Nat.le_trans HBW.out x5.size
  obtain ⟨q1, q2⟩ := h5.setTo P12 ha (hown12.off.le hB12) (fun y hy => ((HOK.out y (List.mem_of_mem_eraseIdx hy)).ext x5).ext P12) (fun b hb => (hown12.typed hb).1)
  have HQ : Hid (∃ r', r'.g = r.g ∧ RefAt (w12.setCell ⟨r.g, 1 + a, none⟩ (.slice A12 (ys.eraseIdx k).length c12)) B A c rs r' ⟨s.off, fun u => if u = (a : Int) then (ys.eraseIdx k).map Iv.it else s.und u, s.log⟩ ∧ RefGo B w r (w12.setCell ⟨r.g, 1 + a, none⟩ (.slice A12 (ys.eraseIdx k).length c12)) r' ∧ ∀ g, RefOwn r' g → RefOwn r g ∨ W.heap.size ≤ g) :=
    ⟨r.setTo a _, rfl, q1, ⟨(x5.mono HBW.out).trans q2.below, (Mods.of_below x5 _).trans q2.mods (fun _ _ e => e), fun g hg => (q2.sub g hg).imp id (fun hz => Nat.le_trans x5.size hz)⟩, q2.sub⟩
  have n8 : ¬ (w.heap.size = r.g) := fun e => blk_ne (b8.ext P12) (h5.blk.ext P12) (by decide) e
  have n10 : ¬ (w.heap.size + 1 = r.g) := fun e => blk_ne (b10.ext P12) (h5.blk.ext P12) (by decide) e
  have b8' := (b8.ext P12).mods (mods_setCell w12 ⟨r.g, 1 + a, none⟩ (.slice A12 (ys.eraseIdx k).length c12)) n8
  have b10' := (b10.ext P12).mods (mods_setCell w12 ⟨r.g, 1 + a, none⟩ (.slice A12 (ys.eraseIdx k).length c12)) n10
  have hix' := (((hix.ext x5).ext P12).keeps ((h5.ext P12).keeps80 (1 + a) (.slice A12 (ys.eraseIdx k).length c12)) (by decide))
  have q0 := y0 w12 P12
  have fz := (h5.blk.ext P12).frozen
  refine hK _ _ (fun x' => Ext W x') P12 (fun _ h => h) ?_
  clear hK hown12 hg12 hat12 e12 HR3 q1 q2 n8 n10
  simp only [Act.put, List.setIfInBounds_toArray, List.set_cons_zero, List.set_cons_succ]
  (refine segH_pure _ _ _ _ _ _ (hid_get HOPS 23 _ rfl) rfl wanted_none (fun _ _ _ _ h => h) ?_; intro K hK; go_big_quiet_op; go_big_quiet_on)
  refine segH_turns _ _ _ _ _ _ (hid_get HOPS 24 _ rfl) wanted_none (fun K hK => ?_)
  go_big_op
  refine hK _ _ (fun _ => True) trivial ?_
  clear hK
  refine seg_done ?_
  clear HOPS
  clear y0 q0 fz hwr hcap h5 x5 b8 b10
  generalize w12.setCell ⟨r.g, 1 + a, none⟩ (.slice A12 (ys.eraseIdx k).length c12) = w8 at HQ b8' b10' hix' ⊢
  have d0 := b8'.cell 0
  have d1 := b8'.cell 1
  have d2 := b8'.cell 2
  have d3 := b8'.cell 3
  have d4 := b8'.cell 4
  have f1 := b8'.frozen
  have g0 := b10'.cell 0
  have g1 := b10'.cell 1
  have g2 := b10'.cell 2
  have g3 := b10'.cell 3
  have g4 := b10'.cell 4
  simp only [List.getElem?_toArray, List.getElem?_cons_zero, List.getElem?_cons_succ] at d0 d1 d2 d3 d4 g0 g1 g2 g3 g4
  go_wp2
  all_goals
    have hmods : Mods (fun i => i = w.heap.size) w8 (((((w8.setCell ⟨w.heap.size, 0, none⟩ (.int .i64 y.it.level)).setCell ⟨w.heap.size, 1, none⟩ (.int .i64 y.it.n)).setCell ⟨w.heap.size, 2, none⟩ (.int .i64 y.it.turn)).setCell ⟨w.heap.size, 3, none⟩ (.bool y.it.shut)).setCell ⟨w.heap.size, 4, none⟩ (.slice y.A y.it.ws.length y.c)) :=
      ((((mods_setCell w8 ⟨w.heap.size, 0, none⟩ _).trans (mods_setCell _ ⟨w.heap.size, 1, none⟩ _) (fun _ _ h => h)).trans (mods_setCell _ ⟨w.heap.size, 2, none⟩ _) (fun _ _ h => h)).trans (mods_setCell _ ⟨w.heap.size, 3, none⟩ _) (fun _ _ h => h)).trans (mods_setCell _ ⟨w.heap.size, 4, none⟩ _) (fun _ _ h => h)
    have hkp : Keeps B [33] w8 (((((w8.setCell ⟨w.heap.size, 0, none⟩ (.int .i64 y.it.level)).setCell ⟨w.heap.size, 1, none⟩ (.int .i64 y.it.n)).setCell ⟨w.heap.size, 2, none⟩ (.int .i64 y.it.turn)).setCell ⟨w.heap.size, 3, none⟩ (.bool y.it.shut)).setCell ⟨w.heap.size, 4, none⟩ (.slice y.A y.it.ws.length y.c)) := keeps_of33 hmods HBW.out b8'
    refine bodyPost_ret (v := .tuple #[.agg #[.int .i64 y.it.level, .int .i64 y.it.n, .int .i64 y.it.turn, .bool y.it.shut, .slice y.A y.it.ws.length y.c], .int .i64 0]) (by simp [results, Try.results67, go_sem, d0, d1, d2, d3, d4, f1]) rfl ⟨y.A, y.c, rfl, hix'.keeps hkp (by decide), ?_⟩
    obtain ⟨r', e1, e2, e3, e4⟩ := HQ.out
    have hns : ¬ RefOwn r' w.heap.size := fun hc => by
      rcases e4 _ hc with h1 | h1
      · exact Nat.lt_irrefl _ (HH.out.own_lt h1)
      · have := HWS.out.1
        omega
    refine ⟨r', e1, ?_, ⟨e3.below.trans ((hmods.below (Nat.le_of_lt b8'.lt) (fun k hk => by have : k = w.heap.size := hk; omega)).mono HBW.out), e3.mods.trans hmods (fun k hk e => by have : k = w.heap.size := e; omega), e3.sub⟩⟩
    have e9 : (s.und a).eraseIdx k = (ys.eraseIdx k).map Iv.it := by
      have h5 : ys.map Iv.it = s.und a := HYS.out
      rw [← h5, List.eraseIdx_eq_take_drop_succ, List.eraseIdx_eq_take_drop_succ, List.map_append, List.map_take, List.map_drop]
    rw [e9]
    exact e2.modsF hmods (fun g hg => by have : g = w.heap.size := hg; rw [this]; exact hns) hkp (by decide) (by decide) (by decide)
end
end Go.Proofs.Ytdknkbpgkkakhaa
