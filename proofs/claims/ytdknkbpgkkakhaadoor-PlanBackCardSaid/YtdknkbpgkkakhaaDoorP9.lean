/- Layer 2: what is reached by steps is added, in place. -/
import Derived.Test.YtdknkbpgkkakhaaDoorPlan3
import Derived.Test.YtdknkbpgkkakhaaDoorP2
namespace Go.Proofs.YtdknkbpgkkakhaaDoor
open Go.RowKit

def rowBs (n : Nat) (g : Nat → Bool) : List Bool := (List.range n).map g
def stepR (f : Nat → Nat → Bool) (a k j : Nat) : Nat → Nat → Bool := fun a' b' => if a' = a ∧ b' < j then f a b' || (f a k && f k b') else f a' b'
/-- Row after row, by way of k. -/
def rowsUp (n : Nat) (f : Nat → Nat → Bool) (k : Nat) : Nat → Nat → Nat → Bool
  | 0 => f
  | a + 1 => stepR (rowsUp n f k a) a k n
def close (n : Nat) (f : Nat → Nat → Bool) : Nat → Nat → Nat → Bool
  | 0 => f
  | k + 1 => rowsUp n (close n f k) k n
theorem stepR_zero (f : Nat → Nat → Bool) (a k : Nat) : stepR f a k 0 = f := by funext a' b'; simp [stepR]
theorem stepR_succ (f : Nat → Nat → Bool) (a k j : Nat) : (fun a' b' => if a' = a ∧ b' = j then f a j || (f a k && f k j) else stepR f a k j a' b') = stepR f a k (j + 1) := by
  funext a' b'
  unfold stepR
  by_cases h1 : a' = a
  · by_cases h2 : b' = j
    · subst h1 h2; simp
    · by_cases h3 : b' < j
      · rw [if_neg (by omega), if_pos ⟨h1, h3⟩, if_pos ⟨h1, by omega⟩]
      · rw [if_neg (by omega), if_neg (by omega), if_neg (by omega)]
  · rw [if_neg (by omega), if_neg (by omega), if_neg (by omega)]
/-- What the round of place j reads. -/
theorem stepR_here (f : Nat → Nat → Bool) (a k j : Nat) : stepR f a k j a j = f a j := by simp [stepR]
theorem stepR_there (f : Nat → Nat → Bool) (a k j : Nat) : stepR f a k j k j = f k j := by simp [stepR]
theorem stepR_way (f : Nat → Nat → Bool) (a k j : Nat) : stepR f a k j a k = f a k := by
  unfold stepR
  split
  · cases f a k <;> simp
  · rfl
theorem stepR_no {f : Nat → Nat → Bool} {a k : Nat} (h : f a k = false) (j : Nat) : stepR f a k j = f := by
  funext a' b'
  unfold stepR
  split
  · rename_i e; rw [e.1, h]; simp
  · rfl

structure Grid (w : World) (p n : Nat) (q : Nat → Nat) (f : Nat → Nat → Bool) : Prop where
  top : ∀ a, a < n → ∃ c, w.cell? ⟨p, a, none⟩ = some (.slice (some ⟨q a, 0, none⟩) n c)
  row : ∀ a, a < n → ∃ cs, Blk w (q a) 4 cs ∧ ∀ b, b < n → cs[b]? = some (.bool (f a b))
  topT : ∃ cs fr, w.heap[p]? = some (.cells cs 38 fr)
  inj : ∀ a b, a < n → b < n → q a = q b → a = b
theorem Blk.ne {w : World} {g p : Nat} {t t' : TypeId} {cs cs' : Array Value} {fr} (h : Blk w g t cs) (hp : w.heap[p]? = some (.cells cs' t' fr)) (ht : t ≠ t') : p ≠ g := by
  intro e
  subst e
  unfold Blk at h
  rw [h] at hp
  injection hp with hp
  injection hp with _ hp
  exact ht hp
section
variable {w w' : World} {p n : Nat} {q : Nat → Nat} {f : Nat → Nat → Bool}
theorem Grid.ext (h : Grid w p n q f) (x : Ext w w') : Grid w' p n q f :=
  ⟨fun a ha => by obtain ⟨c, e⟩ := h.top a ha; exact ⟨c, ext_cell x e⟩, fun a ha => by obtain ⟨cs, e, r⟩ := h.row a ha; exact ⟨cs, e.ext x, r⟩, by obtain ⟨cs, fr, e⟩ := h.topT; exact ⟨cs, fr, ext_block x e⟩, h.inj⟩
theorem Grid.cell (h : Grid w p n q f) {a b : Nat} (ha : a < n) (hb : b < n) : w.cell? ⟨q a, b, none⟩ = some (.bool (f a b)) := by
  obtain ⟨cs, e, r⟩ := h.row a ha
  rw [e.cell b, r b hb]
theorem Grid.free (h : Grid w p n q f) {a : Nat} (ha : a < n) (b : Nat) : w.frozen? ⟨q a, b, none⟩ = false := by
  obtain ⟨cs, e, r⟩ := h.row a ha
  exact e.frozen b
theorem Grid.mods {S : Nat → Prop} (h : Grid w p n q f) (m : Mods S w w') (hp : ¬ S p) (hq : ∀ a, a < n → ¬ S (q a)) : Grid w' p n q f := by
  obtain ⟨cs, fr, e⟩ := h.topT
  have hlt : p < w.heap.size := (Array.getElem?_eq_some_iff.1 e).1
  exact ⟨fun a ha => by obtain ⟨c, e⟩ := h.top a ha; exact ⟨c, (World.cell?_of_block (w := w) (m.block p hlt hp)).trans e⟩, fun a ha => by obtain ⟨cs, e, r⟩ := h.row a ha; exact ⟨cs, e.mods m (hq a ha), r⟩, ⟨cs, fr, (m.block p hlt hp).trans e⟩, h.inj⟩
/-- Another block, of another type, turns. -/
theorem Grid.mods1 (h : Grid w p n q f) {g : Nat} {t : TypeId} {cs : Array Value} (hg : Blk w g t cs) (h1 : t ≠ 38) (h2 : t ≠ 4) (m : Mods (fun k => k = g) w w') : Grid w' p n q f := by
  obtain ⟨cs', fr, e⟩ := h.topT
  refine h.mods m (hg.ne e h1) (fun a ha => ?_)
  obtain ⟨cs2, e2, _⟩ := h.row a ha
  exact hg.ne e2 h2
theorem Grid.set (h : Grid w p n q f) {a b : Nat} (ha : a < n) (hb : b < n) (x : Bool) : Grid (w.setCell ⟨q a, b, none⟩ (.bool x)) p n q (fun a' b' => if a' = a ∧ b' = b then x else f a' b') := by
  obtain ⟨cs, fr, e⟩ := h.topT
  have hm := mods_setCell w ⟨q a, b, none⟩ (.bool x)
  have hne : p ≠ q a := by obtain ⟨cs', e', _⟩ := h.row a ha; exact e'.ne e (by decide)
  have hlt : p < w.heap.size := (Array.getElem?_eq_some_iff.1 e).1
  refine ⟨fun a' ha' => by obtain ⟨c, e⟩ := h.top a' ha'; exact ⟨c, (World.cell?_of_block (w := w) (hm.block p hlt hne)).trans e⟩, fun a' ha' => ?_, ⟨cs, fr, (hm.block p hlt hne).trans e⟩, h.inj⟩
  obtain ⟨cs', e', r⟩ := h.row a' ha'
  by_cases haa : a' = a
  · subst haa
    refine ⟨_, e'.set_ b (.bool x), fun b' hb' => ?_⟩
    rw [Array.getElem?_setIfInBounds]
    by_cases hbb : b = b'
    · subst hbb
      have := (Array.getElem?_eq_some_iff.1 (r b hb)).1
      simp [this]
    · rw [if_neg hbb, r b' hb']
      simp [Ne.symm hbb]
  · have hq : q a' ≠ q a := fun e => haa (h.inj a' a ha' ha e)
    exact ⟨cs', e'.mods hm hq, fun b' hb' => by rw [r b' hb']; simp [haa]⟩
def gridM (n : Nat) (f : Nat → Nat → Bool) : Mat := (List.range n).map fun a => rowBs n (f a)
theorem gridM_length (n : Nat) (f : Nat → Nat → Bool) : (gridM n f).length = n := by simp [gridM]
/-- A grid is a lattice in memory. -/
theorem Grid.matAt (h : Grid w p n q f) (B : Nat) : ∃ rs, rs.length = n ∧ mat rs = gridM n f ∧ MatAt w B (some ⟨p, 0, none⟩) rs := by
  have hc : ∀ a, ∃ c, a < n → w.cell? ⟨p, a, none⟩ = some (.slice (some ⟨q a, 0, none⟩) n c) := fun a => by
    by_cases ha : a < n
    · obtain ⟨c, e⟩ := h.top a ha; exact ⟨c, fun _ => e⟩
    · exact ⟨0, fun h => absurd h ha⟩
  refine ⟨(List.range n).map fun a => ⟨some ⟨q a, 0, none⟩, (hc a).choose, rowBs n (f a)⟩, by simp, by simp [mat, gridM], ?_, ?_⟩
  · intro i hi
    have hin : i < n := by simpa using hi
    obtain ⟨cs, fr, e⟩ := h.topT
    refine ⟨_, rfl, .inr ⟨_, _, e⟩, fun j v hj => ?_⟩
    have hj0 : j = 0 := by
      have := (List.getElem?_eq_some_iff.1 hj).1
      simp [Rw.cells] at this; exact this
    subst hj0
    have hv : v = .slice (some ⟨q i, 0, none⟩) n (hc i).choose := by simpa [Rw.cells, rowBs] using hj.symm
    rw [hv, Nat.mul_one, add_zero, addr_at rfl rfl]
    exact (hc i).choose_spec hin
  · intro r hr
    obtain ⟨a, ha, rfl⟩ := List.mem_map.1 hr
    have han := List.mem_range.1 ha
    intro i hi
    have hin : i < n := by simpa [rowBs] using hi
    obtain ⟨cs, e, r⟩ := h.row a han
    refine ⟨_, rfl, .inr ⟨_, _, e⟩, fun j v hj => ?_⟩
    have hj0 : j = 0 := by
      have := (List.getElem?_eq_some_iff.1 hj).1
      simp [bitCells] at this; exact this
    subst hj0
    have hv : v = .bool (f a i) := by simpa [bitCells, rowBs] using hj.symm
    rw [hv, Nat.mul_one, add_zero, addr_at rfl rfl, h.cell han hin]
end
/-- The blocks of the rows. -/
def InRows (n : Nat) (q : Nat → Nat) (k : Nat) : Prop := ∃ a, a < n ∧ k = q a
set_option maxRecDepth 100000 in
set_option maxHeartbeats 4000000 in
theorem reached_any {w : World} {p n c : Nat} {q : Nat → Nat} {f : Nat → Nat → Bool} (hG : Grid w p n q f) (hn : n ≤ 6) :
    Calls Tryd.prog 24 #[.slice (some ⟨p, 0, none⟩) n c] w fun e w' => e = .returned (.tuple #[]) ∧ Grid w' p n q (close n f n) ∧ Mods (InRows n q) w w' := by
  have htr : ∀ (v : World) (a b : Nat) (x : Value), Mods (InRows n q) w v → a < n → Mods (InRows n q) w (v.setCell ⟨q a, b, none⟩ x) := fun v a b x h ha =>
    h.trans (mods_setCell _ _ _) (fun k _ hk => ⟨_, ha, hk⟩)
  have HTR := Lib.hid htr
  clear htr
  go_enter Tryd.func24, Tryd.ntmps24
  go_wp2
  go_loopw [7] (fun i wr => ∃ b : Nat, i = .int .i64 (b : Int) ∧ b ≤ n ∧ Grid wr p n q (close n f b) ∧ Mods (InRows n q) w wr) (fun i _ => n - (intOf i).toNat)
  case atStart => exact ⟨0, rfl, Nat.zero_le _, hG, Mods.refl _ _⟩
  case round =>
    obtain ⟨b, rfl, hb, G, hm⟩ := hrel
    by_cases hlt : b < n
    · have HC : Hid (close n f (b + 1) = rowsUp n (close n f b) b n) := rfl
      obtain ⟨F, hF⟩ : ∃ F, F = close n f b := ⟨_, rfl⟩
      rw [← hF] at G HC
      clear hF
      go_wp2
      go_step3
      go_wp2
      go_step3
      go_wp2
      go_loopw [12] (fun i wi => ∃ a : Nat, i = .int .i64 (a : Int) ∧ a ≤ n ∧ Grid wi p n q (rowsUp n F b a) ∧ Mods (InRows n q) w wi) (fun i _ => n - (intOf i).toNat)
      case atStart => exact ⟨0, rfl, Nat.zero_le _, G, hm⟩
      case round =>
        clear G hm
        obtain ⟨a, rfl, ha, G, hm⟩ := hrel
        by_cases hla : a < n
        · have HR : Hid (rowsUp n F b (a + 1) = stepR (rowsUp n F b a) a b n) := rfl
          obtain ⟨E, hE⟩ : ∃ E, E = rowsUp n F b a := ⟨_, rfl⟩
          rw [← hE] at G HR
          clear hE
          obtain ⟨ca, p0⟩ := G.top a hla
          have p1 := G.cell hla hlt
          cases hv : E a b
          · rw [hv] at p1
            have HS : Hid (stepR E a b n = E) := stepR_no hv n
            clear hv
            go_wp2
            go_roundw
            case rel => exact ⟨a + 1, by go_num, hla, by rw [HR.out, HS.out]; exact G, hm⟩
            case measure => simp [intOf]; omega
          · rw [hv] at p1
            have HV := Lib.hid hv
            clear hv
            go_wp2
            go_loopw [25] (fun i wi => ∃ j : Nat, i = .int .i64 (j : Int) ∧ j ≤ n ∧ Grid wi p n q (stepR E a b j) ∧ Mods (InRows n q) w wi) (fun i _ => n - (intOf i).toNat)
            case atStart => exact ⟨0, rfl, Nat.zero_le _, by rw [stepR_zero]; exact G, hm⟩
            case round =>
              clear G hm p0 p1
              obtain ⟨j, rfl, hj, G, hm⟩ := hrel
              obtain ⟨wo, rfl⟩ : ∃ wo : World, wo = wr := ⟨_, rfl⟩
              by_cases hlj : j < n
              · obtain ⟨ca', p0⟩ := G.top a hla
                obtain ⟨cb, p1⟩ := G.top b hlt
                have p2 := G.cell hla hlj
                have p3 := G.cell hlt hlj
                rw [stepR_here] at p2
                rw [stepR_there] at p3
                have f0 := G.free hla j
                have y0 := fun x (h : Ext wo x) => ext_cell h p0
                have y1 := fun x (h : Ext wo x) => ext_cell h p1
                have y2 := fun x (h : Ext wo x) => ext_cell h p2
                have y3 := fun x (h : Ext wo x) => ext_cell h p3
                have G2 := (G.set hla hlj (E a j || E b j)).ext (ext_drewN _ 1)
                have hm2 : Mods (InRows n q) w (wo.setCell ⟨q a, j, none⟩ (.bool (E a j || E b j))).drew := (HTR.out _ _ _ _ hm hla).trans (Mods.of_below (ext_drewN _ 1) (fun _ => False)) (fun _ _ h => h.elim)
                have HE : Hid ((fun a' b' => if a' = a ∧ b' = j then E a j || E b j else stepR E a b j a' b') = stepR E a b (j + 1)) := by
                  show _ = _
                  rw [← stepR_succ, HV.out, Bool.true_and]
                rw [HE.out] at G2
                clear p1 p3 G hm
                cases hx : E a j <;> rw [hx] at y2 p2 G2 hm2
                · rw [Bool.false_or] at G2 hm2
                  go_upto_region 10 with fail
                  refine wp_region_planH (.reads 0 (.reads 1 (.reads 2 (.reads 3 (.reads 4 (.reads 5 (.reads 6 (.reads 7 (.reads 8 (.reads 9 (.reads 10 (.reads 11 (.reads 12 (.reads 13 (.reads 14 (.reads 15 (.reads 16 (.reads 17 (.reads 18 (.reads 19 (.reads 20 (.reads 21 (.turns 22 (.done)))))))))))))))))))))))) (by kernel_rfl) (by kernel_rfl) (fun x => Ext wo x) (ext_drewN wo 1) (fun ops HOPS => ?_)
                  (refine segH_pure _ _ _ _ _ _ (hid_get HOPS 0 _ rfl) rfl wanted_none (fun _ _ _ _ h => h) ?_; intro K hK; go_big_quiet_op; go_big_quiet_on)
                  (refine segH_pure _ _ _ _ _ _ (hid_get HOPS 1 _ rfl) rfl wanted_none (fun _ _ _ _ h => h) ?_; intro K hK; go_big_quiet_op; go_big_quiet_on)
                  (refine segH_pure _ _ _ _ _ _ (hid_get HOPS 2 _ rfl) rfl wanted_none (fun _ _ _ _ h => h) ?_; intro K hK; go_big_quiet_op; go_big_quiet_on)
                  (refine segH_load _ _ _ _ _ _ _ _ _ (hid_get HOPS 3 _ rfl) wanted_none rfl (fun _ _ _ _ h => h) (fun y hy => by go_simp; try with_reducible rfl) ?_; simp only [Act.put, List.setIfInBounds_toArray, List.set_cons_zero, List.set_cons_succ])
                  (refine segH_pure _ _ _ _ _ _ (hid_get HOPS 4 _ rfl) rfl wanted_none (fun _ _ _ _ h => h) ?_; intro K hK; go_big_quiet_op; go_big_quiet_on)
                  (refine segH_pure _ _ _ _ _ _ (hid_get HOPS 5 _ rfl) rfl wanted_none (fun _ _ _ _ h => h) ?_; intro K hK; go_big_quiet_op; go_big_quiet_on)
                  (refine segH_pure _ _ _ _ _ _ (hid_get HOPS 6 _ rfl) rfl wanted_none (fun _ _ _ _ h => h) ?_; intro K hK; go_big_quiet_op; go_big_quiet_on)
                  (refine segH_pure _ _ _ _ _ _ (hid_get HOPS 7 _ rfl) rfl wanted_none (fun _ _ _ _ h => h) ?_; intro K hK; go_big_quiet_op; go_big_quiet_on)
                  (refine segH_load _ _ _ _ _ _ _ _ _ (hid_get HOPS 8 _ rfl) wanted_none rfl (fun _ _ _ _ h => h) (fun y hy => by go_simp; try with_reducible rfl) ?_; simp only [Act.put, List.setIfInBounds_toArray, List.set_cons_zero, List.set_cons_succ])
                  (refine segH_pure _ _ _ _ _ _ (hid_get HOPS 9 _ rfl) rfl wanted_none (fun _ _ _ _ h => h) ?_; intro K hK; go_big_quiet_op; go_big_quiet_on)
                  (refine segH_pure _ _ _ _ _ _ (hid_get HOPS 10 _ rfl) rfl wanted_none (fun _ _ _ _ h => h) ?_; intro K hK; go_big_quiet_op; go_big_quiet_on)
                  (refine segH_load _ _ _ _ _ _ _ _ _ (hid_get HOPS 11 _ rfl) wanted_none rfl (fun _ _ _ _ h => h) (fun y hy => by go_simp; try with_reducible rfl) ?_; simp only [Act.put, List.setIfInBounds_toArray, List.set_cons_zero, List.set_cons_succ])
                  (refine segH_pure _ _ _ _ _ _ (hid_get HOPS 12 _ rfl) rfl wanted_none (fun _ _ _ _ h => h) ?_; intro K hK; go_big_quiet_op; go_big_quiet_on)
                  first | (refine segH_pass _ _ _ _ _ _ (hid_get HOPS 13 _ rfl) (wanted_some (hid_get HOPS 12 _ rfl) rfl rfl rfl) (fun _ _ _ _ h => h) ?_; simp only [Act.put, List.setIfInBounds_toArray, List.set_cons_zero, List.set_cons_succ]) | (refine segH_pure _ _ _ _ _ _ (hid_get HOPS 13 _ rfl) rfl (wanted_some (hid_get HOPS 12 _ rfl) rfl rfl rfl) (fun _ _ _ _ h => h) ?_; intro K hK; go_big_quiet_op; go_big_quiet_on) | (refine segH_pass _ _ _ _ _ _ (hid_get HOPS 13 _ rfl) (wanted_gone (hid_get HOPS 12 _ rfl) rfl rfl) (fun _ _ _ _ h => h) ?_; simp only [Act.put, List.setIfInBounds_toArray, List.set_cons_zero, List.set_cons_succ])
                  first | (refine segH_pass _ _ _ _ _ _ (hid_get HOPS 14 _ rfl) (wanted_some (hid_get HOPS 12 _ rfl) rfl rfl rfl) (fun _ _ _ _ h => h) ?_; simp only [Act.put, List.setIfInBounds_toArray, List.set_cons_zero, List.set_cons_succ]) | (refine segH_pure _ _ _ _ _ _ (hid_get HOPS 14 _ rfl) rfl (wanted_some (hid_get HOPS 12 _ rfl) rfl rfl rfl) (fun _ _ _ _ h => h) ?_; intro K hK; go_big_quiet_op; go_big_quiet_on) | (refine segH_pass _ _ _ _ _ _ (hid_get HOPS 14 _ rfl) (wanted_gone (hid_get HOPS 12 _ rfl) rfl rfl) (fun _ _ _ _ h => h) ?_; simp only [Act.put, List.setIfInBounds_toArray, List.set_cons_zero, List.set_cons_succ])
                  first | (refine segH_pass _ _ _ _ _ _ (hid_get HOPS 15 _ rfl) (wanted_some (hid_get HOPS 12 _ rfl) rfl rfl rfl) (fun _ _ _ _ h => h) ?_; simp only [Act.put, List.setIfInBounds_toArray, List.set_cons_zero, List.set_cons_succ]) | (refine segH_pure _ _ _ _ _ _ (hid_get HOPS 15 _ rfl) rfl (wanted_some (hid_get HOPS 12 _ rfl) rfl rfl rfl) (fun _ _ _ _ h => h) ?_; intro K hK; go_big_quiet_op; go_big_quiet_on) | (refine segH_pass _ _ _ _ _ _ (hid_get HOPS 15 _ rfl) (wanted_gone (hid_get HOPS 12 _ rfl) rfl rfl) (fun _ _ _ _ h => h) ?_; simp only [Act.put, List.setIfInBounds_toArray, List.set_cons_zero, List.set_cons_succ])
                  first | (refine segH_pass _ _ _ _ _ _ (hid_get HOPS 16 _ rfl) (wanted_some (hid_get HOPS 12 _ rfl) rfl rfl rfl) (fun _ _ _ _ h => h) ?_; simp only [Act.put, List.setIfInBounds_toArray, List.set_cons_zero, List.set_cons_succ]) | (refine segH_load _ _ _ _ _ _ _ _ _ (hid_get HOPS 16 _ rfl) (wanted_some (hid_get HOPS 12 _ rfl) rfl rfl rfl) rfl (fun _ _ _ _ h => h) (fun y hy => by go_simp; try with_reducible rfl) ?_; simp only [Act.put, List.setIfInBounds_toArray, List.set_cons_zero, List.set_cons_succ]) | (refine segH_pass _ _ _ _ _ _ (hid_get HOPS 16 _ rfl) (wanted_gone (hid_get HOPS 12 _ rfl) rfl rfl) (fun _ _ _ _ h => h) ?_; simp only [Act.put, List.setIfInBounds_toArray, List.set_cons_zero, List.set_cons_succ])
                  first | (refine segH_pass _ _ _ _ _ _ (hid_get HOPS 17 _ rfl) (wanted_some (hid_get HOPS 12 _ rfl) rfl rfl rfl) (fun _ _ _ _ h => h) ?_; simp only [Act.put, List.setIfInBounds_toArray, List.set_cons_zero, List.set_cons_succ]) | (refine segH_pure _ _ _ _ _ _ (hid_get HOPS 17 _ rfl) rfl (wanted_some (hid_get HOPS 12 _ rfl) rfl rfl rfl) (fun _ _ _ _ h => h) ?_; intro K hK; go_big_quiet_op; go_big_quiet_on) | (refine segH_pass _ _ _ _ _ _ (hid_get HOPS 17 _ rfl) (wanted_gone (hid_get HOPS 12 _ rfl) rfl rfl) (fun _ _ _ _ h => h) ?_; simp only [Act.put, List.setIfInBounds_toArray, List.set_cons_zero, List.set_cons_succ])
                  first | (refine segH_pass _ _ _ _ _ _ (hid_get HOPS 18 _ rfl) (wanted_some (hid_get HOPS 12 _ rfl) rfl rfl rfl) (fun _ _ _ _ h => h) ?_; simp only [Act.put, List.setIfInBounds_toArray, List.set_cons_zero, List.set_cons_succ]) | (refine segH_pure _ _ _ _ _ _ (hid_get HOPS 18 _ rfl) rfl (wanted_some (hid_get HOPS 12 _ rfl) rfl rfl rfl) (fun _ _ _ _ h => h) ?_; intro K hK; go_big_quiet_op; go_big_quiet_on) | (refine segH_pass _ _ _ _ _ _ (hid_get HOPS 18 _ rfl) (wanted_gone (hid_get HOPS 12 _ rfl) rfl rfl) (fun _ _ _ _ h => h) ?_; simp only [Act.put, List.setIfInBounds_toArray, List.set_cons_zero, List.set_cons_succ])
                  first | (refine segH_pass _ _ _ _ _ _ (hid_get HOPS 19 _ rfl) (wanted_some (hid_get HOPS 12 _ rfl) rfl rfl rfl) (fun _ _ _ _ h => h) ?_; simp only [Act.put, List.setIfInBounds_toArray, List.set_cons_zero, List.set_cons_succ]) | (refine segH_load _ _ _ _ _ _ _ _ _ (hid_get HOPS 19 _ rfl) (wanted_some (hid_get HOPS 12 _ rfl) rfl rfl rfl) rfl (fun _ _ _ _ h => h) (fun y hy => by go_simp; try with_reducible rfl) ?_; simp only [Act.put, List.setIfInBounds_toArray, List.set_cons_zero, List.set_cons_succ]) | (refine segH_pass _ _ _ _ _ _ (hid_get HOPS 19 _ rfl) (wanted_gone (hid_get HOPS 12 _ rfl) rfl rfl) (fun _ _ _ _ h => h) ?_; simp only [Act.put, List.setIfInBounds_toArray, List.set_cons_zero, List.set_cons_succ])
                  (refine segH_pure _ _ _ _ _ _ (hid_get HOPS 20 _ rfl) rfl wanted_none (fun _ _ _ _ h => h) ?_; intro K hK; go_big_quiet_op; go_big_quiet_on)
                  (refine segH_pure _ _ _ _ _ _ (hid_get HOPS 21 _ rfl) rfl wanted_none (fun _ _ _ _ h => h) ?_; intro K hK; go_big_quiet_op; go_big_quiet_on)
                  refine segH_turns _ _ _ _ _ _ (hid_get HOPS 22 _ rfl) wanted_none (fun K hK => ?_)
                  go_big_op
                  refine hK _ _ (fun _ => True) trivial ?_
                  clear hK
                  refine seg_done ?_
                  clear HOPS
                  clear y0 y1 y2 y3 p0 p2 f0
                  go_wp2
                  go_roundw
                  case rel => exact ⟨j + 1, by go_num, hlj, G2, hm2⟩
                  case measure => simp [intOf]; omega
                · rw [Bool.true_or] at G2 hm2
                  go_upto_region 10 with fail
                  refine wp_region_planH (.reads 0 (.reads 1 (.reads 2 (.reads 3 (.reads 4 (.reads 5 (.reads 6 (.reads 7 (.reads 8 (.reads 9 (.reads 10 (.reads 11 (.reads 12 (.reads 13 (.reads 14 (.reads 15 (.reads 16 (.reads 17 (.reads 18 (.reads 19 (.reads 20 (.reads 21 (.turns 22 (.done)))))))))))))))))))))))) (by kernel_rfl) (by kernel_rfl) (fun x => Ext wo x) (ext_drewN wo 1) (fun ops HOPS => ?_)
                  (refine segH_pure _ _ _ _ _ _ (hid_get HOPS 0 _ rfl) rfl wanted_none (fun _ _ _ _ h => h) ?_; intro K hK; go_big_quiet_op; go_big_quiet_on)
                  (refine segH_pure _ _ _ _ _ _ (hid_get HOPS 1 _ rfl) rfl wanted_none (fun _ _ _ _ h => h) ?_; intro K hK; go_big_quiet_op; go_big_quiet_on)
                  (refine segH_pure _ _ _ _ _ _ (hid_get HOPS 2 _ rfl) rfl wanted_none (fun _ _ _ _ h => h) ?_; intro K hK; go_big_quiet_op; go_big_quiet_on)
                  (refine segH_load _ _ _ _ _ _ _ _ _ (hid_get HOPS 3 _ rfl) wanted_none rfl (fun _ _ _ _ h => h) (fun y hy => by go_simp; try with_reducible rfl) ?_; simp only [Act.put, List.setIfInBounds_toArray, List.set_cons_zero, List.set_cons_succ])
                  (refine segH_pure _ _ _ _ _ _ (hid_get HOPS 4 _ rfl) rfl wanted_none (fun _ _ _ _ h => h) ?_; intro K hK; go_big_quiet_op; go_big_quiet_on)
                  (refine segH_pure _ _ _ _ _ _ (hid_get HOPS 5 _ rfl) rfl wanted_none (fun _ _ _ _ h => h) ?_; intro K hK; go_big_quiet_op; go_big_quiet_on)
                  (refine segH_pure _ _ _ _ _ _ (hid_get HOPS 6 _ rfl) rfl wanted_none (fun _ _ _ _ h => h) ?_; intro K hK; go_big_quiet_op; go_big_quiet_on)
                  (refine segH_pure _ _ _ _ _ _ (hid_get HOPS 7 _ rfl) rfl wanted_none (fun _ _ _ _ h => h) ?_; intro K hK; go_big_quiet_op; go_big_quiet_on)
                  (refine segH_load _ _ _ _ _ _ _ _ _ (hid_get HOPS 8 _ rfl) wanted_none rfl (fun _ _ _ _ h => h) (fun y hy => by go_simp; try with_reducible rfl) ?_; simp only [Act.put, List.setIfInBounds_toArray, List.set_cons_zero, List.set_cons_succ])
                  (refine segH_pure _ _ _ _ _ _ (hid_get HOPS 9 _ rfl) rfl wanted_none (fun _ _ _ _ h => h) ?_; intro K hK; go_big_quiet_op; go_big_quiet_on)
                  (refine segH_pure _ _ _ _ _ _ (hid_get HOPS 10 _ rfl) rfl wanted_none (fun _ _ _ _ h => h) ?_; intro K hK; go_big_quiet_op; go_big_quiet_on)
                  (refine segH_load _ _ _ _ _ _ _ _ _ (hid_get HOPS 11 _ rfl) wanted_none rfl (fun _ _ _ _ h => h) (fun y hy => by go_simp; try with_reducible rfl) ?_; simp only [Act.put, List.setIfInBounds_toArray, List.set_cons_zero, List.set_cons_succ])
                  (refine segH_pure _ _ _ _ _ _ (hid_get HOPS 12 _ rfl) rfl wanted_none (fun _ _ _ _ h => h) ?_; intro K hK; go_big_quiet_op; go_big_quiet_on)
                  first | (refine segH_pass _ _ _ _ _ _ (hid_get HOPS 13 _ rfl) (wanted_some (hid_get HOPS 12 _ rfl) rfl rfl rfl) (fun _ _ _ _ h => h) ?_; simp only [Act.put, List.setIfInBounds_toArray, List.set_cons_zero, List.set_cons_succ]) | (refine segH_pure _ _ _ _ _ _ (hid_get HOPS 13 _ rfl) rfl (wanted_some (hid_get HOPS 12 _ rfl) rfl rfl rfl) (fun _ _ _ _ h => h) ?_; intro K hK; go_big_quiet_op; go_big_quiet_on) | (refine segH_pass _ _ _ _ _ _ (hid_get HOPS 13 _ rfl) (wanted_gone (hid_get HOPS 12 _ rfl) rfl rfl) (fun _ _ _ _ h => h) ?_; simp only [Act.put, List.setIfInBounds_toArray, List.set_cons_zero, List.set_cons_succ])
                  first | (refine segH_pass _ _ _ _ _ _ (hid_get HOPS 14 _ rfl) (wanted_some (hid_get HOPS 12 _ rfl) rfl rfl rfl) (fun _ _ _ _ h => h) ?_; simp only [Act.put, List.setIfInBounds_toArray, List.set_cons_zero, List.set_cons_succ]) | (refine segH_pure _ _ _ _ _ _ (hid_get HOPS 14 _ rfl) rfl (wanted_some (hid_get HOPS 12 _ rfl) rfl rfl rfl) (fun _ _ _ _ h => h) ?_; intro K hK; go_big_quiet_op; go_big_quiet_on) | (refine segH_pass _ _ _ _ _ _ (hid_get HOPS 14 _ rfl) (wanted_gone (hid_get HOPS 12 _ rfl) rfl rfl) (fun _ _ _ _ h => h) ?_; simp only [Act.put, List.setIfInBounds_toArray, List.set_cons_zero, List.set_cons_succ])
                  first | (refine segH_pass _ _ _ _ _ _ (hid_get HOPS 15 _ rfl) (wanted_some (hid_get HOPS 12 _ rfl) rfl rfl rfl) (fun _ _ _ _ h => h) ?_; simp only [Act.put, List.setIfInBounds_toArray, List.set_cons_zero, List.set_cons_succ]) | (refine segH_pure _ _ _ _ _ _ (hid_get HOPS 15 _ rfl) rfl (wanted_some (hid_get HOPS 12 _ rfl) rfl rfl rfl) (fun _ _ _ _ h => h) ?_; intro K hK; go_big_quiet_op; go_big_quiet_on) | (refine segH_pass _ _ _ _ _ _ (hid_get HOPS 15 _ rfl) (wanted_gone (hid_get HOPS 12 _ rfl) rfl rfl) (fun _ _ _ _ h => h) ?_; simp only [Act.put, List.setIfInBounds_toArray, List.set_cons_zero, List.set_cons_succ])
                  first | (refine segH_pass _ _ _ _ _ _ (hid_get HOPS 16 _ rfl) (wanted_some (hid_get HOPS 12 _ rfl) rfl rfl rfl) (fun _ _ _ _ h => h) ?_; simp only [Act.put, List.setIfInBounds_toArray, List.set_cons_zero, List.set_cons_succ]) | (refine segH_load _ _ _ _ _ _ _ _ _ (hid_get HOPS 16 _ rfl) (wanted_some (hid_get HOPS 12 _ rfl) rfl rfl rfl) rfl (fun _ _ _ _ h => h) (fun y hy => by go_simp; try with_reducible rfl) ?_; simp only [Act.put, List.setIfInBounds_toArray, List.set_cons_zero, List.set_cons_succ]) | (refine segH_pass _ _ _ _ _ _ (hid_get HOPS 16 _ rfl) (wanted_gone (hid_get HOPS 12 _ rfl) rfl rfl) (fun _ _ _ _ h => h) ?_; simp only [Act.put, List.setIfInBounds_toArray, List.set_cons_zero, List.set_cons_succ])
                  first | (refine segH_pass _ _ _ _ _ _ (hid_get HOPS 17 _ rfl) (wanted_some (hid_get HOPS 12 _ rfl) rfl rfl rfl) (fun _ _ _ _ h => h) ?_; simp only [Act.put, List.setIfInBounds_toArray, List.set_cons_zero, List.set_cons_succ]) | (refine segH_pure _ _ _ _ _ _ (hid_get HOPS 17 _ rfl) rfl (wanted_some (hid_get HOPS 12 _ rfl) rfl rfl rfl) (fun _ _ _ _ h => h) ?_; intro K hK; go_big_quiet_op; go_big_quiet_on) | (refine segH_pass _ _ _ _ _ _ (hid_get HOPS 17 _ rfl) (wanted_gone (hid_get HOPS 12 _ rfl) rfl rfl) (fun _ _ _ _ h => h) ?_; simp only [Act.put, List.setIfInBounds_toArray, List.set_cons_zero, List.set_cons_succ])
                  first | (refine segH_pass _ _ _ _ _ _ (hid_get HOPS 18 _ rfl) (wanted_some (hid_get HOPS 12 _ rfl) rfl rfl rfl) (fun _ _ _ _ h => h) ?_; simp only [Act.put, List.setIfInBounds_toArray, List.set_cons_zero, List.set_cons_succ]) | (refine segH_pure _ _ _ _ _ _ (hid_get HOPS 18 _ rfl) rfl (wanted_some (hid_get HOPS 12 _ rfl) rfl rfl rfl) (fun _ _ _ _ h => h) ?_; intro K hK; go_big_quiet_op; go_big_quiet_on) | (refine segH_pass _ _ _ _ _ _ (hid_get HOPS 18 _ rfl) (wanted_gone (hid_get HOPS 12 _ rfl) rfl rfl) (fun _ _ _ _ h => h) ?_; simp only [Act.put, List.setIfInBounds_toArray, List.set_cons_zero, List.set_cons_succ])
                  first | (refine segH_pass _ _ _ _ _ _ (hid_get HOPS 19 _ rfl) (wanted_some (hid_get HOPS 12 _ rfl) rfl rfl rfl) (fun _ _ _ _ h => h) ?_; simp only [Act.put, List.setIfInBounds_toArray, List.set_cons_zero, List.set_cons_succ]) | (refine segH_load _ _ _ _ _ _ _ _ _ (hid_get HOPS 19 _ rfl) (wanted_some (hid_get HOPS 12 _ rfl) rfl rfl rfl) rfl (fun _ _ _ _ h => h) (fun y hy => by go_simp; try with_reducible rfl) ?_; simp only [Act.put, List.setIfInBounds_toArray, List.set_cons_zero, List.set_cons_succ]) | (refine segH_pass _ _ _ _ _ _ (hid_get HOPS 19 _ rfl) (wanted_gone (hid_get HOPS 12 _ rfl) rfl rfl) (fun _ _ _ _ h => h) ?_; simp only [Act.put, List.setIfInBounds_toArray, List.set_cons_zero, List.set_cons_succ])
                  (refine segH_pure _ _ _ _ _ _ (hid_get HOPS 20 _ rfl) rfl wanted_none (fun _ _ _ _ h => h) ?_; intro K hK; go_big_quiet_op; go_big_quiet_on)
                  (refine segH_pure _ _ _ _ _ _ (hid_get HOPS 21 _ rfl) rfl wanted_none (fun _ _ _ _ h => h) ?_; intro K hK; go_big_quiet_op; go_big_quiet_on)
                  refine segH_turns _ _ _ _ _ _ (hid_get HOPS 22 _ rfl) wanted_none (fun K hK => ?_)
                  go_big_op
                  refine hK _ _ (fun _ => True) trivial ?_
                  clear hK
                  refine seg_done ?_
                  clear HOPS
                  clear y0 y1 y2 y3 p0 p2 f0
                  go_wp2
                  go_roundw
                  case rel => exact ⟨j + 1, by go_num, hlj, G2, hm2⟩
                  case measure => simp [intOf]; omega
              · obtain rfl : j = n := by omega
                go_wp2
                go_roundw
                case rel => exact ⟨a + 1, by go_num, hla, by rw [HR.out]; exact G, hm⟩
                case measure => simp [intOf]; omega
        · obtain rfl : a = n := by omega
          go_wp2
          rw [Exit.noGoto_normal]
          go_wp2
          go_roundw
          case rel => exact ⟨b + 1, by go_num, hlt, by rw [HC.out]; exact G, hm⟩
          case measure => simp [intOf]; omega
    · obtain rfl : b = n := by omega
      go_wp2
      (try simp only [Exit.inBlock, Exit.then])
      refine bodyPost_end (results_none rfl _ _ _) rfl ⟨rfl, G, hm⟩
end Go.Proofs.YtdknkbpgkkakhaaDoor
