/- Layer 20: the document's intake in memory; Have, Over, held, Drop. -/
import Derived.Test.YtdknkbpgkkakhaaInt14
import Derived.Test.YtdknkbpgkkakhaaItem4
namespace Go.Proofs.Ytdknkbpgkkakhaa
open Go.RowKit Go.Maps

/-- What the document's intake tells. -/
structure RfSt where
  came : Nat → List It
  held : List It
  first : Int
def RfSt.new : RfSt := ⟨fun _ => [], [], 0⟩
structure RfMem where
  g : Nat
  cs : Array Value
  to_ : Nat → Value
  vh : Value
structure RfAt (w : World) (B : Nat) (A : Option Addr) (c : Nat) (rs : List Rw) (lev : Int) (r : RfMem) (s : RfSt) : Prop where
  base : B ≤ r.g
  blk : Blk w r.g 101 r.cs
  size : r.cs.size = 10
  lat : r.cs[0]? = some (.slice A rs.length c)
  lev_ : r.cs[1]? = some (.int .i64 lev)
  toc : ∀ a : Nat, a < 6 → r.cs[2 + a]? = some (r.to_ a)
  heldc : r.cs[8]? = some r.vh
  firc : r.cs[9]? = some (.int .i64 s.first)
  cames : ∀ a : Nat, a < 6 → ∃ ys : List Iv, Own elIv w B (r.to_ a) ys ∧ its ys = s.came a ∧ ∀ y ∈ ys, IvOk w B y
  helds : ∃ ys : List Iv, Own elIv w B r.vh ys ∧ its ys = s.held ∧ ∀ y ∈ ys, IvOk w B y
  mat : MatAt w B A rs
  fewc : ∀ a : Nat, a < 6 → (s.came a).length ≤ 1000000
  fewh : s.held.length ≤ 1000000
def RfOwn (r : RfMem) (g : Nat) : Prop := g = r.g ∨ r.vh.ownBlock = some g ∨ ∃ a, a < 6 ∧ (r.to_ a).ownBlock = some g
structure RfGo (B : Nat) (w : World) (r : RfMem) (w' : World) (r' : RfMem) : Prop where
  below : Below B w w'
  mods : Mods (fun k => k = r.g) w w'
  sub : ∀ g, RfOwn r' g → RfOwn r g ∨ w.heap.size ≤ g
  g : r'.g = r.g
section
variable {w w' w1 : World} {B : Nat} {A : Option Addr} {c : Nat} {rs : List Rw} {lev : Int} {r : RfMem} {s : RfSt}
theorem RfAt.ext (h : RfAt w B A c rs lev r s) (k : Ext w w') : RfAt w' B A c rs lev r s :=
  ⟨h.base, h.blk.ext k, h.size, h.lat, h.lev_, h.toc, h.heldc, h.firc, fun a ha => by
    obtain ⟨ys, y1, y2, y3⟩ := h.cames a ha
    exact ⟨ys, y1.ext k, y2, fun y hy => (y3 y hy).ext k⟩, by
    obtain ⟨ys, y1, y2, y3⟩ := h.helds
    exact ⟨ys, y1.ext k, y2, fun y hy => (y3 y hy).ext k⟩, h.mat.ext k, h.fewc, h.fewh⟩
theorem RfAt.mods {S : Nat → Prop} {T : List TypeId} (h : RfAt w B A c rs lev r s) (k : Mods S w w') (hS : ∀ g, S g → ¬ RfOwn r g) (hk : Keeps B T w w') (h23 : 23 ∉ T) (h4 : 4 ∉ T) (h47 : 47 ∉ T) : RfAt w' B A c rs lev r s :=
  ⟨h.base, h.blk.mods k (fun e => hS _ e (.inl rfl)), h.size, h.lat, h.lev_, h.toc, h.heldc, h.firc, fun a ha => by
    obtain ⟨ys, y1, y2, y3⟩ := h.cames a ha
    exact ⟨ys, y1.mods k (fun b hb e => hS b e (.inr (.inr ⟨a, ha, hb⟩))), y2, fun y hy => (y3 y hy).keeps hk h47⟩, by
    obtain ⟨ys, y1, y2, y3⟩ := h.helds
    exact ⟨ys, y1.mods k (fun b hb e => hS b e (.inr (.inl hb))), y2, fun y hy => (y3 y hy).keeps hk h47⟩, h.mat.keeps hk h23 h4, h.fewc, h.fewh⟩
theorem RfAt.own_lt (h : RfAt w B A c rs lev r s) {g : Nat} (hg : RfOwn r g) : B ≤ g ∧ g < w.heap.size := by
  rcases hg with rfl | hg | ⟨a, ha, hg⟩
  · exact ⟨h.base, h.blk.lt⟩
  · obtain ⟨ys, y1, _⟩ := h.helds
    exact y1.blk' hg
  · obtain ⟨ys, y1, _⟩ := h.cames a ha
    exact y1.blk' hg
theorem RfAt.base_le (h : RfAt w B A c rs lev r s) : B ≤ w.heap.size := Nat.le_trans h.base (Nat.le_of_lt h.blk.lt)
theorem RfGo.of_ext (h : Ext w w') (hB : B ≤ w.heap.size) (r : RfMem) : RfGo B w r w' r := ⟨h.mono hB, Mods.of_below h _, fun _ h => .inl h, rfl⟩
theorem RfGo.trans {w2 : World} {r1 r2 : RfMem} (h : RfGo B w r w1 r1) (k : RfGo B w1 r1 w2 r2) : RfGo B w r w2 r2 :=
  ⟨h.below.trans k.below, h.mods.trans k.mods (fun i _ e => by rw [e]; exact h.g), fun g hg => by
    rcases k.sub g hg with h1 | h1
    · exact h.sub g h1
    · exact .inr (Nat.le_trans h.below.size h1), k.g.trans h.g⟩
theorem RfGo.ext {w2 : World} {r1 : RfMem} (h : RfGo B w r w1 r1) (hB : B ≤ w.heap.size) (k : Ext w1 w2) : RfGo B w r w2 r1 := h.trans (.of_ext k (Nat.le_trans hB h.below.size) r1)
theorem RfAt.keeps101 (h : RfAt w B A c rs lev r s) (k : Mods (fun i => i = r.g) w w') : Keeps B [101] w w' := Keeps.of_mods k fun i hi => by
  subst hi
  refine ⟨h.base, fun cs t fr hk => ?_⟩
  have h2 := h.blk
  unfold Blk at h2
  rw [h2] at hk
  injection hk with hk
  injection hk with _ hk
  simp [hk]
theorem RfAt.not_g (h : RfAt w B A c rs lev r s) {v : Value} {ys : List Iv} (hO : Own elIv w B v ys) : v.ownBlock ≠ some r.g := fun hb => by
  have h1 := (hO.typed hb).2 _ _ _ h.blk
  cases h1
/-- The pointer's own cell of a level's items, of the held ones, of the first turn is turned. -/
theorem RfAt.put (h : RfAt w B A c rs lev r s) (i : Nat) (v : Value) (r' : RfMem) (s' : RfSt) (hr : r'.g = r.g ∧ r'.cs = r.cs.setIfInBounds i v) (hi : 2 ≤ i)
    (toc : ∀ a : Nat, a < 6 → (r.cs.setIfInBounds i v)[2 + a]? = some (r'.to_ a)) (heldc : (r.cs.setIfInBounds i v)[8]? = some r'.vh) (firc : (r.cs.setIfInBounds i v)[9]? = some (.int .i64 s'.first))
    (cames : ∀ a : Nat, a < 6 → ∃ ys : List Iv, Own elIv w B (r'.to_ a) ys ∧ its ys = s'.came a ∧ ∀ y ∈ ys, IvOk w B y) (helds : ∃ ys : List Iv, Own elIv w B r'.vh ys ∧ its ys = s'.held ∧ ∀ y ∈ ys, IvOk w B y)
    (fewc : ∀ a : Nat, a < 6 → (s'.came a).length ≤ 1000000) (fewh : s'.held.length ≤ 1000000) :
    RfAt (w.setCell ⟨r.g, i, none⟩ v) B A c rs lev r' s' := by
  obtain ⟨e1, e2⟩ := hr
  have k : Mods (fun q => q = r.g) w (w.setCell ⟨r.g, i, none⟩ v) := mods_setCell w ⟨r.g, i, none⟩ v
  have hk := h.keeps101 k
  have hb := h.blk.set_ i v
  rw [← e1, ← e2] at hb
  refine ⟨by rw [e1]; exact h.base, by rw [← e1]; exact hb, by rw [e2, Array.size_setIfInBounds]; exact h.size, ?_, ?_, by rw [e2]; exact toc, by rw [e2]; exact heldc, by rw [e2]; exact firc, fun a ha => ?_, ?_, h.mat.keeps hk (by decide) (by decide), fewc, fewh⟩
  · rw [e2, get_set_ne (by omega)]; exact h.lat
  · rw [e2, get_set_ne (by omega)]; exact h.lev_
  · obtain ⟨ys, y1, y2, y3⟩ := cames a ha
    exact ⟨ys, y1.mods k (fun b hb' e => h.not_g y1 (by rw [hb', e])), y2, fun y hy => (y3 y hy).keeps hk (by decide)⟩
  · obtain ⟨ys, y1, y2, y3⟩ := helds
    exact ⟨ys, y1.mods k (fun b hb' e => h.not_g y1 (by rw [hb', e])), y2, fun y hy => (y3 y hy).keeps hk (by decide)⟩

def rfHave (s : RfSt) (l : Int) : Int := if 0 ≤ l ∧ l < 6 then ((s.came l.toNat).length : Int) else 0
def overL (l : List It) : Nat := l.countP It.shut
def rfOver (s : RfSt) (l : Int) : Int := if 0 ≤ l ∧ l < 6 then (overL (s.came l.toNat) : Int) else 0
set_option maxRecDepth 100000 in
set_option maxHeartbeats 2000000 in
theorem rfHave_any (h : RfAt w B A c rs lev r s) (l : Int) :
    Calls Try.prog 88 #[.pointer (some ⟨r.g, 0, none⟩), .int .i64 l] w fun e w' => e = .returned (.int .i64 (rfHave s l)) ∧ w = w' := by
  unfold rfHave
  by_cases hl : 0 ≤ l ∧ l < 6
  · rw [if_pos hl]
    obtain ⟨h0, h1⟩ := hl
    obtain ⟨a, rfl⟩ := Int.eq_ofNat_of_zero_le h0
    have p := h.blk.cell (2 + a)
    rw [h.toc a (by omega)] at p
    obtain ⟨ys, y1, y2, _⟩ := h.cames a (by omega)
    obtain ⟨Ay, cy, hv⟩ := y1.form
    rw [hv] at p
    have hln : Hid (ys.length = (s.came a).length) := by show _ = _; rw [← y2, its_length]
    rw [show ((a : Int)).toNat = a from rfl]
    clear y1 y2 h hv
    go_enter Try.func88, Try.ntmps88
    go_wp2
    go_ret
    exact ⟨by rw [hln.out]; rfl, rfl⟩
  · rw [if_neg hl]
    clear h
    by_cases h0 : l < 0
    · clear hl
      go_enter Try.func88, Try.ntmps88
      go_wp2
      go_ret
      exact ⟨rfl, rfl⟩
    · have h6 : 6 ≤ l := by omega
      clear hl
      go_enter Try.func88, Try.ntmps88
      go_wp2
      go_ret
      exact ⟨rfl, rfl⟩
set_option maxRecDepth 100000 in
set_option maxHeartbeats 2000000 in
theorem rfOver_any (h : RfAt w B A c rs lev r s) (l : Int) :
    Calls Try.prog 89 #[.pointer (some ⟨r.g, 0, none⟩), .int .i64 l] w fun e w' => e = .returned (.int .i64 (rfOver s l)) ∧ w = w' := by
  unfold rfOver
  by_cases hl : 0 ≤ l ∧ l < 6
  · rw [if_pos hl]
    obtain ⟨h0, h1⟩ := hl
    obtain ⟨a, rfl⟩ := Int.eq_ofNat_of_zero_le h0
    have p := h.blk.cell (2 + a)
    rw [h.toc a (by omega)] at p
    obtain ⟨ys, y1, y2, _⟩ := h.cames a (by omega)
    obtain ⟨Ay, cy, hv⟩ := y1.form
    rw [hv] at p y1
    have hR : RowsIv w B Ay ys := y1.rows (B := B)
    have hys : Hid (its ys = s.came a) := y2
    have hyl : ys.length ≤ 1000000 := by rw [← its_length, y2]; exact h.fewc a (by omega)
    rw [show ((a : Int)).toNat = a from rfl]
    have ha6 : a < 6 := by omega
    clear y1 y2 h hv
    go_enter Try.func89, Try.ntmps89
    go_wp2
    go_loop [5, 6] (fun o i => ∃ k : Nat, i = .int .i64 k ∧ k ≤ ys.length ∧ o = .int .i64 (overL ((its ys).take k) : Nat)) (fun _ i => ys.length - (intOf i).toNat)
    case atStart => exact ⟨0, rfl, Nat.zero_le _, rfl⟩
    case round =>
      obtain ⟨k, rfl, hk, rfl⟩ := hrel
      by_cases hlt : k < ys.length
      · obtain ⟨ad, hA0, p0, p1, p2, p3, p4⟩ := RowsIv.get hR hlt
        have e0 : Ay = some ad := hA0
        subst e0
        have hov : overL ((its ys).take (k + 1)) = overL ((its ys).take k) + (if ys[k].it.shut = true then 1 else 0) := by
          have e : (its ys)[k]? = some ys[k].it := by simp [its, List.getElem?_eq_getElem hlt]
          unfold overL
          rw [List.take_add_one, e, List.countP_append]
          cases hs : ys[k].it.shut <;> simp [hs]
        have hle : overL ((its ys).take k) ≤ k := by
          have := List.countP_le_length (p := It.shut) (l := (its ys).take k)
          rw [List.length_take] at this
          unfold overL
          omega
        obtain ⟨n, hn⟩ : ∃ n, n = overL ((its ys).take k) := ⟨_, rfl⟩
        rw [← hn] at hov hle ⊢
        have HOV := Lib.hid hov
        clear hov hn hR
        cases hs : ys[k].it.shut
        · rw [hs] at p3 HOV
          clear hs
          go_wp2
          go_round
          case rel => exact ⟨k + 1, by go_num, hlt, by rw [HOV.out]; rfl⟩
          case measure => simp [intOf]; omega
        · rw [hs] at p3 HOV
          clear hs
          go_wp2
          go_round
          case rel => exact ⟨k + 1, by go_num, hlt, by rw [HOV.out]; go_num⟩
          case measure => simp [intOf]; omega
      · obtain rfl : k = ys.length := by omega
        clear hR
        go_wp2
        go_ret
        refine ⟨?_, rfl⟩
        rw [← hys.out, List.take_of_length_le (by rw [its_length]; exact Nat.le_refl _)]
        rfl
  · rw [if_neg hl]
    clear h
    by_cases h0 : l < 0
    · clear hl
      go_enter Try.func89, Try.ntmps89
      go_wp2
      go_ret
      exact ⟨rfl, rfl⟩
    · have h6 : 6 ≤ l := by omega
      clear hl
      go_enter Try.func89, Try.ntmps89
      go_wp2
      go_ret
      exact ⟨rfl, rfl⟩
def hKey (lv n : Int) (y : It) : Bool := decide (y.level = lv) && decide (y.n = n)
def hIx (l : List It) (lv n : Int) : Int := match l.findIdx? (hKey lv n) with | some k => (k : Int) | none => -1
set_option maxRecDepth 100000 in
set_option maxHeartbeats 2000000 in
theorem rfHeld_any (h : RfAt w B A c rs lev r s) (lv n : Int) :
    Calls Try.prog 106 #[.pointer (some ⟨r.g, 0, none⟩), .int .i64 lv, .int .i64 n] w fun e w' => e = .returned (.int .i64 (hIx s.held lv n)) ∧ w = w' := by
  have p := h.blk.cell 8
  rw [h.heldc] at p
  obtain ⟨ys, y1, y2, _⟩ := h.helds
  obtain ⟨Ay, cy, hv⟩ := y1.form
  rw [hv] at p y1
  have hR : RowsIv w B Ay ys := y1.rows (B := B)
  have hys : Hid (its ys = s.held) := y2
  have hyl : ys.length ≤ 1000000 := by rw [← its_length, y2]; exact h.fewh
  clear y1 y2 h hv
  go_enter Try.func106, Try.ntmps106
  go_wp2
  go_loop [7] (fun i => ∃ k : Nat, i = .int .i64 k ∧ k ≤ ys.length ∧ Hid (∀ j, (hj : j < k) → (hl : j < ys.length) → hKey lv n ys[j].it = false)) (fun i => ys.length - (intOf i).toNat)
  case atStart => exact ⟨0, rfl, Nat.zero_le _, fun j hj => absurd hj (Nat.not_lt_zero _)⟩
  case round =>
    obtain ⟨k, rfl, hk, HA⟩ := hrel
    by_cases hlt : k < ys.length
    · obtain ⟨ad, hA0, p0, p1, p2, p3, p4⟩ := RowsIv.get hR hlt
      have e0 : Ay = some ad := hA0
      subst e0
      obtain ⟨y, hy⟩ : ∃ y, y = ys[k] := ⟨_, rfl⟩
      rw [← hy] at p0 p1
      have HY : Hid (∀ hl : k < ys.length, ys[k] = y) := fun _ => hy.symm
      have hNo : hKey lv n y.it = false → Hid (∀ j, (hj : j < k + 1) → (hl : j < ys.length) → hKey lv n ys[j].it = false) := fun hq j hj hl => by
        by_cases e : j < k
        · exact HA.out j e hl
        · obtain rfl : j = k := by omega
          rw [← hy]; exact hq
      have HNO := Lib.hid hNo
      clear hy hR p2 p3 p4 hNo
      by_cases h1 : y.it.level = lv
      · by_cases h2 : y.it.n = n
        · have HF : Hid (hIx s.held lv n = (k : Int)) := by
            show _ = _
            unfold hIx
            have : s.held.findIdx? (hKey lv n) = some k := by
              rw [List.findIdx?_eq_some_iff_getElem]
              have hl : k < s.held.length := by rw [← hys.out, its_length]; exact hlt
              have hg : ∀ j (hj : j < ys.length) (hj' : j < s.held.length), s.held[j] = ys[j].it := fun j hj hj' => by
                have e : (its ys)[j]? = some ys[j].it := by simp [its, List.getElem?_eq_getElem hj]
                rw [hys.out, List.getElem?_eq_getElem hj'] at e
                exact Option.some.inj e
              refine ⟨hl, by rw [hg k hlt hl, HY.out hlt]; simp [hKey, h1, h2], fun j hj => ?_⟩
              rw [hg j (by omega) (by omega), HA.out j hj (by omega)]
              decide
            rw [this]
          go_wp2
          go_ret
          exact ⟨by rw [HF.out]; rfl, rfl⟩
        · have HN := HNO.out (by simp [hKey, h2])
          have h2b : (y.it.n == n) = false := by simp [h2]
          go_wp2
          go_round
          case rel => exact ⟨k + 1, by go_num, hlt, HN⟩
          case measure => simp [intOf]; omega
      · have HN := HNO.out (by simp [hKey, h1])
        have h1b : (y.it.level == lv) = false := by simp [h1]
        go_wp2
        go_round
        case rel => exact ⟨k + 1, by go_num, hlt, HN⟩
        case measure => simp [intOf]; omega
    · obtain rfl : k = ys.length := by omega
      have HF : Hid (hIx s.held lv n = -1) := by
        show _ = _
        unfold hIx
        have : s.held.findIdx? (hKey lv n) = none := by
          rw [List.findIdx?_eq_none_iff]
          intro x hx
          rw [← hys.out] at hx
          simp only [its, List.mem_map] at hx
          obtain ⟨y, hy, rfl⟩ := hx
          obtain ⟨i, hi, rfl⟩ := List.getElem_of_mem hy
          exact HA.out i hi hi
        rw [this]
      clear hR
      go_wp2
      go_ret
      exact ⟨by rw [HF.out]; rfl, rfl⟩
/-- Drop. -/
def rfDrop (s : RfSt) (t : Int) : RfSt := { s with first := if t < 1000000 then (if s.first < t + 1 then t + 1 else s.first) else 1000001 }
theorem RfAt.putFirst (h : RfAt w B A c rs lev r s) (n : Int) : RfAt (w.setCell ⟨r.g, 9, none⟩ (.int .i64 n)) B A c rs lev { r with cs := r.cs.setIfInBounds 9 (.int .i64 n) } { s with first := n } ∧ RfGo B w r (w.setCell ⟨r.g, 9, none⟩ (.int .i64 n)) { r with cs := r.cs.setIfInBounds 9 (.int .i64 n) } :=
  ⟨h.put 9 (.int .i64 n) { r with cs := r.cs.setIfInBounds 9 (.int .i64 n) } { s with first := n } ⟨rfl, rfl⟩ (by omega) (fun a ha => by rw [get_set_ne (by omega)]; exact h.toc a ha) (by rw [get_set_ne (by omega)]; exact h.heldc) (by rw [get_set_eq (by rw [h.size]; omega)]) h.cames h.helds h.fewc h.fewh,
    ⟨(Below.refl _ _).setCell h.base _, mods_setCell w ⟨r.g, 9, none⟩ _, fun _ hg => .inl hg, rfl⟩⟩
set_option maxRecDepth 100000 in
set_option maxHeartbeats 2000000 in
theorem rfDrop_any (h : RfAt w B A c rs lev r s) (t : Int) (ht : -9223372036854775808 ≤ t ∧ t ≤ 9223372036854775807) :
    Calls Try.prog 87 #[.pointer (some ⟨r.g, 0, none⟩), .int .i64 t] w fun e w' => e = .returned (.tuple #[]) ∧ ∃ r', RfAt w' B A c rs lev r' (rfDrop s t) ∧ RfGo B w r w' r' := by
  have p := h.blk.cell 9
  rw [h.firc] at p
  have fz := h.blk.frozen
  have HH := Lib.hid h
  by_cases h1 : t < 1000000
  · have hwr : IntKind.i64.wrap (t + 1) = t + 1 := IntWalk.i64_in _ (by omega)
    by_cases h2 : s.first < t + 1
    · have HF : Hid (rfDrop s t = { s with first := t + 1 }) := by
        show _ = _
        unfold rfDrop
        rw [if_pos h1, if_pos h2]
      clear h
      go_enter Try.func87, Try.ntmps87
      go_wp2
      (try simp only [Exit.inBlock, Exit.then])
      refine bodyPost_end (results_none rfl _ _ _) rfl ⟨rfl, ?_⟩
      rw [HF.out]
      exact ⟨_, (HH.out.putFirst (t + 1)).1, (HH.out.putFirst (t + 1)).2⟩
    · have HF : Hid (rfDrop s t = { s with first := s.first }) := by
        show _ = _
        unfold rfDrop
        rw [if_pos h1, if_neg h2]
      clear h
      go_enter Try.func87, Try.ntmps87
      go_wp2
      (try simp only [Exit.inBlock, Exit.then])
      refine bodyPost_end (results_none rfl _ _ _) rfl ⟨rfl, ?_⟩
      rw [HF.out]
      first
        | exact ⟨_, (HH.out.putFirst s.first).1, (HH.out.putFirst s.first).2⟩
        | exact ⟨r, HH.out, RfGo.of_ext (Below.refl _ _) HH.out.base_le r⟩
  · have HF : Hid (rfDrop s t = { s with first := 1000001 }) := by
      show _ = _
      unfold rfDrop
      rw [if_neg h1]
    clear h
    go_enter Try.func87, Try.ntmps87
    go_wp2
    (try simp only [Exit.inBlock, Exit.then])
    refine bodyPost_end (results_none rfl _ _ _) rfl ⟨rfl, ?_⟩
    rw [HF.out]
    exact ⟨_, (HH.out.putFirst 1000001).1, (HH.out.putFirst 1000001).2⟩
end
end Go.Proofs.Ytdknkbpgkkakhaa
