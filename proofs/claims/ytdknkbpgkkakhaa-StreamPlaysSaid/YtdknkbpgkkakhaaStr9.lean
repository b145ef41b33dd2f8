/- The law StreamParts, walked. -/
import Derived.Test.YtdknkbpgkkakhaaStr8
import Derived.Laws.BytesArg
namespace Go.Proofs.Ytdknkbpgkkakhaa
open Go.RowKit

theorem wrSame_refl (x : Wr) : wrSame x x = true := by simp [wrSame]
theorem wrsSame_refl (ws : List Wr) : wrsSame ws ws = true := by
  induction ws with
  | nil => rfl
  | cons x xs ih => simp [wrsSame, ih, wrSame_refl]
theorem itSame_refl (x : It) : itSame x x = true := by simp [itSame, wrsSame_refl]
theorem itsSame_of_eq : ∀ {xs ys : List Iv}, its xs = its ys → itsSame xs ys = true
  | [], [], _ => rfl
  | [], _ :: _, h => by simp [its] at h
  | _ :: _, [], h => by simp [its] at h
  | x :: xs, y :: ys, h => by
    simp only [its, List.map_cons, List.cons.injEq] at h
    simp only [itsSame, h.1, itSame_refl, Bool.true_and]
    exact itsSame_of_eq h.2

/-- A store or an append into another row of the call's own leaves a stream as it is. -/
theorem StrAt.other {w w' : World} {B : Nat} {T : TypeId} {g : Nat} {lev turn : Int} {xs : List Iv} {v vo : Value} {os : List Iv} (h : StrAt w B T g lev turn xs v) (ho : Own elIv w B vo os) (hg : w.grownBy w' vo.ownBlock) (ht : T ≠ 33)
    (ha : ∀ b, RowOf v b → ¬ RowOf vo b) : StrAt w' B T g lev turn xs v := by
  have hm := Mods.grown hg
  have hk : Keeps B [33] w w' := ho.keeps hg (Nat.le_refl _)
  exact ⟨h.blk.mods hm (fun e => h.blk.ne_own ho (fun e => ht e.symm) e), h.base, own_mods h.own hm (fun b hb => ha b hb), fun x hx => (h.ok x hx).keeps hk (by decide), h.len⟩

theorem is_kx (s : ByteArray) (hs : s.size = 1) (l : Int) (k : Nat) (t : Int) (hl : 0 ≤ l) (hl' : l ≤ 5) (hk : k ≤ 100) (ht : 0 ≤ t) (ht' : t ≤ 100) : It.is ⟨l, (k : Int) + 1, t, false, [⟨⟨#[107]⟩, false, s⟩]⟩ = true := by
  have h0 : (⟨#[107]⟩ : ByteArray).size = 1 := rfl
  have h1 : (shortKeys [⟨⟨#[107]⟩, false, s⟩] && batchIs [⟨⟨#[107]⟩, false, s⟩]) = true := by
    have h3 : leS ⟨#[107]⟩ ByteArray.empty = false := by decide +kernel
    simp [shortKeys, batchIs, batchGo, Wr.is, hs, h0, h3]
  simp only [It.is, betw, h1]; simp; omega
theorem conv_one (w : World) (x : Int) : ∃ s : ByteArray, s.size = 1 ∧ (convert 49 9 (.slice (some ⟨w.heap.size, 0, none⟩) 1 1)).run Try.prog (w.alloc (.cells #[.int .u8 x] 5)) = .ok (.string s) (w.alloc (.cells #[.int .u8 x] 5)) := by
  refine ⟨strOfNums [x], by simp [strOfNums_size], run_convert_bytes_arg _ 49 5 Try.underlying49 Try.underlying5 _ 0 1 1 [x] rfl (fun i hi => ?_) 9 Try.underlying9⟩
  have h0 : i = 0 := by omega
  subst h0
  exact (Blk.new w 5 #[.int .u8 x]).cell 0

/-- The relation at the head of the first loop. -/
structure PartsAt (w wr : World) (g : Nat) (k : Nat) (t : Int) (xs : List Iv) (v : Value) (ys : List Iv) (al : Value) : Prop where
  str : StrAt wr w.heap.size 121 g 3 t xs v
  own : Own elIv wr w.heap.size al ys
  ok : ∀ y ∈ ys, IvOk wr w.heap.size y
  same : its ys = its xs
  len : xs.length = k
  t0 : 0 ≤ t
  tk : t ≤ k
  apart : ∀ b, RowOf v b → ¬ RowOf al b
  ext : Ext w wr

section
variable {w wr w6 : World} {g k : Nat} {t t' : Int} {xs xs' ys : List Iv} {v v6 al : Value}
theorem PartsAt.to (P : PartsAt w wr g k t xs v ys al) (e : Ext wr w6) : PartsAt w w6 g k t xs v ys al :=
  ⟨P.str.ext e, P.own.ext e, fun y hy => (P.ok y hy).ext e, P.same, P.len, P.t0, P.tk, P.apart, ext_trans P.ext e⟩
structure PartsMid (w w6 : World) (g : Nat) (t : Int) (xs : List Iv) (v : Value) (ys : List Iv) (al : Value) : Prop where
  str : StrAt w6 w.heap.size 121 g 3 t xs v
  own : Own elIv w6 w.heap.size al ys
  ok : ∀ y ∈ ys, IvOk w6 w.heap.size y
  apart : ∀ b, RowOf v b → ¬ RowOf al b
  ext : Ext w w6
theorem PartsAt.mid (P : PartsAt w wr g k t xs v ys al) (s6 : StrAt w6 w.heap.size 121 g 3 t' xs' v6) (m6 : Mods (fun k => k = g ∨ RowOf v k) wr w6) (ha : v6.ownBlock = v.ownBlock ∨ ∀ b, v6.ownBlock = some b → wr.heap.size ≤ b) :
    PartsMid w w6 g t' xs' v6 ys al := by
  have hk : Keeps w.heap.size [121, 33] wr w6 := P.str.keeps_of m6
  refine ⟨s6, P.own.mods m6 ?_, fun y hy => (P.ok y hy).keeps hk (by decide), ?_, P.ext.trans (P.str.below_of m6)⟩
  · rintro b hb (e | e)
    · subst e; exact P.str.blk.ne_own P.own (by decide) hb
    · exact P.apart b e hb
  · intro b hb hal
    rcases ha with ha | ha
    · exact P.apart b (by unfold RowOf at hb ⊢; rw [← ha]; exact hb) hal
    · have := ha b hb
      have := (World.ownsRow.lt P.own b hal).2
      omega
theorem PartsMid.app {w7 : World} {y : Iv} {x : Iv} {al' : Value} (M : PartsMid w w6 g t (xs ++ [y]) v ys al) (w6' : World) (e6 : Ext w6 w6') (hs : its ys = its xs) (hx : x.it = y.it) (hxo : IvOk w6' w.heap.size x) (hlen : xs.length = k) (h0 : 0 ≤ t) (h1 : t ≤ (k : Int) + 1)
    (ho : Own elIv w7 w.heap.size al' (ys ++ [x])) (hg : w6'.grownBy w7 al.ownBlock) (hat : al'.ownBlock = al.ownBlock ∨ al'.ownBlock = some w6'.heap.size) : PartsAt w w7 g (k + 1) t (xs ++ [y]) v (ys ++ [x]) al' := by
  have hO := M.own.ext e6
  have hS := M.str.ext e6
  have hk : Keeps w.heap.size [33] w6' w7 := Own.keeps hO hg (Nat.le_refl _)
  have hw : w.heap.size ≤ w6'.heap.size := Nat.le_trans M.ext.size e6.size
  refine ⟨hS.other hO hg (by decide) M.apart, ho, ?_, by rw [its_append, its_append, hs]; simp [its, hx], by simp [hlen], h0, by omega, ?_, (ext_trans M.ext e6).grown hg hw (fun b hb => (hO.typed hb).1)⟩
  · intro z hz
    rcases List.mem_append.1 hz with hz | hz
    · exact ((M.ok z hz).ext e6).keeps hk (by decide)
    · have e1 : z = x := by simpa using hz
      subst e1
      exact hxo.keeps hk (by decide)
  · intro b hb hal
    rcases hat with hat | hat
    · exact M.apart b hb (by unfold RowOf at hal ⊢; rw [← hat]; exact hal)
    · have : w6'.heap.size = b := by unfold RowOf at hal; rw [hat] at hal; exact Option.some.inj hal
      have h2 := (World.ownsRow.lt hS.own b hb).2
      omega
end

/-- The relation at the head of the second loop. -/
structure GotAt (w wr : World) (g : Nat) (t : Int) (xs : List Iv) (v : Value) (ys : List Iv) (al : Value) (m0 : Nat) (gs : List Iv) (vg : Value) : Prop where
  str : StrAt wr w.heap.size 121 g 3 t xs v
  all : Own elIv wr w.heap.size al ys
  ok : ∀ y ∈ ys, IvOk wr w.heap.size y
  got : Own elIv wr w.heap.size vg gs
  gok : ∀ y ∈ gs, IvOk wr w.heap.size y
  same : its gs = ((its xs).drop m0).take gs.length
  len : m0 + gs.length ≤ xs.length
  ap1 : ∀ b, RowOf v b → ¬ RowOf vg b
  ap2 : ∀ b, RowOf al b → ¬ RowOf vg b
  ext : Ext w wr
section
variable {w wr w6 w7 : World} {g m0 : Nat} {t : Int} {xs ys gs ps : List Iv} {v al vg vg' : Value}
theorem GotAt.to (P : GotAt w wr g t xs v ys al m0 gs vg) (e : Ext wr w6) : GotAt w w6 g t xs v ys al m0 gs vg :=
  ⟨P.str.ext e, P.all.ext e, fun y hy => (P.ok y hy).ext e, P.got.ext e, fun y hy => (P.gok y hy).ext e, P.same, P.len, P.ap1, P.ap2, ext_trans P.ext e⟩
theorem GotAt.app (P : GotAt w w6 g t xs v ys al m0 gs vg) (hp : its ps = ((its xs).drop (m0 + gs.length)).take ps.length) (hl : m0 + gs.length + ps.length ≤ xs.length) (hpo : ∀ y ∈ ps, IvOk w6 w.heap.size y)
    (ho : Own elIv w7 w.heap.size vg' (gs ++ ps)) (hg : w6.grownBy w7 vg.ownBlock) (hat : vg'.ownBlock = vg.ownBlock ∨ vg'.ownBlock = some w6.heap.size) : GotAt w w7 g t xs v ys al m0 (gs ++ ps) vg' := by
  have hk : Keeps w.heap.size [33] w6 w7 := Own.keeps P.got hg (Nat.le_refl _)
  have hm := Mods.grown hg
  have hap : ∀ {u : Value} {us : List Iv}, Own elIv w6 w.heap.size u us → (∀ b, RowOf u b → ¬ RowOf vg b) → ∀ b, RowOf u b → ¬ RowOf vg' b := by
    intro u us hu h b hb hv
    rcases hat with hat | hat
    · exact h b hb (by unfold RowOf at hv ⊢; rw [← hat]; exact hv)
    · have : w6.heap.size = b := by unfold RowOf at hv; rw [hat] at hv; exact Option.some.inj hv
      have h2 := (World.ownsRow.lt hu b hb).2
      omega
  refine ⟨P.str.other P.got hg (by decide) P.ap1, P.all.mods hm (fun b hb => P.ap2 b hb), fun y hy => (P.ok y hy).keeps hk (by decide), ho, ?_, ?_, by simp; omega, hap (u := v) P.str.own P.ap1, hap (u := al) P.all P.ap2, P.ext.grown hg P.ext.size (fun b hb => (P.got.typed hb).1)⟩
  · intro z hz
    rcases List.mem_append.1 hz with hz | hz
    · exact (P.gok z hz).keeps hk (by decide)
    · exact (hpo z hz).keeps hk (by decide)
  · rw [its_append, P.same, hp, List.length_append, List.take_add, List.drop_drop]
end
theorem own_le_cap {w : World} {B : Nat} {A : Option Addr} {n c : Nat} {xs : List Iv} (h : Own elIv w B (.slice A n c) xs) : xs.length ≤ c := by
  rcases h.2 with ⟨_, h0⟩ | ⟨g, cap, cur, hv, hg, hh, hnc, _⟩
  · omega
  · injection hv with _ _ e; omega
theorem rows_drop {w : World} {B : Nat} {A : Option Addr} {xs : List Iv} (h : RowsIv w B A xs) (m : Nat) : RowsIv w B (A.map fun x => x.add (m * 5)) (xs.drop m) := by
  intro i hi
  have hi' : m + i < xs.length := by simp at hi; omega
  obtain ⟨ad, e1, ho, hc⟩ := h (m + i) hi'
  subst e1
  refine ⟨_, rfl, by rw [block_of_add]; exact ho, fun j v hj => ?_⟩
  have hj' : (Iv.cells xs[m + i])[j]? = some v := by simpa using hj
  have := hc j v hj'
  rw [add_of_add] at this ⊢
  rw [add_of_add]
  rw [show m * 5 + (i * 5 + j) = (m + i) * 5 + j by omega]
  exact this
theorem meas50 (a b : Int) (h0 : 0 ≤ a) (h1 : a < b) (h2 : b ≤ 45) : 50 - b.toNat < 50 - a.toNat := by omega
theorem from_parts {xs ps : List Iv} {a m : Nat} {n most : Int} (h : its ps = fromIts (its xs) n most) (hn : n = (a : Int) + 1) (hm : most = (m : Int) + 1) (hlt : a < xs.length) :
    its ps = ((its xs).drop a).take ps.length ∧ 1 ≤ ps.length ∧ ps.length ≤ m + 1 ∧ a + ps.length ≤ xs.length := by
  have e : its ps = ((its xs).drop a).take (m + 1) := by
    rw [h, fromIts, show (max n 1 - 1).toNat = a by omega, show most.toNat = m + 1 by omega]
  have hlen := congrArg List.length e
  rw [its_length, List.length_take, List.length_drop, its_length] at hlen
  refine ⟨?_, by omega, by omega, by omega⟩
  rw [e, hlen, List.take_eq_take_iff, List.length_drop, its_length]
  omega

set_option maxRecDepth 100000 in
set_option maxHeartbeats 4000000 in
theorem streamParts_walk (A : Option Addr) (c : Nat) (ks : List Bool) (st fr : Nat) (w : World) (hA : BoolsAt w w.heap.size A ks) (hl : ks.length ≤ 9223372036854775807) (hst : st ≤ 255) (hfr : fr ≤ 255) :
    Calls Try.prog 5 #[.slice A ks.length c, .int .u8 st, .int .u8 fr] w fun e w' => e = .returned (.bool true) ∧ Ext w w' := by
  by_cases h40 : ks.length ≤ 40
  · go_enter Try.func5, Try.ntmps5
    go_wp2_with fail
    refine (known19_any _).mono ?_
    rintro e w1 ⟨rfl, x1⟩
    go_wp2_with fail
    refine (strNew_any 3 _ w.heap.size x1.size).mono ?_
    rintro e w2 ⟨rfl, s1, x2⟩
    obtain ⟨g, hg⟩ : ∃ g, g = w1.heap.size := ⟨_, rfl⟩
    rw [← hg] at s1 ⊢
    have P0 : PartsAt w w2 g 0 0 [] (.slice none 0 0) [] (.slice none 0 0) := ⟨s1, Own.nil _ _, by simp, rfl, rfl, by decide, by decide, by simp [RowOf, Value.ownBlock], ext_trans x1 x2⟩
    clear x1 x2 hg s1
    go_wp2
    go_loopw [9, 8] (fun i al wr => ∃ (k : Nat) (t : Int) (xs : List Iv) (v : Value) (ys : List Iv), k ≤ ks.length ∧ i = .int .i64 k ∧ PartsAt w wr g k t xs v ys al) (fun i _ _ => ks.length - (intOf i).toNat)
    case atStart => exact ⟨0, 0, [], _, [], Nat.zero_le _, rfl, P0⟩
    case round =>
      obtain ⟨k, t, xs, v, ys, hk, rfl, P⟩ := hrel
      clear P0
      obtain ⟨Aa, ca, rfl⟩ := P.own.form
      by_cases hlt : k < ks.length
      · obtain ⟨ad, hA0, h0⟩ := BoolsAt.get (RowsAt.ext hA P.ext) hlt
        subst hA0
        cases hb : ks[k]
        · rw [hb] at h0
          go_wp2_with fail
          refine (strTurn_any P.str).mono ?_
          rintro e w3 ⟨rfl, rfl⟩
          go_wp2_with fail
          refine (strNext_any P.str t none 0 [] w.heap.size RowsAt.nil (by decide)).mono ?_
          rintro e w3 ⟨A3, c3, rfl, hW3, e3⟩
          rw [P.len]
          replace P := P.to e3
          have a0 : addErr 3 t xs.length ⟨3, (k : Int) + 1, t, true, []⟩ = 0 := by
            have h1 := is_sh 3 k t (by decide) (by decide) (by omega) P.t0 (by have := P.tk; omega)
            simp only [addErr, h1, P.len]; simp
          clear e3
          go_wp2_with fail
          have Q := P.to (ext_alloc w3 (.cells #[.int .i64 3, .int .i64 ((k : Int) + 1), .int .i64 t, .bool true, .slice A3 0 c3] 33))
          have b3 : Blk (w3.alloc (.cells #[.int .i64 3, .int .i64 ((k : Int) + 1), .int .i64 t, .bool true, .slice A3 0 c3] 33)) w3.heap.size 33 #[.int .i64 3, .int .i64 ((k : Int) + 1), .int .i64 t, .bool true, .slice A3 0 c3] := Blk.new _ _ _
          have hW4 := RowsAt.ext hW3 (ext_alloc w3 (.cells #[.int .i64 3, .int .i64 ((k : Int) + 1), .int .i64 t, .bool true, .slice A3 0 c3] 33))
          have hw3 : ¬ (w3.heap.size = g ∨ RowOf v w3.heap.size) := by
            have := P.str.blk.lt
            rintro (e | e)
            · omega
            · have := (World.ownsRow.lt P.str.own _ e).2; omega
          refine (strAdd_ok Q.str ⟨3, (k : Int) + 1, t, true, []⟩ A3 c3 hW4 (by simp) (by simp) a0).mono ?_
          rintro e w6 ⟨y, v6, rfl, hy, s6, m6, hat6⟩
          replace b3 := b3.mods m6 hw3
          have hW6 := RowsAt.keeps hW4 (Q.str.keeps_of m6) (by decide)
          have M := Q.mid s6 m6 hat6
          have HX : Hid (its ys = its xs ∧ xs.length = k ∧ 0 ≤ t ∧ t ≤ k ∧ y.it = ⟨3, (k : Int) + 1, t, true, []⟩) := ⟨P.same, P.len, P.t0, P.tk, hy⟩
          have k0 := b3.cell 0
          have k1 := b3.cell 1
          have k2 := b3.cell 2
          have k3 := b3.cell 3
          have k4 := b3.cell 4
          simp only [List.getElem?_toArray, List.getElem?_cons_zero, List.getElem?_cons_succ] at k0 k1 k2 k3 k4
          clear Q P s6 m6 hat6 hW3 hW4 a0 hy hw3 b3 h0
          have HO := Lib.hid (M.own.ext (ext_alloc w6 (.cells (Iv.cells ⟨⟨3, (k : Int) + 1, t, true, []⟩, A3, c3⟩).toArray 33)))
          have HB := Lib.hid (rows_block (E := elIv) (B := w.heap.size) (⟨⟨3, (k : Int) + 1, t, true, []⟩, A3, c3⟩ : Iv) (Blk.new w6 33 (Iv.cells ⟨⟨3, (k : Int) + 1, t, true, []⟩, A3, c3⟩).toArray))
          have hyl : ys.length ≤ 40 := by have := congrArg List.length HX.out.1; rw [its_length, its_length, HX.out.2.1] at this; omega
          have hw6 : w.heap.size ≤ w6.heap.size := M.ext.size
          go_wp2_with (at_builtin; refine wpList_append elIv rfl _ _ rfl w.heap.size (.slice Aa ys.length ca) ys rfl HO.out _ 1 [(⟨⟨3, (k : Int) + 1, t, true, []⟩, A3, c3⟩ : Iv)] rfl w.heap.size HB.out (by show _ * 56 ≤ _; simp; omega) (by simp; omega) (by simp; omega) ?_; intro A8 c8 w8 hown8 hg8 hat8)
          rw [List.length_append, List.length_singleton] at hown8 hat8
          go_roundw
          case rel =>
            exact ⟨k + 1, t + 1, _, _, _, hlt, by go_num, M.app (x := ⟨⟨3, (k : Int) + 1, t, true, []⟩, A3, c3⟩) _ (ext_alloc w6 _) HX.out.1 HX.out.2.2.2.2.symm ⟨RowsAt.ext hW6 (ext_alloc w6 _), by simp, by simp⟩ HX.out.2.1 (by have := HX.out.2.2.1; omega) (by have := HX.out.2.2.2.1; omega) hown8 hg8 hat8⟩
          case measure => simp [intOf]; omega
        · rw [hb] at h0
          obtain ⟨s, hs, hcv⟩ := conv_one wr (97 + (k : Int) % 26)
          have hsk : ∀ y ∈ [(⟨⟨#[107]⟩, false, s⟩ : Wr)], y.ok := by
            intro y hy; simp at hy; subst hy; exact ⟨(by show (1 : Nat) ≤ _; decide), by simp [hs]⟩
          have HS := Lib.hid hs; clear hs
          have hR : RowsAt ((wr.alloc (.cells #[.int .u8 (97 + (k : Int) % 26)] 5)).alloc (.cells (Wr.cells ⟨⟨#[107]⟩, false, s⟩).toArray 47)) w.heap.size 47 3 Wr.cells (some ⟨wr.heap.size + 1, 0, none⟩) [⟨⟨#[107]⟩, false, s⟩] := by
            have h := rows_block (E := elWr) (B := w.heap.size) (⟨⟨#[107]⟩, false, s⟩ : Wr) (Blk.new (wr.alloc (.cells #[.int .u8 (97 + (k : Int) % 26)] 5)) 47 (Wr.cells ⟨⟨#[107]⟩, false, s⟩).toArray)
            rw [show (wr.alloc (.cells #[.int .u8 (97 + (k : Int) % 26)] 5)).heap.size = wr.heap.size + 1 by simp] at h
            exact h
          replace P := (P.to (ext_alloc wr (.cells #[.int .u8 (97 + (k : Int) % 26)] 5))).to (ext_alloc (wr.alloc (.cells #[.int .u8 (97 + (k : Int) % 26)] 5)) (.cells (Wr.cells ⟨⟨#[107]⟩, false, s⟩).toArray 47))
          go_wp2_with fail
          refine (strTurn_any P.str).mono ?_
          rintro e w3 ⟨rfl, rfl⟩
          go_wp2_with fail
          refine (strNext_any P.str t _ _ [⟨⟨#[107]⟩, false, s⟩] w.heap.size hR (by simp)).mono ?_
          rintro e w3 ⟨A3, c3, rfl, hW3, e3⟩
          rw [P.len]
          replace P := P.to e3
          have a0 : addErr 3 t xs.length ⟨3, (k : Int) + 1, t, false, [⟨⟨#[107]⟩, false, s⟩]⟩ = 0 := by
            have h1 := is_kx s HS.out 3 k t (by decide) (by decide) (by omega) P.t0 (by have := P.tk; omega)
            simp only [addErr, h1, P.len]; simp
          clear e3
          go_wp2_with fail
          have Q := P.to (ext_alloc w3 (.cells #[.int .i64 3, .int .i64 ((k : Int) + 1), .int .i64 t, .bool false, .slice A3 1 c3] 33))
          have b3 : Blk (w3.alloc (.cells #[.int .i64 3, .int .i64 ((k : Int) + 1), .int .i64 t, .bool false, .slice A3 1 c3] 33)) w3.heap.size 33 #[.int .i64 3, .int .i64 ((k : Int) + 1), .int .i64 t, .bool false, .slice A3 1 c3] := Blk.new _ _ _
          have hW4 := RowsAt.ext hW3 (ext_alloc w3 (.cells #[.int .i64 3, .int .i64 ((k : Int) + 1), .int .i64 t, .bool false, .slice A3 1 c3] 33))
          have hw3 : ¬ (w3.heap.size = g ∨ RowOf v w3.heap.size) := by
            have := P.str.blk.lt
            rintro (e | e)
            · omega
            · have := (World.ownsRow.lt P.str.own _ e).2; omega
          refine (strAdd_ok Q.str ⟨3, (k : Int) + 1, t, false, [⟨⟨#[107]⟩, false, s⟩]⟩ A3 c3 hW4 hsk (by simp) a0).mono ?_
          rintro e w6 ⟨y, v6, rfl, hy, s6, m6, hat6⟩
          replace b3 := b3.mods m6 hw3
          have hW6 := RowsAt.keeps hW4 (Q.str.keeps_of m6) (by decide)
          have M := Q.mid s6 m6 hat6
          have HX : Hid (its ys = its xs ∧ xs.length = k ∧ 0 ≤ t ∧ t ≤ k ∧ y.it = ⟨3, (k : Int) + 1, t, false, [⟨⟨#[107]⟩, false, s⟩]⟩) := ⟨P.same, P.len, P.t0, P.tk, hy⟩
          have k0 := b3.cell 0
          have k1 := b3.cell 1
          have k2 := b3.cell 2
          have k3 := b3.cell 3
          have k4 := b3.cell 4
          simp only [List.getElem?_toArray, List.getElem?_cons_zero, List.getElem?_cons_succ] at k0 k1 k2 k3 k4
          clear Q P s6 m6 hat6 hW3 hW4 a0 hy hw3 b3 h0
          have HO := Lib.hid (M.own.ext (ext_alloc w6 (.cells (Iv.cells ⟨⟨3, (k : Int) + 1, t, false, [⟨⟨#[107]⟩, false, s⟩]⟩, A3, c3⟩).toArray 33)))
          have HB := Lib.hid (rows_block (E := elIv) (B := w.heap.size) (⟨⟨3, (k : Int) + 1, t, false, [⟨⟨#[107]⟩, false, s⟩]⟩, A3, c3⟩ : Iv) (Blk.new w6 33 (Iv.cells ⟨⟨3, (k : Int) + 1, t, false, [⟨⟨#[107]⟩, false, s⟩]⟩, A3, c3⟩).toArray))
          have hyl : ys.length ≤ 40 := by have := congrArg List.length HX.out.1; rw [its_length, its_length, HX.out.2.1] at this; omega
          have hw6 : w.heap.size ≤ w6.heap.size := M.ext.size
          go_wp2_with (at_builtin; refine wpList_append elIv rfl _ _ rfl w.heap.size (.slice Aa ys.length ca) ys rfl HO.out _ 1 [(⟨⟨3, (k : Int) + 1, t, false, [⟨⟨#[107]⟩, false, s⟩]⟩, A3, c3⟩ : Iv)] rfl w.heap.size HB.out (by show _ * 56 ≤ _; simp; omega) (by simp; omega) (by simp; omega) ?_; intro A8 c8 w8 hown8 hg8 hat8)
          rw [List.length_append, List.length_singleton] at hown8 hat8
          go_roundw
          case rel =>
            exact ⟨k + 1, t, _, _, _, hlt, by go_num, M.app (x := ⟨⟨3, (k : Int) + 1, t, false, [⟨⟨#[107]⟩, false, s⟩]⟩, A3, c3⟩) _ (ext_alloc w6 _) HX.out.1 HX.out.2.2.2.2.symm ⟨RowsAt.ext hW6 (ext_alloc w6 _), hsk, by simp⟩ HX.out.2.1 (by have := HX.out.2.2.1; omega) (by have := HX.out.2.2.2.1; omega) hown8 hg8 hat8⟩
          case measure => simp [intOf]; omega
      · obtain rfl : k = ks.length := by omega
        clear hlt
        obtain ⟨m0, hm0⟩ : ∃ m0, fr % (ys.length + 1) = m0 := ⟨_, rfl⟩
        have hyk : ys.length = ks.length := by have := congrArg List.length P.same; rw [its_length, its_length, P.len] at this; exact this
        have hml : m0 ≤ ys.length := by have := Nat.mod_lt fr (show 0 < ys.length + 1 by omega); omega
        have hw0 : wrap64 ((fr : Int) % ((ks.length : Int) + 1) + 1) = (m0 : Int) + 1 := by
          rw [← hyk, show (fr : Int) % ((ys.length : Int) + 1) = (m0 : Int) by rw [← hm0]; simp]
          exact IntWalk.wrap64_in _ (by omega)
        have hxl : xs.length = ys.length := by rw [P.len, hyk]
        have G0 : GotAt w wr g t xs v ys (.slice Aa ys.length ca) m0 [] (.slice none 0 0) :=
          ⟨P.str, P.own, P.ok, Own.nil _ _, by simp, by simp [its], by simp; omega, by simp [RowOf, Value.ownBlock], by simp [RowOf, Value.ownBlock], P.ext⟩
        have HX : Hid (its ys = its xs ∧ xs.length = ys.length ∧ ys.length ≤ 40 ∧ m0 ≤ ys.length) := ⟨P.same, hxl, by omega, hml⟩
        clear P hm0 hyk hml hxl
        go_wp2
        rw [hw0]
        clear hw0
        go_loopw [14, 12] (fun n vg wr => ∃ (gs : List Iv), n = .int .i64 ((m0 : Int) + 1 + gs.length) ∧ GotAt w wr g t xs v ys (.slice Aa ys.length ca) m0 gs vg) (fun n _ _ => 50 - (intOf n).toNat)
        case atStart => exact ⟨[], by simp, G0⟩
        case round =>
          obtain ⟨gs, rfl, G⟩ := hrel
          clear G0
          obtain ⟨Ag, cg, rfl⟩ := G.got.form
          go_wp2_with fail
          refine (strLen_any G.str).mono ?_
          rintro e w3 ⟨rfl, rfl⟩
          by_cases hlt : m0 + gs.length < xs.length
          · have HLT := Lib.hid hlt
            have hwn : (m0 : Int) + 1 + gs.length ≤ xs.length := by omega
            go_wp2_with fail
            refine (strFrom_any G.str _ _ (by have := HX.out; omega)).mono ?_
            rintro e w3 ⟨vp, ps, rfl, hop, hpo, hps, e3⟩
            have hfp := from_parts (a := m0 + gs.length) (m := st % 5) hps (by push_cast; omega) (by omega) HLT.out
            obtain ⟨Ap, cp, rfl⟩ := hop.form
            replace G := G.to e3
            have HF := Lib.hid hfp
            have hp1 : 1 ≤ ps.length := hfp.2.1
            have hp2 : (ps.length : Int) ≤ (st : Int) % 5 + 1 := by have := hfp.2.2.1; omega
            have HPR := Lib.hid (hop.rows (B := w3.heap.size))
            have HGG := Lib.hid G.got
            have hw3 : w.heap.size ≤ w3.heap.size := G.ext.size
            have hgl : gs.length ≤ 40 := by have := HX.out; omega
            have hpl : ps.length ≤ 40 := by have := HX.out; have := HF.out; omega
            have hz0 : ((ps.length : Int) == 0) = false := by simp; intro e; rw [e] at hp1; simp at hp1
            have hz1 : decide ((st : Int) % 5 + 1 < ps.length) = false := by simp; omega
            have hwz : wrap64 ((m0 : Int) + 1 + gs.length + ps.length) = (m0 : Int) + 1 + gs.length + ps.length := IntWalk.wrap64_in _ (by have := HX.out; have := HF.out; omega)
            clear hfp hop hps hlt hwn
            go_wp2_with (at_builtin; refine wpList_append elIv rfl _ _ rfl w.heap.size (.slice Ag gs.length cg) gs rfl HGG.out _ _ ps rfl w3.heap.size HPR.out (by show _ * 56 ≤ _; omega) (by omega) hw3 ?_; intro A8 c8 w8 hown8 hg8 hat8)
            rw [List.length_append] at hown8 hat8
            go_roundw
            case rel => exact ⟨gs ++ ps, by go_num, G.app HF.out.1 HF.out.2.2.2 (fun y hy => hpo y hy) (by simpa using hown8) hg8 (by simpa using hat8)⟩
            case measure =>
              have h1 := HF.out; have h2 := HX.out
              rw [hwz]
              clear hwz
              exact meas50 ((m0 : Int) + 1 + gs.length) ((m0 : Int) + 1 + gs.length + ps.length) (by omega) (by omega) (by omega)
          · have hwz : wrap64 (m0 : Int) = m0 := IntWalk.wrap64_in _ (by have := HX.out; omega)
            have hm1 : (m0 : Int) ≤ ys.length := by have := HX.out; omega
            have hwn : (xs.length : Int) < (m0 : Int) + 1 + gs.length := by omega
            have HG := Lib.hid (G.got.rows (B := w.heap.size))
            have hall := G.all.rows (B := w.heap.size)
            have HR1 : Hid (ca = m0 → RowsIv wr w.heap.size Aa (ys.drop m0)) := by
              intro e
              have h1 := own_le_cap G.all
              have h2 : ys.drop m0 = [] := by rw [List.drop_eq_nil_iff]; omega
              rw [h2]; exact RowsAt.nil
            have HR2 := Lib.hid (rows_drop hall m0)
            have HS : Hid (itsSame gs (ys.drop m0) = true) := by
              show _ = _
              refine itsSame_of_eq ?_
              rw [G.same, show its (ys.drop m0) = (its ys).drop m0 by simp [its], HX.out.1]
              have h1 := G.len
              exact List.take_of_length_le (by rw [List.length_drop, its_length]; omega)
            clear hall
            go_wp2_with fail
            · rw [← List.length_drop]
              refine (refSameAll_any _ _ _ _ gs (ys.drop m0) _ _ _ HG.out (HR1.out (by omega)) G.gok (fun y hy => G.ok y (List.mem_of_mem_drop hy)) (by have := HX.out; have := G.len; omega)).mono ?_
              rintro e w4 ⟨rfl, e4⟩
              rw [HS.out]
              replace G := G.to e4
              clear e4
              go_wp2_with fail
              refine (strFrom_any G.str 1 0 (by decide)).mono ?_
              rintro e w5 ⟨v5, z5, rfl, o5, -, h5, e5⟩
              have hl5 : z5.length = 0 := by
                have := congrArg List.length h5
                rw [its_length] at this
                rw [this, fromIts]; simp
              obtain ⟨A5, c5, rfl⟩ := o5.form
              rw [hl5]
              replace G := G.to e5
              clear e5 o5 h5 hl5
              go_wp2_with fail
              refine (strLen_any G.str).mono ?_
              rintro e w6 ⟨rfl, rfl⟩
              have hwx : wrap64 ((xs.length : Int) + 1) = (xs.length : Int) + 1 := IntWalk.wrap64_in _ (by have := HX.out; omega)
              go_wp2_with fail
              refine (strFrom_any G.str _ 9 (by have := HX.out; omega)).mono ?_
              rintro e w6 ⟨v6, z6, rfl, o6, -, h6, e6⟩
              have hl6 : z6.length = 0 := by
                have := congrArg List.length h6
                rw [its_length] at this
                rw [this, fromIts, List.length_take, List.length_drop, its_length]; omega
              obtain ⟨A6, c6, rfl⟩ := o6.form
              rw [hl6]
              replace G := G.to e6
              clear e6 o6 h6 hl6
              go_wp2_with fail
              refine (strFrom_any G.str (-5) 100 (by decide)).mono ?_
              rintro e w7 ⟨v7, z7, rfl, o7, k7, h7, e7⟩
              replace G := G.to e7
              obtain ⟨A7, c7, rfl⟩ := o7.form
              have hs7 : itsSame z7 ys = true := by
                refine itsSame_of_eq ?_
                rw [h7, HX.out.1, fromIts]
                exact List.take_of_length_le (by rw [List.length_drop, its_length]; have := HX.out; simp; omega)
              go_wp2_with fail
              refine (refSameAll_any _ _ _ _ z7 ys _ _ _ (o7.rows (B := w.heap.size)) (G.all.rows (B := w.heap.size)) (fun y hy => k7 y hy) G.ok (by have := congrArg List.length h7; rw [its_length, fromIts, List.length_take, List.length_drop, its_length] at this; have := HX.out; omega)).mono ?_
              rintro e w8 ⟨rfl, e8⟩
              rw [hs7]
              go_wp2
              go_ret
              exact ⟨rfl, ext_trans G.ext e8⟩
            · rw [← List.length_drop]
              refine (refSameAll_any _ _ _ _ gs (ys.drop m0) _ _ _ HG.out HR2.out G.gok (fun y hy => G.ok y (List.mem_of_mem_drop hy)) (by have := HX.out; have := G.len; omega)).mono ?_
              rintro e w4 ⟨rfl, e4⟩
              rw [HS.out]
              replace G := G.to e4
              clear e4
              go_wp2_with fail
              refine (strFrom_any G.str 1 0 (by decide)).mono ?_
              rintro e w5 ⟨v5, z5, rfl, o5, -, h5, e5⟩
              have hl5 : z5.length = 0 := by
                have := congrArg List.length h5
                rw [its_length] at this
                rw [this, fromIts]; simp
              obtain ⟨A5, c5, rfl⟩ := o5.form
              rw [hl5]
              replace G := G.to e5
              clear e5 o5 h5 hl5
              go_wp2_with fail
              refine (strLen_any G.str).mono ?_
              rintro e w6 ⟨rfl, rfl⟩
              have hwx : wrap64 ((xs.length : Int) + 1) = (xs.length : Int) + 1 := IntWalk.wrap64_in _ (by have := HX.out; omega)
              go_wp2_with fail
              refine (strFrom_any G.str _ 9 (by have := HX.out; omega)).mono ?_
              rintro e w6 ⟨v6, z6, rfl, o6, -, h6, e6⟩
              have hl6 : z6.length = 0 := by
                have := congrArg List.length h6
                rw [its_length] at this
                rw [this, fromIts, List.length_take, List.length_drop, its_length]; omega
              obtain ⟨A6, c6, rfl⟩ := o6.form
              rw [hl6]
              replace G := G.to e6
              clear e6 o6 h6 hl6
              go_wp2_with fail
              refine (strFrom_any G.str (-5) 100 (by decide)).mono ?_
              rintro e w7 ⟨v7, z7, rfl, o7, k7, h7, e7⟩
              replace G := G.to e7
              obtain ⟨A7, c7, rfl⟩ := o7.form
              have hs7 : itsSame z7 ys = true := by
                refine itsSame_of_eq ?_
                rw [h7, HX.out.1, fromIts]
                exact List.take_of_length_le (by rw [List.length_drop, its_length]; have := HX.out; simp; omega)
              go_wp2_with fail
              refine (refSameAll_any _ _ _ _ z7 ys _ _ _ (o7.rows (B := w.heap.size)) (G.all.rows (B := w.heap.size)) (fun y hy => k7 y hy) G.ok (by have := congrArg List.length h7; rw [its_length, fromIts, List.length_take, List.length_drop, its_length] at this; have := HX.out; omega)).mono ?_
              rintro e w8 ⟨rfl, e8⟩
              rw [hs7]
              go_wp2
              go_ret
              exact ⟨rfl, ext_trans G.ext e8⟩
  · go_enter Try.func5, Try.ntmps5
    go_wp2_with fail
    refine (known19_any _).mono ?_
    rintro e w1 ⟨rfl, x1⟩
    go_wp2
    go_ret
    exact ⟨rfl, x1⟩
end Go.Proofs.Ytdknkbpgkkakhaa
