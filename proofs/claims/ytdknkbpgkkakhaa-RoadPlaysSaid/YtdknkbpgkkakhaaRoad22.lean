/- Layer 22: the program's road and the document's, side by side. -/
import Derived.Test.YtdknkbpgkkakhaaRoad21
namespace Go.Proofs.Ytdknkbpgkkakhaa
open Go.RowKit

section
variable {w w' w1 : World} {B : Nat} {A : Option Addr} {c : Nat} {rs : List Rw} {m m1 : RoadMem} {r r1 : RefMem} {s s1 : RoadSt} {ra gr : Nat}
theorem RoadAt.keepsOwn (h : RoadAt w B A c rs m s) (k : Mods (RoadOwn m) w w') : Keeps B [133, 94, 33] w w' := Keeps.of_mods k fun i hi => by
  refine ⟨(h.own_lt hi).1, fun cs t fr hh => ?_⟩
  rcases hi with rfl | rfl | rfl | hg | ⟨u, hg⟩
  · have hb := h.blk
    unfold Blk at hb
    rw [hb] at hh
    injection hh with hh
    injection hh with _ hh
    simp [← hh]
  · obtain ⟨es, clock, h1, _⟩ := h.offm
    rw [hh] at h1; cases h1
  · obtain ⟨es, clock, h1, _⟩ := h.undm
    rw [hh] at h1; cases h1
  · obtain ⟨ps, p1, _⟩ := h.log
    obtain ⟨_, cur, hb⟩ := p1.blk hg
    unfold Blk at hb
    rw [hb] at hh
    injection hh with hh
    injection hh with _ hh
    simp [← hh, elPv]
  · obtain ⟨ys, y1, _⟩ := h.unds u
    obtain ⟨_, _, cur, hb⟩ := y1.typed hg
    unfold Blk at hb
    rw [hb] at hh
    injection hh with hh
    injection hh with _ hh
    simp [← hh, elIv]
/-- Both roads, of one state, apart. -/
structure Duo (w : World) (B : Nat) (A : Option Addr) (c : Nat) (rs : List Rw) (m : RoadMem) (r : RefMem) (s : RoadSt) : Prop where
  road : RoadAt w B A c rs m s
  ref : RefAt w B A c rs r s
  apart : ∀ b, RefOwn r b → ¬ RoadOwn m b
theorem Duo.ext (h : Duo w B A c rs m r s) (k : Ext w w') : Duo w' B A c rs m r s := ⟨h.road.ext k, h.ref.ext k, h.apart⟩
/-- The program's road has gone on. -/
theorem Duo.half (h : Duo w B A c rs m r s) (go : RoadGo B w m w1 m1) : RefAt w1 B A c rs r s ∧ ∀ b, RefOwn r b → ¬ RoadOwn m1 b :=
  ⟨h.ref.modsF go.mods (fun g hg hc => h.apart g hc hg) (h.road.keepsOwn go.mods) (by decide) (by decide) (by decide), fun b hb hc => by
    rcases go.sub b hc with h1 | h1
    · exact h.apart b hb h1
    · have := h.ref.own_lt hb
      omega⟩
/-- The document's road has gone on too. -/
theorem Duo.whole (h1 : RoadAt w1 B A c rs m1 s1) (hap : ∀ b, RefOwn r b → ¬ RoadOwn m1 b) (hr : RefAt w1 B A c rs r s) (go : RefGo B w1 r w' r1) (h2 : RefAt w' B A c rs r1 s1) : Duo w' B A c rs m1 r1 s1 :=
  ⟨h1.modsF (T := [80]) go.mods (fun g hg hc => by
      have e : g = r.g := hg
      subst e
      exact hap _ (.inl rfl) hc) (Keeps.of_mods go.mods fun k hk => by
      have e : k = r.g := hk
      subst e
      refine ⟨hr.base, fun cs t fr hh => ?_⟩
      have hb := hr.blk
      unfold Blk at hb
      rw [hb] at hh
      injection hh with hh
      injection hh with _ hh
      simp [hh]) (by decide) (by decide) (by decide), h2, fun b hb hc => by
    rcases go.sub b hb with h3 | h3
    · exact hap b h3 hc
    · have := (h1.own_lt hc).2
      omega⟩
theorem RoadAt.down {B' : Nat} (h : RoadAt w B A c rs m RoadSt.new) (hB : B' ≤ B) (hM : MatAt w B' A rs) : RoadAt w B' A c rs m RoadSt.new := by
  refine ⟨⟨Nat.le_trans hB h.base.1, Nat.le_trans hB h.base.2.1, Nat.le_trans hB h.base.2.2⟩, h.apart, h.blk, h.offm, h.offs, h.undm, fun t => ?_, h.sep, ?_, hM, h.few, h.loglen⟩
  · obtain ⟨ys, y1, y2, _⟩ := h.unds t
    have e : ys = [] := List.map_eq_nil_iff.1 (show ys.map Iv.it = [] from y2)
    subst e
    exact ⟨[], y1.le hB, y2, by simp⟩
  · obtain ⟨ps, p1, p2, _⟩ := h.log
    have e : ps = [] := List.map_eq_nil_iff.1 (show ps.map (fun p => (p.lev, p.x.it)) = [] from p2)
    subst e
    exact ⟨[], p1.le hB, p2, by simp⟩

/-- Nothing lies beyond the six levels; what was offered goes up. -/
structure OutInv (m : Mat) (s : RoadSt) : Prop where
  off : ∀ a b : Int, ¬ (0 ≤ a ∧ a < 6 ∧ 0 ≤ b ∧ b < 6) → s.off (a, b) = 0
  und : ∀ t : Int, ¬ (0 ≤ t ∧ t < 6) → s.und t = []
  log : ∀ p ∈ s.log, labove m p.1 p.2.level = true
theorem OutInv.new (m : Mat) : OutInv m RoadSt.new := ⟨fun _ _ _ => rfl, fun _ _ => rfl, fun p hp => by cases hp⟩
theorem above_six {m : Mat} {a b : Int} (h : labove m a b = true) : (0 ≤ a ∧ a < 6) ∧ 0 ≤ b ∧ b < 6 := by
  have h1 := ldom_lt (above_iff.1 h).2
  have h2 := levels_le m
  omega
theorem OutInv.offer {m : Mat} {s : RoadSt} (h : OutInv m s) (x : It) (d : Int) : OutInv m (offerSt m s x d) := by
  by_cases h0 : offerN m s x d = 0
  · have hab : labove m d x.level = true := by
      cases hc : labove m d x.level
      · rw [offerN, hc] at h0
        split at h0
        · simp at h0
        · cases h0
      · rfl
    obtain ⟨h1, h2⟩ := above_six hab
    rw [offerSt, if_pos h0]
    refine ⟨fun a b hn => ?_, fun t hn => ?_, fun p hp => ?_⟩
    · show (if (a, b) = (x.level, d) then x.n else s.off (a, b)) = 0
      rw [if_neg (by intro hc; simp only [Prod.mk.injEq] at hc; omega)]
      exact h.off a b hn
    · show (if t = d then last40 (s.und d ++ [x]) else s.und t) = []
      rw [if_neg (by omega)]
      exact h.und t hn
    · rcases List.mem_append.1 hp with hp | hp
      · exact h.log p hp
      · have e : p = (d, x) := by simpa using hp
        rw [e]; exact hab
  · rw [offerSt, if_neg h0]; exact h
theorem offer_log {m : Mat} {s : RoadSt} {x : It} {d : Int} : (offerSt m s x d).log.length ≤ s.log.length + 1 := by
  rw [offerSt]
  split
  · simp
  · omega
theorem OutInv.again {m : Mat} {s : RoadSt} (h : OutInv m s) (a b n : Int) : OutInv m (againSt m s a b n) := by
  rw [againSt]
  split
  · rename_i hab
    obtain ⟨h1, h2⟩ := above_six hab
    refine ⟨fun a' b' hn => ?_, h.und, h.log⟩
    show (if (a', b') = (a, b) then max n 0 else s.off (a', b')) = 0
    rw [if_neg (by intro hc; simp only [Prod.mk.injEq] at hc; omega)]
    exact h.off a' b' hn
  · exact h
theorem again_log {m : Mat} {s : RoadSt} {a b n : Int} : (againSt m s a b n).log = s.log := by
  rw [againSt]; split <;> rfl
theorem OutInv.take {m : Mat} {s : RoadSt} (h : OutInv m s) {a : Int} (ha : 0 ≤ a ∧ a < 6) (k : Nat) : OutInv m ⟨s.off, fun u => if u = a then (s.und a).eraseIdx k else s.und u, s.log⟩ := by
  refine ⟨h.off, fun t hn => ?_, h.log⟩
  show (if t = a then (s.und a).eraseIdx k else s.und t) = []
  rw [if_neg (by omega)]
  exact h.und t hn
end

section
variable {w : World} {B : Nat} {A : Option Addr} {c : Nat} {rs : List Rw} {r : RefMem} {s : RoadSt} {gr : Nat}
theorem refOffer_gr (hg : r.g = gr) (h : RefAt w B A c rs r s) (x : Iv) (hx : IvOk w B x) {dd : Int} (hl : rs.length ≤ 9223372036854775807) (hlog : s.log.length < 1000000) (hfew : ∀ t, (s.und t).length ≤ 40) :
    Calls Try.prog 63 #[.pointer (some ⟨gr, 0, none⟩), .agg #[.int .i64 x.it.level, .int .i64 x.it.n, .int .i64 x.it.turn, .bool x.it.shut, .slice x.A x.it.ws.length x.c], .int .i64 dd] w
      fun e w' => e = .returned (.int .i64 (offerN (mat rs) s x.it dd : Int)) ∧ ∃ r', r'.g = gr ∧ RefAt w' B A c rs r' (offerSt (mat rs) s x.it dd) ∧ RefGo B w r w' r' := by
  subst hg; exact refOffer_any h x hx hl hlog hfew
theorem refAgain_gr (hg : r.g = gr) (h : RefAt w B A c rs r s) {a b n : Int} (hl : rs.length ≤ 9223372036854775807) :
    Calls Try.prog 65 #[.pointer (some ⟨gr, 0, none⟩), .int .i64 a, .int .i64 b, .int .i64 n] w fun e w' => e = .returned (.tuple #[]) ∧ ∃ r', r'.g = gr ∧ RefAt w' B A c rs r' (againSt (mat rs) s a b n) ∧ RefGo B w r w' r' := by
  subst hg; exact refAgain_any h hl
theorem refTakeN_gr (hg : r.g = gr) (h : RefAt w B A c rs r s) {t n : Int} (stays : Bool) (hno : t < 0 ∨ 6 ≤ t ∨ n < 0 ∨ ((s.und t).length : Int) ≤ n) (hfew : ∀ t, (s.und t).length ≤ 40) :
    Calls Try.prog 67 #[.pointer (some ⟨gr, 0, none⟩), .int .i64 t, .int .i64 n, .bool stays] w
      fun e w' => e = .returned (.tuple #[.agg #[.int .i64 0, .int .i64 0, .int .i64 0, .bool false, .slice none 0 0], .int .i64 18]) ∧ Ext w w' := by
  subst hg; exact refTake_none h stays hno hfew
theorem refTakeS_gr (hg : r.g = gr) (h : RefAt w B A c rs r s) {a k : Nat} (ha : a < 6) (hk : k < (s.und a).length) (hfew : ∀ t, (s.und t).length ≤ 40) :
    Calls Try.prog 67 #[.pointer (some ⟨gr, 0, none⟩), .int .i64 a, .int .i64 k, .bool true] w
      fun e w' => ∃ A' c', e = .returned (.tuple #[.agg #[.int .i64 (s.und a)[k].level, .int .i64 (s.und a)[k].n, .int .i64 (s.und a)[k].turn, .bool (s.und a)[k].shut, .slice A' (s.und a)[k].ws.length c'], .int .i64 0]) ∧
        IvOk w' B ⟨(s.und a)[k], A', c'⟩ ∧ Ext w w' := by
  subst hg; exact refTake_stays h ha hk hfew
theorem refTakeG_gr (hg : r.g = gr) (h : RefAt w B A c rs r s) {a k : Nat} (ha : a < 6) (hk : k < (s.und a).length) (hfew : ∀ t, (s.und t).length ≤ 40) :
    Calls Try.prog 67 #[.pointer (some ⟨gr, 0, none⟩), .int .i64 a, .int .i64 k, .bool false] w
      fun e w' => ∃ A' c', e = .returned (.tuple #[.agg #[.int .i64 (s.und a)[k].level, .int .i64 (s.und a)[k].n, .int .i64 (s.und a)[k].turn, .bool (s.und a)[k].shut, .slice A' (s.und a)[k].ws.length c'], .int .i64 0]) ∧
        IvOk w' B ⟨(s.und a)[k], A', c'⟩ ∧ ∃ r', r'.g = gr ∧ RefAt w' B A c rs r' ⟨s.off, fun u => if u = (a : Int) then (s.und a).eraseIdx k else s.und u, s.log⟩ ∧ RefGo B w r w' r' := by
  subst hg; exact refTake_goes h ha hk hfew
theorem IvOk.more {B' : Nat} {x : Iv} (h : IvOk w B x) (hB : B ≤ B') : IvOk w B' x := ⟨RowsAt.more h.at_ hB, h.wr, h.len⟩
end

theorem wrsSame_self (ws : List Wr) : wrsSame ws ws = true := by
  induction ws with
  | nil => rfl
  | cons x xs ih => simp [wrsSame, wrSame, ih]
theorem itSame_self (x : It) : itSame x x = true := by
  simp [itSame, wrsSame_self]
theorem itsSame_of : ∀ {xs ys : List Iv}, its xs = its ys → itsSame xs ys = true
  | [], [], _ => rfl
  | x :: xs, y :: ys, h => by
    simp only [its, List.map_cons, List.cons.injEq] at h
    rw [itsSame, h.1, itSame_self, itsSame_of (by simpa [its] using h.2)]; rfl
  | [], _ :: _, h => by simp [its] at h
  | _ :: _, [], h => by simp [its] at h
end Go.Proofs.Ytdknkbpgkkakhaa
