/- Layer 22: contracts by the road's address; what stands beside a road. (The same words as in Road15 to Road17, for the law with the reference.) -/
import Derived.Test.YtdknkbpgkkakhaaRoad11
import Derived.Test.YtdknkbpgkkakhaaRoad7
namespace Go.Proofs.Ytdknkbpgkkakhaa
open Go.RowKit
open Go.ChangeMaps (setBlock)

section
variable {w : World} {B : Nat} {A : Option Addr} {c : Nat} {rs : List Rw} {m : RoadMem} {s : RoadSt} {ra : Nat}
theorem roadOffer_ra (hra : m.ra = ra) (h : RoadAt w B A c rs m s) (x : Iv) (hx : IvOk w B x) {dd : Int} (ht : wf64 dd) (hl : rs.length ≤ 9223372036854775807) (hlog : s.log.length < 1000000) :
    Calls Try.prog 62 #[.pointer (some ⟨ra, 0, none⟩), .agg #[.int .i64 x.it.level, .int .i64 x.it.n, .int .i64 x.it.turn, .bool x.it.shut, .slice x.A x.it.ws.length x.c], .int .i64 dd] w
      fun e w' => e = .returned (.int .i64 (offerN (mat rs) s x.it dd : Int)) ∧ ∃ m', m'.ra = ra ∧ RoadAt w' B A c rs m' (offerSt (mat rs) s x.it dd) ∧ RoadGo B w m w' m' := by
  subst hra; exact roadOffer_any h x hx ht hl hlog
theorem roadAgain_ra (hra : m.ra = ra) (h : RoadAt w B A c rs m s) {a b n : Int} (ha : wf64 a) (hb : wf64 b) (hl : rs.length ≤ 9223372036854775807) :
    Calls Try.prog 64 #[.pointer (some ⟨ra, 0, none⟩), .int .i64 a, .int .i64 b, .int .i64 n] w fun e w' => e = .returned (.tuple #[]) ∧ ∃ m', m'.ra = ra ∧ RoadAt w' B A c rs m' (againSt (mat rs) s a b n) ∧ RoadGo B w m w' m' := by
  subst hra; exact roadAgain_any h ha hb hl
theorem roadTakeN_ra (hra : m.ra = ra) (h : RoadAt w B A c rs m s) {t n : Int} (ht : wf64 t) (stays : Bool) (hno : n < 0 ∨ ((s.und t).length : Int) ≤ n) :
    Calls Try.prog 66 #[.pointer (some ⟨ra, 0, none⟩), .int .i64 t, .int .i64 n, .bool stays] w
      fun e w' => e = .returned (.tuple #[.agg #[.int .i64 0, .int .i64 0, .int .i64 0, .bool false, .slice none 0 0], .int .i64 18]) ∧ Ext w w' := by
  subst hra; exact roadTake_none h ht stays hno
theorem roadTakeS_ra (hra : m.ra = ra) (h : RoadAt w B A c rs m s) {t : Int} {k : Nat} (ht : wf64 t) (hk : k < (s.und t).length) :
    Calls Try.prog 66 #[.pointer (some ⟨ra, 0, none⟩), .int .i64 t, .int .i64 k, .bool true] w
      fun e w' => ∃ A' c', e = .returned (.tuple #[.agg #[.int .i64 (s.und t)[k].level, .int .i64 (s.und t)[k].n, .int .i64 (s.und t)[k].turn, .bool (s.und t)[k].shut, .slice A' (s.und t)[k].ws.length c'], .int .i64 0]) ∧
        IvOk w' B ⟨(s.und t)[k], A', c'⟩ ∧ Ext w w' := by
  subst hra; exact roadTake_stays h ht hk
theorem roadTakeG_ra (hra : m.ra = ra) (h : RoadAt w B A c rs m s) {t : Int} {k : Nat} (ht : wf64 t) (hk : k < (s.und t).length) :
    Calls Try.prog 66 #[.pointer (some ⟨ra, 0, none⟩), .int .i64 t, .int .i64 k, .bool false] w
      fun e w' => ∃ A' c', e = .returned (.tuple #[.agg #[.int .i64 (s.und t)[k].level, .int .i64 (s.und t)[k].n, .int .i64 (s.und t)[k].turn, .bool (s.und t)[k].shut, .slice A' (s.und t)[k].ws.length c'], .int .i64 0]) ∧
        IvOk w' B ⟨(s.und t)[k], A', c'⟩ ∧ ∃ m', m'.ra = ra ∧ RoadAt w' B A c rs m' ⟨s.off, fun u => if u = t then (s.und t).eraseIdx k else s.und u, s.log⟩ ∧ RoadGo B w m w' m' := by
  subst hra; exact roadTake_goes h ht hk
theorem roadOffered_ra (hra : m.ra = ra) (h : RoadAt w B A c rs m s) {a b : Int} (ha : wf64 a) (hb : wf64 b) :
    Calls Try.prog 69 #[.pointer (some ⟨ra, 0, none⟩), .int .i64 a, .int .i64 b] w fun e w' => e = .returned (.int .i64 (s.off (a, b))) ∧ w' = w := by
  subst hra; exact roadOffered_any h ha hb
theorem roadFor_ra (hra : m.ra = ra) (h : RoadAt w B A c rs m s) {t : Int} (ht : wf64 t) :
    Calls Try.prog 68 #[.pointer (some ⟨ra, 0, none⟩), .int .i64 t] w fun e w' => ∃ v' zs, e = .returned v' ∧ Own elIv w' w.heap.size v' zs ∧ its zs = s.und t ∧ (∀ z ∈ zs, IvOk w' B z) ∧ Ext w w' := by
  subst hra; exact roadFor_any h ht
theorem roadLog_ra (hra : m.ra = ra) (h : RoadAt w B A c rs m s) :
    Calls Try.prog 70 #[.pointer (some ⟨ra, 0, none⟩)] w fun e w' => ∃ v' ps, e = .returned v' ∧ Own elPv w' w.heap.size v' ps ∧ prs ps = s.log ∧ (∀ p ∈ ps, IvOk w' B p.x) ∧ Ext w w' := by
  subst hra; exact roadLog_any h
theorem RoadAt.base_le (h : RoadAt w B A c rs m s) : B ≤ w.heap.size := Nat.le_trans h.base.1 (Nat.le_of_lt h.blk.lt)
end
section
variable {w w' : World} {B : Nat} {A : Option Addr} {c : Nat} {rs : List Rw} {m m' : RoadMem} {s : RoadSt} {S : Nat → Prop} {T : List TypeId}
theorem RoadAt.modsF (h : RoadAt w B A c rs m s) (k : Mods S w w') (hS : ∀ g, S g → ¬ RoadOwn m g) (hk : Keeps B T w w') (h23 : 23 ∉ T) (h4 : 4 ∉ T) (h47 : 47 ∉ T) : RoadAt w' B A c rs m s := by
  refine ⟨h.base, h.apart, h.blk.mods k (fun e => hS _ e (.inl rfl)), h.offm.mods k (fun e => hS _ e (.inr (.inl rfl))), h.offs, h.undm.mods k (fun e => hS _ e (.inr (.inr (.inl rfl)))), ?_, h.sep, ?_, h.mat.keeps hk h23 h4, h.few, h.loglen⟩
  · intro t
    obtain ⟨us, u1, u2, u3⟩ := h.unds t
    exact ⟨us, u1.mods k (fun b hb e => hS b e (.inr (.inr (.inr (.inr ⟨t, hb⟩))))), u2, fun z hz => (u3 z hz).keeps hk h47⟩
  · obtain ⟨ps, p1, p2, p3⟩ := h.log
    exact ⟨ps, p1.mods k (fun b hb e => hS b e (.inr (.inr (.inr (.inl hb))))), p2, fun p hp => (p3 p hp).keeps hk h47⟩
theorem RoadAt.not_own (h : RoadAt w B A c rs m s) {g : Nat} {t : TypeId} {cs : Array Value} (hb : Blk w g t cs) (h1 : t ≠ 133) (h2 : t ≠ 94) (h3 : t ≠ 33) : ¬ RoadOwn m g := by
  rintro (rfl | rfl | rfl | hg | ⟨u, hg⟩)
  · exact blk_ne hb h.blk h1 rfl
  · exact h.offm.not_blk hb rfl
  · exact h.undm.not_blk hb rfl
  · obtain ⟨ps, p1, _⟩ := h.log
    obtain ⟨_, cur, hB⟩ := p1.blk hg
    exact blk_ne hb hB h2 rfl
  · obtain ⟨ys, y1, _⟩ := h.unds u
    obtain ⟨_, _, cur, hB⟩ := y1.typed hg
    exact blk_ne hb hB h3 rfl
theorem RoadGo.nats (go : RoadGo B w m w' m') (h : RoadAt w B A c rs m s) {base : Nat} {v : Value} {xs : List Nat} (ho : Own elNat w base v xs) : Own elNat w' base v xs :=
  ho.mods go.mods fun b hb hc => by
    obtain ⟨_, cur, hB⟩ := ho.blk hb
    exact h.not_own hB (by decide) (by decide) (by decide) hc
theorem RoadAt.grown (h : RoadAt w B A c rs m s) {base : Nat} {v : Value} {xs : List Nat} (ho : Own elNat w base v xs) (hB : B ≤ base) (hg : w.grownBy w' v.ownBlock) : RoadAt w' B A c rs m s :=
  h.modsF (T := [3]) (Mods.grown hg) (fun b hb hc => by
    obtain ⟨_, cur, hB⟩ := ho.blk hb
    exact h.not_own hB (by decide) (by decide) (by decide) hc) (ho.keeps hg hB) (by decide) (by decide) (by decide)
end

theorem Own.le_cap {α : Type} {E : Elem α} {w : World} {base : Nat} {A : Option Addr} {c : Nat} {xs : List α} (h : Own E w base (.slice A xs.length c) xs) : xs.length ≤ c := by
  rcases h.2 with ⟨hv, h0⟩ | ⟨g, cap, cur, hv, _, _, hnc, _⟩
  · omega
  · injection hv with _ _ h3
    omega
/-- The rest of a row behind some of it. -/
theorem rows_drop {α : Type} {w : World} {B : Nat} {e : TypeId} {s : Nat} {f : α → List Value} {ad : Addr} {xs : List α} (h : RowsAt w B e s f (some ad) xs) (j : Nat) : RowsAt w B e s f (some (ad.add (j * s))) (xs.drop j) := fun i hi => by
  have hi' : j + i < xs.length := by rw [List.length_drop] at hi; omega
  obtain ⟨a, e1, ho, hc⟩ := h (j + i) hi'
  have e2 : ad = a := Option.some.inj e1
  subst e2
  refine ⟨_, rfl, by rw [block_of_add]; exact ho, fun q v hv => ?_⟩
  have e3 : (ad.add (j * s)).add (i * s) = ad.add ((j + i) * s) := by rw [add_of_add, Nat.add_mul]
  rw [e3]
  refine hc q v ?_
  rw [List.getElem_drop] at hv
  exact hv

end Go.Proofs.Ytdknkbpgkkakhaa
