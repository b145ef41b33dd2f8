/- Layer 22: what a store into the second map leaves. -/
import Derived.Test.YtdknkbpgkkakhaaRoad4
namespace Go.Proofs.Ytdknkbpgkkakhaa
open Go.RowKit
open Go.ChangeMaps (setBlock)
section
variable {w w' w6 : World} {B : Nat} {A : Option Addr} {c : Nat} {rs : List Rw} {m : RoadMem} {s : RoadSt}
theorem RoadAt.storeUndX (h : RoadAt w B A c rs m s) {d : Int} (hd : wf64 d) {v : Value} (hv : v = (m.fu d).getD (.slice none 0 0)) (MS : Mods (fun k => v.ownBlock = some k) w w6)
    {v7 : Value} {zs : List Iv} (hO : Off elIv w6 B v7 zs) (hzs : ∀ z ∈ zs, IvOk w6 B z) (hat : ∀ b, v7.ownBlock = some b → v.ownBlock = some b ∨ w.heap.size ≤ b) (hl : zs.length ≤ 40) :
    ∃ o m', (Instr.mapUpdate 131 (.map (some m.mu)) (.int .i64 d) v7).run Try.prog w6 = .ok () (setBlock w6 m.mu o) ∧
      RoadAt (setBlock w6 m.mu o) B A c rs m' ⟨s.off, fun t => if t = d then zs.map Iv.it else s.und t, s.log⟩ ∧ m'.ra = m.ra ∧ RoadGo B w m (setBlock w6 m.mu o) m' ∧
      (∀ u b, ((m'.fu u).getD (.slice none 0 0)).ownBlock = some b → v7.ownBlock = some b ∨ ((m.fu u).getD (.slice none 0 0)).ownBlock = some b) ∧ m'.mu = m.mu := by
  obtain ⟨ys, g1, g2, g3⟩ := h.unds d
  rw [← hv] at g1
  have hBw : B ≤ w.heap.size := Nat.le_trans h.base.1 (Nat.le_of_lt h.blk.lt)
  have hty : ∀ b, v.ownBlock = some b → B ≤ b ∧ ∃ cur, Blk w b 33 cur := fun b hb => by
    obtain ⟨t1, _, t2⟩ := g1.typed hb
    exact ⟨t1, t2⟩
  have hk6 : Keeps B [33] w w6 := Keeps.of_mods MS fun k hk => by
    obtain ⟨t1, cur, t2⟩ := hty k hk
    refine ⟨t1, fun cs t fr hh => ?_⟩
    unfold Blk at t2
    rw [t2] at hh
    injection hh with hh
    injection hh with _ hh
    simp [hh]
  have hmu6 : MapIs Try.prog 3 levV w6 m.mu m.fu := h.undm.mods MS (fun hc => by
    obtain ⟨_, cur, t2⟩ := hty _ hc
    exact h.undm.not_blk t2 rfl)
  have hmo6 : MapIs Try.prog 135 wayV w6 m.mo m.fo := h.offm.mods MS (fun hc => by
    obtain ⟨_, cur, t2⟩ := hty _ hc
    exact h.offm.not_blk t2 rfl)
  have hra6 : Blk w6 m.ra 133 #[.slice A rs.length c, .map (some m.mo), .map (some m.mu), m.vl] := h.blk.mods MS (fun hc => by
    obtain ⟨_, cur, t2⟩ := hty _ hc
    have h5 := h.blk
    unfold Blk at h5 t2
    rw [h5] at t2
    cases t2)
  obtain ⟨o, h1, h2⟩ := hmu6.store keyed3 ul131 levV_inj (key3 hd) v7
  have hm := mods_setBlock w6 m.mu o
  have hk := keeps_map hmu6 h.base.2.2 o []
  refine ⟨o, ⟨m.ra, m.mo, m.mu, m.fo, fun y => if y = d then some v7 else m.fu y, m.vl⟩, h1, ⟨h.base, h.apart, hra6.mods hm (hmu6.not_blk hra6), hmo6.mods hm h.apart, h.offs, h2, ?_, ?_, ?_, (h.mat.keeps hk6 (by decide) (by decide)).keeps hk (by simp) (by simp), ?_, h.loglen⟩, rfl,
    ⟨(MS.below hBw (fun k hk => (hty k hk).1)).trans (below_setBlock w6 o h.base.2.2), ?_, ?_⟩, fun u b hb => ?_, rfl⟩
  rotate_right 3
  · have h1 : Mods (RoadOwn m) w w6 := ⟨MS.os, MS.tape, MS.output, MS.size, fun k hk hn => MS.block k hk (fun e => hn (.inr (.inr (.inr (.inr ⟨d, by rw [← hv]; exact e⟩)))))⟩
    exact h1.trans hm (fun k _ e => .inr (.inr (.inl e)))
  · rintro g (e | e | e | e | ⟨u, e⟩)
    · exact .inl (.inl e)
    · exact .inl (.inr (.inl e))
    · exact .inl (.inr (.inr (.inl e)))
    · exact .inl (.inr (.inr (.inr (.inl e))))
    · replace e : ((if u = d then some v7 else m.fu u).getD (.slice none 0 0)).ownBlock = some g := e
      by_cases hu : u = d
      · rw [if_pos hu] at e
        rcases hat g e with h1 | h1
        · exact .inl (.inr (.inr (.inr (.inr ⟨d, by rw [← hv]; exact h1⟩))))
        · exact .inr h1
      · rw [if_neg hu] at e
        exact .inl (.inr (.inr (.inr (.inr ⟨u, e⟩))))
  · replace hb : ((if u = d then some v7 else m.fu u).getD (.slice none 0 0)).ownBlock = some b := hb
    by_cases hu : u = d
    · rw [if_pos hu] at hb; exact .inl hb
    · rw [if_neg hu] at hb; exact .inr hb
  · intro t
    show ∃ ys, Off elIv _ B ((if t = d then some v7 else m.fu t).getD (.slice none 0 0)) ys ∧ ys.map Iv.it = (if t = d then zs.map Iv.it else s.und t) ∧ _
    by_cases ht : t = d
    · rw [if_pos ht, if_pos ht]
      refine ⟨zs, hO.mods hm (fun b hb => ?_), rfl, fun z hz => (hzs z hz).keeps hk (by simp)⟩
      obtain ⟨_, _, cur, hB⟩ := hO.typed hb
      exact hmu6.not_blk hB
    · rw [if_neg ht, if_neg ht]
      obtain ⟨us, u1, u2, u3⟩ := h.unds t
      have u4 : Off elIv w6 B ((m.fu t).getD (.slice none 0 0)) us := u1.mods MS (fun b hb hc => h.sep t d b ht hb (by rw [← hv]; exact hc))
      refine ⟨us, u4.mods hm (fun b hb => ?_), u2, fun z hz => ((u3 z hz).keeps hk6 (by decide)).keeps hk (by simp)⟩
      obtain ⟨_, _, cur, hB⟩ := u4.typed hb
      exact hmu6.not_blk hB
  · intro t t' b hne
    show ((if t = d then some v7 else m.fu t).getD (.slice none 0 0)).ownBlock = some b → ((if t' = d then some v7 else m.fu t').getD (.slice none 0 0)).ownBlock ≠ some b
    have old : ∀ u, u ≠ d → ∀ b, ((m.fu u).getD (.slice none 0 0)).ownBlock = some b → v7.ownBlock ≠ some b := fun u hu b hb hc => by
      rcases hat b hc with h5 | h5
      · exact h.sep u d b hu hb (by rw [← hv]; exact h5)
      · obtain ⟨us, u1, _, _⟩ := h.unds u
        have := (u1.typed hb).2.1
        omega
    by_cases ht : t = d
    · by_cases ht' : t' = d
      · exact absurd (ht.trans ht'.symm) hne
      · rw [if_pos ht, if_neg ht']
        exact fun hb hc => old t' ht' b hc hb
    · by_cases ht' : t' = d
      · rw [if_neg ht, if_pos ht']
        exact fun hb => old t ht b hb
      · rw [if_neg ht, if_neg ht']
        exact h.sep t t' b hne
  · obtain ⟨ps, p1, p2, p3⟩ := h.log
    have p4 : Own elPv w6 B m.vl ps := p1.mods MS (fun b hb hc => by
      obtain ⟨_, cur, hB⟩ := p1.blk hb
      obtain ⟨_, cur2, t2⟩ := hty _ hc
      unfold Blk at hB t2
      rw [hB] at t2
      cases t2)
    refine ⟨ps, p4.mods hm (fun b hb => ?_), p2, fun p hp => ((p3 p hp).keeps hk6 (by decide)).keeps hk (by simp)⟩
    obtain ⟨_, cur, hB⟩ := p4.blk hb
    exact hmu6.not_blk hB
  · intro t
    show (if t = d then zs.map Iv.it else s.und t).length ≤ 40
    by_cases ht : t = d
    · rw [if_pos ht, List.length_map]; exact hl
    · rw [if_neg ht]; exact h.few t

theorem RoadAt.storeUnd (h : RoadAt w B A c rs m s) {d : Int} (hd : wf64 d) {v : Value} (hv : v = (m.fu d).getD (.slice none 0 0)) (MS : Mods (fun k => v.ownBlock = some k) w w6)
    {v7 : Value} {zs : List Iv} (hO : Off elIv w6 B v7 zs) (hzs : ∀ z ∈ zs, IvOk w6 B z) (hat : ∀ b, v7.ownBlock = some b → v.ownBlock = some b ∨ w.heap.size ≤ b) (hl : zs.length ≤ 40) :
    ∃ o m', (Instr.mapUpdate 131 (.map (some m.mu)) (.int .i64 d) v7).run Try.prog w6 = .ok () (setBlock w6 m.mu o) ∧
      RoadAt (setBlock w6 m.mu o) B A c rs m' ⟨s.off, fun t => if t = d then zs.map Iv.it else s.und t, s.log⟩ ∧ m'.ra = m.ra ∧ RoadGo B w m (setBlock w6 m.mu o) m' := by
  obtain ⟨o, m', h1, h2, h3, h4, _⟩ := h.storeUndX hd hv MS hO hzs hat hl
  exact ⟨o, m', h1, h2, h3, h4⟩

theorem blk_ne {g g' : Nat} {t t' : TypeId} {cs cs' : Array Value} (h : Blk w g t cs) (h' : Blk w g' t' cs') (hne : t ≠ t') : g ≠ g' := by
  rintro rfl
  unfold Blk at h h'
  rw [h] at h'
  injection h' with h'
  injection h' with _ h'
  exact hne h'
theorem keeps_blk {t : TypeId} {cs : Array Value} {g : Nat} (h : Blk w g t cs) (hB : B ≤ g) (i : Nat) (u : Value) : Keeps B [t] w (w.setCell ⟨g, i, none⟩ u) :=
  Keeps.of_mods (mods_setCell w ⟨g, i, none⟩ u) fun k hk => by
    have hk' : k = g := hk
    subst hk'
    refine ⟨hB, fun cs' t' fr hh => ?_⟩
    unfold Blk at h
    rw [h] at hh
    injection hh with hh
    injection hh with _ hh
    simp [hh]
theorem RoadAt.mods1 (h : RoadAt w B A c rs m s) {g : Nat} {cs : Array Value} (k : Mods (fun i => i = g) w w') (hB : B ≤ g) (hb : Blk w g 33 cs) (hne : ∀ t, ((m.fu t).getD (.slice none 0 0)).ownBlock ≠ some g) : RoadAt w' B A c rs m s := by
  have hk : Keeps B [33] w w' := Keeps.of_mods k fun i hi => by
    subst hi
    refine ⟨hB, fun cs' t' fr hh => ?_⟩
    unfold Blk at hb
    rw [hb] at hh
    injection hh with hh
    injection hh with _ hh
    simp [hh]
  refine ⟨h.base, h.apart, h.blk.mods k (blk_ne h.blk hb (by decide)), h.offm.mods k (fun e => h.offm.not_blk hb e.symm), h.offs, h.undm.mods k (fun e => h.undm.not_blk hb e.symm), ?_, h.sep, ?_, h.mat.keeps hk (by decide) (by decide), h.few, h.loglen⟩
  · intro t
    obtain ⟨us, u1, u2, u3⟩ := h.unds t
    exact ⟨us, u1.mods k (fun b hb' e => hne t (by rw [← e]; exact hb')), u2, fun z hz => (u3 z hz).keeps hk (by decide)⟩
  · obtain ⟨ps, p1, p2, p3⟩ := h.log
    refine ⟨ps, p1.mods k (fun b hb' e => ?_), p2, fun p hp => (p3 p hp).keeps hk (by decide)⟩
    obtain ⟨_, cur, hB'⟩ := p1.blk hb'
    exact blk_ne hB' hb (by decide) e
theorem RoadAt.storeLog (h : RoadAt w B A c rs m s) (MS : Mods (fun k => m.vl.ownBlock = some k) w w6) {v' : Value} {ps' : List Pv} (hO : Own elPv w6 B v' ps') (hok : ∀ p ∈ ps', IvOk w6 B p.x) (hl : ps'.length ≤ 1000000) (hat : ∀ b, v'.ownBlock = some b → m.vl.ownBlock = some b ∨ w.heap.size ≤ b) :
    RoadAt (w6.setCell ⟨m.ra, 3, none⟩ v') B A c rs ⟨m.ra, m.mo, m.mu, m.fo, m.fu, v'⟩ ⟨s.off, s.und, prs ps'⟩ ∧ RoadGo B w m (w6.setCell ⟨m.ra, 3, none⟩ v') ⟨m.ra, m.mo, m.mu, m.fo, m.fu, v'⟩ ∧ Blk w6 m.ra 133 #[.slice A rs.length c, .map (some m.mo), .map (some m.mu), m.vl] := by
  obtain ⟨qs, q1, _, _⟩ := h.log
  have hBw : B ≤ w.heap.size := Nat.le_trans h.base.1 (Nat.le_of_lt h.blk.lt)
  have hk6 : Keeps B [94] w w6 := Keeps.of_mods MS fun k hk => by
    obtain ⟨t1, cur, t2⟩ := q1.blk hk
    refine ⟨t1, fun cs t fr hh => ?_⟩
    unfold Blk at t2
    rw [t2] at hh
    injection hh with hh
    injection hh with _ hh
    simp [← hh, elPv]
  have hra6 : Blk w6 m.ra 133 #[.slice A rs.length c, .map (some m.mo), .map (some m.mu), m.vl] := h.blk.mods MS (fun hc => by
    obtain ⟨_, cur, t2⟩ := q1.blk hc
    exact blk_ne h.blk t2 (by decide) rfl)
  have hmo6 : MapIs Try.prog 135 wayV w6 m.mo m.fo := h.offm.mods MS (fun hc => by
    obtain ⟨_, cur, t2⟩ := q1.blk hc
    exact h.offm.not_blk t2 rfl)
  have hmu6 : MapIs Try.prog 3 levV w6 m.mu m.fu := h.undm.mods MS (fun hc => by
    obtain ⟨_, cur, t2⟩ := q1.blk hc
    exact h.undm.not_blk t2 rfl)
  have hm := mods_setCell w6 ⟨m.ra, 3, none⟩ v'
  have hk := keeps_blk hra6 h.base.1 3 v'
  have hb3 := hra6.set_ 3 v'
  simp only [List.setIfInBounds_toArray, List.set_cons_zero, List.set_cons_succ] at hb3
  refine ⟨⟨h.base, h.apart, hb3, hmo6.mods hm (fun e => hmo6.not_blk hra6 e.symm), h.offs, hmu6.mods hm (fun e => hmu6.not_blk hra6 e.symm), ?_, h.sep, ?_, (h.mat.keeps hk6 (by decide) (by decide)).keeps hk (by decide) (by decide), h.few, by rw [prs_length]; exact hl⟩,
    ⟨(MS.below hBw (fun k hk => (q1.blk hk).1)).trans ((Below.refl _ _).setCell h.base.1 _), ?_, ?_⟩, hra6⟩
  rotate_right 2
  · have h1 : Mods (RoadOwn m) w w6 := ⟨MS.os, MS.tape, MS.output, MS.size, fun k hk hn => MS.block k hk (fun e => hn (.inr (.inr (.inr (.inl e)))))⟩
    exact h1.trans hm (fun k _ e => .inl e)
  · rintro g (e | e | e | e | ⟨u, e⟩)
    · exact .inl (.inl e)
    · exact .inl (.inr (.inl e))
    · exact .inl (.inr (.inr (.inl e)))
    · rcases hat g e with h1 | h1
      · exact .inl (.inr (.inr (.inr (.inl h1))))
      · exact .inr h1
    · exact .inl (.inr (.inr (.inr (.inr ⟨u, e⟩))))
  · intro t
    obtain ⟨us, u1, u2, u3⟩ := h.unds t
    have u4 : Off elIv w6 B ((m.fu t).getD (.slice none 0 0)) us := u1.mods MS (fun b hb hc => by
      obtain ⟨_, _, cur, hB⟩ := u1.typed hb
      obtain ⟨_, cur2, t2⟩ := q1.blk hc
      exact blk_ne hB t2 (by decide) rfl)
    refine ⟨us, u4.mods hm (fun b hb hc => ?_), u2, fun z hz => ((u3 z hz).keeps hk6 (by decide)).keeps hk (by decide)⟩
    obtain ⟨_, _, cur, hB⟩ := u4.typed hb
    exact blk_ne hB hra6 (by decide) hc
  · refine ⟨ps', hO.mods hm (fun b hb hc => ?_), rfl, fun p hp => (hok p hp).keeps hk (by decide)⟩
    obtain ⟨_, cur, hB⟩ := hO.blk hb
    exact blk_ne hB hra6 (by decide) hc
end
end Go.Proofs.Ytdknkbpgkkakhaa
