/- Layer 20: maps.Clone, an intake's cells written out, ranging its map. -/
import Derived.Test.YtdknkbpgkkakhaaInt10
namespace Go.Proofs.Ytdknkbpgkkakhaa
open Go.RowKit Go.Maps
open Go.ChangeMaps (setBlock)

section
variable {P : Program} (w : World)
theorem run_equalIn_map_nil (d : Nat) (t k e : TypeId) (p : Option Nat) (h : P.underlying t = some (.map k e)) :
    (Op.equalIn (d + 1) t (.map p) (.map none)).run P w = .ok p.isNone w := by
  cases p <;> simp [Op.equalIn, run_underlying h]
theorem run_eql_map_nil (t k e : TypeId) (p : Option Nat) (h : P.underlying t = some (.map k e)) :
    (binOp .eql t (.map p) (.map none)).run P w = .ok (.bool p.isNone) w := by
  simp only [binOp]
  simp [show Op.equal t (.map p) (.map none) = Op.equalIn (9999 + 1) t (.map p) (.map none) from rfl, run_equalIn_map_nil w 9999 t k e p h]
theorem run_typeAssert_map (t xT k e : TypeId) (v : Value) (h : P.underlying t = some (.map k e)) : (Instr.typeAssert (.iface t v) xT t false).run P w = .ok v w := by
  simp [Instr.typeAssert, run_underlying h, go_sem, Result.andThen]
theorem run_maps_clone {r : Nat} {es : Array MapEntry} {clock : Nat} (t : TypeId) (hb : w.heap[r]? = some (.map es clock)) :
    (Extern.MapsClone.clone #[.iface t (.map (some r))]).run P w = .ok (.iface t (.map (some w.heap.size))) (w.alloc (.map es clock)) := by
  have e : Extern.MapsClone.clone #[.iface t (.map (some r))] = (getObj r >>= fun o => match o with
      | .map entries clock => (newObj (.map entries clock) >>= fun n => pure (.iface t (.map (some n))))
      | _ => stuck "maps.clone: a map expected") := rfl
  rw [e]
  simp [MapKept.run_getObj_map hb, Result.andThen, go_sem]
end
set_option maxRecDepth 100000 in
set_option maxHeartbeats 2000000 in
theorem mapsClone_any {w : World} {b : Nat} {es : Array MapEntry} {clock : Nat} (hb : w.heap[b]? = some (.map es clock)) :
    Calls Try.prog 100 #[.map (some b)] w fun e w' => e = .returned (.map (some w.heap.size)) ∧ w' = w.alloc (.map es clock) := by
  have hq := fun w => run_eql_map_nil (P := Try.prog) w 137 _ _ (some b) ul137
  go_enter Try.func100, Try.ntmps100
  go_wp2
  have h110 : Try.prog.funcs[110]? = some Try.f110 := by kernel_rfl
  rw [run_callFunc_extern h110 (by kernel_rfl) (by kernel_rfl) (by kernel_rfl) (e := Extern.MapsClone.clone) (by kernel_rfl), run_maps_clone w 137 hb]
  simp only [Result.andThen]
  rw [Oper.upon_value]
  go_wp2
  rw [run_typeAssert_map _ 137 20 _ _ _ ul137]
  simp only [Result.andThen]
  rw [Oper.upon_value]
  go_wp2
  go_ret
  exact ⟨rfl, rfl⟩

section
variable {w w' : World} {B : Nat} {A : Option Addr} {c : Nat} {rs : List Rw} {lev : Int} {m : IntMem} {s : IntSt}
def intCs (A : Option Addr) (n c : Nat) (lev : Int) (s : IntSt) (mo pc : Nat) (vc : Value) : Array Value :=
  #[.slice A n c, .int .i64 lev, .int .i64 (s.have_ 0), .int .i64 (s.have_ 1), .int .i64 (s.have_ 2), .int .i64 (s.have_ 3), .int .i64 (s.have_ 4), .int .i64 (s.have_ 5), .int .i64 (s.over 0), .int .i64 (s.over 1), .int .i64 (s.over 2), .int .i64 (s.over 3), .int .i64 (s.over 4), .int .i64 (s.over 5), .map (some mo), .chan (some pc), vc, .int .i64 s.first]
theorem IntAt.cs_eq (h : IntAt w B A c rs lev m s) : m.cs = intCs A rs.length c lev s m.mo m.pc m.vc := by
  apply Array.ext
  · rw [h.size]; rfl
  · intro i h1 h2
    have e : ∀ v, m.cs[i]? = some v → m.cs[i] = v := fun v hv => by rw [Array.getElem?_eq_getElem h1] at hv; exact Option.some.inj hv
    have h18 : i < 18 := by rw [h.size] at h1; exact h1
    obtain rfl | rfl | rfl | rfl | rfl | rfl | rfl | rfl | rfl | rfl | rfl | rfl | rfl | rfl | rfl | rfl | rfl | rfl : i = 0 ∨ i = 1 ∨ i = 2 ∨ i = 3 ∨ i = 4 ∨ i = 5 ∨ i = 6 ∨ i = 7 ∨ i = 8 ∨ i = 9 ∨ i = 10 ∨ i = 11 ∨ i = 12 ∨ i = 13 ∨ i = 14 ∨ i = 15 ∨ i = 16 ∨ i = 17 := by omega
    · exact e _ h.lat
    · exact e _ h.lev_
    · exact e _ (h.hav 0 (by omega))
    · exact e _ (h.hav 1 (by omega))
    · exact e _ (h.hav 2 (by omega))
    · exact e _ (h.hav 3 (by omega))
    · exact e _ (h.hav 4 (by omega))
    · exact e _ (h.hav 5 (by omega))
    · exact e _ (h.ovr 0 (by omega))
    · exact e _ (h.ovr 1 (by omega))
    · exact e _ (h.ovr 2 (by omega))
    · exact e _ (h.ovr 3 (by omega))
    · exact e _ (h.ovr 4 (by omega))
    · exact e _ (h.ovr 5 (by omega))
    · exact e _ h.mapc
    · exact e _ h.chac
    · exact e _ h.camc
    · exact e _ h.firc
/-- An intake out of its parts. -/
theorem IntAt.of_parts {ga mo pc : Nat} {fh : Int × Int → Option Value} {vc : Value} (hb : B ≤ ga ∧ B ≤ mo ∧ B ≤ pc) (hne : mo ≠ pc) (h1 : Blk w ga 140 (intCs A rs.length c lev s mo pc vc)) (h2 : MapN Try.prog 143 wayV w mo s.cnt fh) (h3 : ChanIs w pc 40 s.cnt)
    (hh : ∀ x, HeldOk w B (fh x) (s.held x)) {ys : List Iv} (hO : Off elIv w B vc ys) (hys : its ys = s.came) (hok : ∀ y ∈ ys, IvOk w B y) (hM : MatAt w B A rs) (hf : s.cnt ≤ 40) (hl : s.came.length ≤ 1000000) :
    IntAt w B A c rs lev ⟨ga, mo, pc, fh, intCs A rs.length c lev s mo pc vc, vc⟩ s where
  base := hb
  apart := hne
  blk := h1
  size := rfl
  lat := rfl
  lev_ := rfl
  hav a ha := by
    obtain rfl | rfl | rfl | rfl | rfl | rfl : a = 0 ∨ a = 1 ∨ a = 2 ∨ a = 3 ∨ a = 4 ∨ a = 5 := by omega
    all_goals rfl
  ovr a ha := by
    obtain rfl | rfl | rfl | rfl | rfl | rfl : a = 0 ∨ a = 1 ∨ a = 2 ∨ a = 3 ∨ a = 4 ∨ a = 5 := by omega
    all_goals rfl
  mapc := rfl
  chac := rfl
  camc := rfl
  firc := rfl
  map := h2
  chan := h3
  helds := hh
  came := ⟨ys, hO, hys, hok⟩
  mat := hM
  few := hf
  camelen := hl
end

/-- Of entries apart by their stamps, one less is left behind each step. -/
theorem filter_one {l : List MapEntry} (hp : l.Pairwise fun x y => x.born ≠ y.born) {e : MapEntry} (he : e ∈ l) (q : MapEntry → Bool) (hq : q e = true) :
    (l.filter fun x => q x && !(x.born == e.born)).length + 1 = (l.filter q).length := by
  induction l with
  | nil => cases he
  | cons a l ih =>
    obtain ⟨h1, h2⟩ := List.pairwise_cons.1 hp
    rcases List.mem_cons.1 he with rfl | he'
    · have e1 : (l.filter fun x => q x && !(x.born == e.born)) = l.filter q := by
        apply List.filter_congr
        intro x hx
        have : (x.born == e.born) = false := by
          rw [beq_eq_false_iff_ne]
          exact fun hc => h1 x hx hc.symm
        rw [this]; simp
      simp [List.filter_cons, hq, e1]
    · have hne : (a.born == e.born) = false := beq_eq_false_iff_ne.2 (h1 e he')
      have := ih h2 he'
      simp only [List.filter_cons, hne, Bool.not_false, Bool.and_true]
      split <;> simp_all
theorem left_step {es : Array MapEntry} (hp : es.toList.Pairwise fun x y => x.born ≠ y.born) {seen : Array Nat} {e : MapEntry} (he : e ∈ (leftOf es seen).toList) : (leftOf es (seen.push e.born)).size + 1 = (leftOf es seen).size := by
  have hm : e ∈ es.toList ∧ (!seen.contains e.born) = true := by
    have := he
    simp only [leftOf, Array.toList_filter, List.mem_filter] at this
    exact this
  have h1 := filter_one hp hm.1 (fun x => !seen.contains x.born) hm.2
  rw [← Array.length_toList, ← Array.length_toList]
  simp only [leftOf, Array.toList_filter]
  rw [← h1]
  congr 2
  apply List.filter_congr
  intro x _
  by_cases h : x.born = e.born
  · simp [h]
  · simp [h]
end Go.Proofs.Ytdknkbpgkkakhaa
