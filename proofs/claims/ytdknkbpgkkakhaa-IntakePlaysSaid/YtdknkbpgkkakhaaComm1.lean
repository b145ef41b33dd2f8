/- Channels of the call's own in a walk: a region that sends, receives or selects where nothing waits. -/
import Derived.Test.YtdknkbpgkkakhaaBase
import Derived.Conc.LoneSelect
namespace Go.Proofs.Ytdknkbpgkkakhaa
open Go.RowKit Go.Conc

section
variable {P : Program} {ops : Array Oper} {Q : Exit → Act → World → Prop} {a : Act} {w w' : World} {i id : Nat} {rest : List Nat} {o : Oper}
/-- The operations l of a region, from a and w on. -/
def SemOps (P : Program) (ops : Array Oper) (Q : Exit → Act → World → Prop) (l : List Nat) (a : Act) (w : World) : Prop :=
  ∀ (b : Frame) (k : List Item) (cs : List Frame), ∃ e a' w', Q e a' w' ∧ Arrives P (lone (b.at a (.inRegion ops l :: k)) cs w) b k cs e a' w'
theorem semOps_of {l : List Nat} (h : wpOps P ops Q l a w) : SemOps P ops Q l a w := wp_ops l a w h
theorem sem_step (v : Value) (ho : ops[i]? = some o) (h : ∀ (b : Frame) (k : List Item) (cs : List Frame), step P (lone (b.at a (.inRegion ops (i :: rest) :: k)) cs w) = .next (lone ((b.at a (.inRegion ops (i :: rest) :: k)).finish v) cs w'))
    (h' : SemOps P ops Q rest (a.put o.dst v) w') : SemOps P ops Q (i :: rest) a w := fun b k cs => by
  obtain ⟨e, a', w'', q, r⟩ := h' b k cs
  refine ⟨e, a', w'', q, .of_steps (.one ?_) r⟩
  rw [h b k cs, Frame.finish_at, ho]; rfl
theorem sem_value (v : Value) (ho : ops[i]? = some o) (hg : o.guard = none) (hr : (execOp a.eval o).run P w = .ok (.value v) w')
    (h' : SemOps P ops Q rest (a.put o.dst v) w') : SemOps P ops Q (i :: rest) a w :=
  sem_step v ho (fun b k cs => step_lone_go (by
    rw [stepG_op ho (by simp [Region.wanted, hg])]
    simp [stepG.apply, hr])) h'
theorem sem_comm_step (v : Value) {cases : Array CommCase} {blocking : Bool} {kind : CommShape} (ho : ops[i]? = some o) (hg : o.guard = none) (hr : (execOp a.eval o).run P w = .ok (.comm cases blocking kind) w)
    (hs : ∀ fr cs es, stepG P true (G fr cs) w = .comm (G fr cs) cases blocking kind w es → step P (solo (G fr cs) w) = .next (solo (G (fr.finish v) cs) w'))
    (h' : SemOps P ops Q rest (a.put o.dst v) w') : SemOps P ops Q (i :: rest) a w :=
  sem_step v ho (fun b k cs => by
    have h1 := stepG_op (P := P) (b := b) (a := a) (k := k) (cs := cs) (w := w) (rest := rest) ho (by simp [Region.wanted, hg])
    simp only [stepG.apply, Sem.runT_eq, hr] at h1
    exact hs _ _ _ h1) h'
theorem sem_region (h : SemOps P ops Q (List.range ops.size) a w) : (Code.region id ops false).wp P Q a w :=
  fun b k cs => let ⟨e, a', w', q, r⟩ := h b k cs; ⟨e, a', w', q, .of_steps (.one step_region) r⟩

variable {c cap s r : Nat} {buf : Array Value} {v z : Value}
/-- A send into a buffer with room. -/
theorem sem_send (ho : ops[i]? = some o) (hg : o.guard = none) (hr : (execOp a.eval o).run P w = .ok (.comm #[scase c v z] true .send) w) (hc : w.heap[c]? = some (.chan cap buf false s r false)) (hroom : buf.size < cap)
    (h' : SemOps P ops Q rest (a.put o.dst undef) (w.setChan c cap (buf.push v) false (s + 1) r false)) : SemOps P ops Q (i :: rest) a w :=
  sem_comm_step undef ho hg hr (fun _ _ _ h => step_lone_send_room h hc hroom) h'
/-- A receive of what lies in the buffer. -/
theorem sem_recv (ho : ops[i]? = some o) (hg : o.guard = none) (hr : (execOp a.eval o).run P w = .ok (.comm #[rcase c z] true (.recv false)) w) (hc : w.heap[c]? = some (.chan cap buf false s r false)) (hsome : 0 < buf.size)
    (h' : SemOps P ops Q rest (a.put o.dst (buf.getD 0 undef)) (w.setChan c cap (buf.extract 1 buf.size) false s (r + 1) false)) : SemOps P ops Q (i :: rest) a w :=
  sem_comm_step _ ho hg hr (fun _ _ _ h => step_lone_recv_buf false h hc hsome) h'
/-- A select of one send, with a default: there is room. -/
theorem sem_sel_room (ho : ops[i]? = some o) (hg : o.guard = none) (hr : (execOp a.eval o).run P w = .ok (.comm #[scase c v z] false .select) w) (hc : w.heap[c]? = some (.chan cap buf false s r false)) (hroom : buf.size < cap)
    (h' : SemOps P ops Q rest (a.put o.dst (.tuple #[goInt 0, .bool false])) (w.setChan c cap (buf.push v) false (s + 1) r false)) : SemOps P ops Q (i :: rest) a w :=
  sem_comm_step _ ho hg hr (fun _ _ _ h => step_lone_select_send_room h hc hroom) h'
/-- A select of one send, with a default: there is none. -/
theorem sem_sel_full (ho : ops[i]? = some o) (hg : o.guard = none) (hr : (execOp a.eval o).run P w = .ok (.comm #[scase c v z] false .select) w) (hc : w.heap[c]? = some (.chan cap buf false s r false)) (hfull : cap ≤ buf.size)
    (h' : SemOps P ops Q rest (a.put o.dst (.tuple #[goInt (-1), .bool false])) w) : SemOps P ops Q (i :: rest) a w :=
  sem_comm_step _ ho hg hr (fun _ _ _ h => step_lone_select_send_full h hc hfull) h'
end

/-- The channel in block b: its capacity; how much lies in its buffer. -/
def ChanIs (w : World) (b cap n : Nat) : Prop := ∃ buf s r, w.heap[b]? = some (.chan cap buf false s r false) ∧ buf.size = n
theorem ChanIs.lt {w : World} {b cap n : Nat} (h : ChanIs w b cap n) : b < w.heap.size := by
  obtain ⟨_, _, _, h1, _⟩ := h
  exact (Array.getElem?_eq_some_iff.1 h1).1
theorem ChanIs.mods {S : Nat → Prop} {w w' : World} {b cap n : Nat} (h : ChanIs w b cap n) (k : Mods S w w') (hb : ¬ S b) : ChanIs w' b cap n := by
  have hl := h.lt
  obtain ⟨buf, s, r, h1, h2⟩ := h
  exact ⟨buf, s, r, (k.block b hl hb).trans h1, h2⟩
theorem ChanIs.ext {w w' : World} {b cap n : Nat} (h : ChanIs w b cap n) (k : Ext w w') : ChanIs w' b cap n := by
  have hl := h.lt
  obtain ⟨buf, s, r, h1, h2⟩ := h
  exact ⟨buf, s, r, (k.block b hl).trans h1, h2⟩
theorem ChanIs.new (w : World) (cap : Nat) : ChanIs (w.alloc (.chan cap #[] false 0 0 false)) w.heap.size cap 0 := ⟨#[], 0, 0, heap_alloc_new w _, rfl⟩
theorem chan_set (w : World) {b : Nat} (hb : b < w.heap.size) (cap : Nat) (buf : Array Value) (s r : Nat) : ChanIs (w.setChan b cap buf false s r false) b cap buf.size := ⟨buf, s, r, heap_setChan w b cap buf false s r false hb, rfl⟩
theorem mods_setChan (w : World) (b cap : Nat) (buf : Array Value) (s r : Nat) : Mods (fun k => k = b) w (w.setChan b cap buf false s r false) :=
  ⟨rfl, rfl, rfl, by simp [World.setChan], fun k _ hk => by simp only [World.setChan]; rw [Array.getElem?_setIfInBounds_ne (fun e => hk e.symm)]⟩
end Go.Proofs.Ytdknkbpgkkakhaa
