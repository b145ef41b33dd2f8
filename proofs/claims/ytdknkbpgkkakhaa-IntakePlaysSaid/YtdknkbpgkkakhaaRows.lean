/-
  No cell of these rows narrows 'for every input' (looked for: loops, veiled, ifaces, maps, wideKeys, modest, calm, conditions, laid).
  DERIVED. THE GIVEN ROWS OF THIS SEAT. 18 by the template 'for every input the law returns true; each argument reads behind the call as it read before'; 0 by the template 'total and deterministic' (their statements: YtdknkbpgkkakhaaTotals.lean).
  GIVEN WITH THE SEED: the statements are not yours to turn. If you find one false, say at which input.
  Laid BY PROGRAM, IN A SANDBOX (cutbox-rows.mjs): the forced cells as the released guide's own fill.sh prints them over the translation c91926801a38834a… (all of the seat's roots in one cut). By AI agents, Wed Nov 11 2026. No macro, syntax, notation, axiom, sorry.
-/
import Derived.Test.YtdknkbpgkkakhaaChecked
import GoSem.Claim
import GoSem.ClaimJoined
import GoSem.ClaimMapViews
import Derived.JoinedTies
import Derived.KernelRfl
namespace Go.Proofs.Ytdknkbpgkkakhaa
/- THE CELL 'sum', in the pinned program and in every row, IS THE sha256 OF THE DUMP (.gsa) THAT YtdknkbpgkkakhaaProg.lean LOADS. Nothing in Lean hashes anything: it is a label: what it is worth is what the hold of that sum in a sandbox is worth. -/
noncomputable def Try.pinned : Pinned := { name := "ytdknkbpgkkakhaa", sum := "c91926801a38834af1af8f4a263166754e86596d4bfa934150faded32f39b907", checked := Try.checked }
namespace Rows
def none {H : Type} : Left H := { results := [], args := [] }

/-- 'ravelinlaw19.StreamPlays': WHATEVER THE INPUT: true; the input reads as it did. -/
def streamPlaysSpec : ChangeSpec := { name := "streamPlays", fn := fun _ => fun
  | [d1, d2, d3, d4, d5] => { results := [.lit (.bool true)], args := [d1, d2, d3, d4, d5] }
  | _ => none }
def streamPlaysRow : OpenClaim := { program := "ytdknkbpgkkakhaa", sum := "c91926801a38834af1af8f4a263166754e86596d4bfa934150faded32f39b907", func := "ravelin/ravelinlaw19.StreamPlays", spec := "streamPlays", plainKeys := false, apart := false }
def StreamPlaysSaid : Prop := streamPlaysRow.holds Try.pinned (OpenSpec.ofChange streamPlaysSpec)

/-- ITS FALSE NEIGHBOUR: 'it returns false'. Refute it at one input. -/
def streamPlaysWrong : ChangeSpec := { name := "streamPlays", fn := fun _ => fun
  | [d1, d2, d3, d4, d5] => { results := [.lit (.bool false)], args := [d1, d2, d3, d4, d5] }
  | _ => none }
def StreamPlaysWrongFalsely : Prop := streamPlaysRow.holds Try.pinned (OpenSpec.ofChange streamPlaysWrong)

/-- 'ravelinlaw19.StreamTurns': WHATEVER THE INPUT: true; the input reads as it did. -/
def streamTurnsSpec : ChangeSpec := { name := "streamTurns", fn := fun _ => fun
  | [d] => { results := [.lit (.bool true)], args := [d] }
  | _ => none }
def streamTurnsRow : OpenClaim := { program := "ytdknkbpgkkakhaa", sum := "c91926801a38834af1af8f4a263166754e86596d4bfa934150faded32f39b907", func := "ravelin/ravelinlaw19.StreamTurns", spec := "streamTurns", plainKeys := false, apart := false }
def StreamTurnsSaid : Prop := streamTurnsRow.holds Try.pinned (OpenSpec.ofChange streamTurnsSpec)

/-- ITS FALSE NEIGHBOUR: 'it returns false'. Refute it at one input. -/
def streamTurnsWrong : ChangeSpec := { name := "streamTurns", fn := fun _ => fun
  | [d] => { results := [.lit (.bool false)], args := [d] }
  | _ => none }
def StreamTurnsWrongFalsely : Prop := streamTurnsRow.holds Try.pinned (OpenSpec.ofChange streamTurnsWrong)

/-- 'ravelinlaw19.StreamParts': WHATEVER THE INPUT: true; the input reads as it did. -/
def streamPartsSpec : ChangeSpec := { name := "streamParts", fn := fun _ => fun
  | [d1, d2, d3] => { results := [.lit (.bool true)], args := [d1, d2, d3] }
  | _ => none }
def streamPartsRow : OpenClaim := { program := "ytdknkbpgkkakhaa", sum := "c91926801a38834af1af8f4a263166754e86596d4bfa934150faded32f39b907", func := "ravelin/ravelinlaw19.StreamParts", spec := "streamParts", plainKeys := false, apart := false }
def StreamPartsSaid : Prop := streamPartsRow.holds Try.pinned (OpenSpec.ofChange streamPartsSpec)

/-- ITS FALSE NEIGHBOUR: 'it returns false'. Refute it at one input. -/
def streamPartsWrong : ChangeSpec := { name := "streamParts", fn := fun _ => fun
  | [d1, d2, d3] => { results := [.lit (.bool false)], args := [d1, d2, d3] }
  | _ => none }
def StreamPartsWrongFalsely : Prop := streamPartsRow.holds Try.pinned (OpenSpec.ofChange streamPartsWrong)

/-- 'ravelinlaw1.LatticeTells': WHATEVER THE INPUT: true; the input reads as it did. -/
def latticeTellsSpec : ChangeSpec := { name := "latticeTells", fn := fun _ => fun
  | [d1, d2, d3, d4] => { results := [.lit (.bool true)], args := [d1, d2, d3, d4] }
  | _ => none }
def latticeTellsRow : OpenClaim := { program := "ytdknkbpgkkakhaa", sum := "c91926801a38834af1af8f4a263166754e86596d4bfa934150faded32f39b907", func := "ravelin/ravelinlaw1.LatticeTells", spec := "latticeTells", plainKeys := false, apart := false }
def LatticeTellsSaid : Prop := latticeTellsRow.holds Try.pinned (OpenSpec.ofChange latticeTellsSpec)

/-- ITS FALSE NEIGHBOUR: 'it returns false'. Refute it at one input. -/
def latticeTellsWrong : ChangeSpec := { name := "latticeTells", fn := fun _ => fun
  | [d1, d2, d3, d4] => { results := [.lit (.bool false)], args := [d1, d2, d3, d4] }
  | _ => none }
def LatticeTellsWrongFalsely : Prop := latticeTellsRow.holds Try.pinned (OpenSpec.ofChange latticeTellsWrong)

/-- 'ravelinlaw1.LatticeOrders': WHATEVER THE INPUT: true; the input reads as it did. -/
def latticeOrdersSpec : ChangeSpec := { name := "latticeOrders", fn := fun _ => fun
  | [d] => { results := [.lit (.bool true)], args := [d] }
  | _ => none }
def latticeOrdersRow : OpenClaim := { program := "ytdknkbpgkkakhaa", sum := "c91926801a38834af1af8f4a263166754e86596d4bfa934150faded32f39b907", func := "ravelin/ravelinlaw1.LatticeOrders", spec := "latticeOrders", plainKeys := false, apart := false }
def LatticeOrdersSaid : Prop := latticeOrdersRow.holds Try.pinned (OpenSpec.ofChange latticeOrdersSpec)

/-- ITS FALSE NEIGHBOUR: 'it returns false'. Refute it at one input. -/
def latticeOrdersWrong : ChangeSpec := { name := "latticeOrders", fn := fun _ => fun
  | [d] => { results := [.lit (.bool false)], args := [d] }
  | _ => none }
def LatticeOrdersWrongFalsely : Prop := latticeOrdersRow.holds Try.pinned (OpenSpec.ofChange latticeOrdersWrong)

/-- 'ravelinlaw1.LatticeSpoils': WHATEVER THE INPUT: true; the input reads as it did. -/
def latticeSpoilsSpec : ChangeSpec := { name := "latticeSpoils", fn := fun _ => fun
  | [d1, d2, d3, d4] => { results := [.lit (.bool true)], args := [d1, d2, d3, d4] }
  | _ => none }
def latticeSpoilsRow : OpenClaim := { program := "ytdknkbpgkkakhaa", sum := "c91926801a38834af1af8f4a263166754e86596d4bfa934150faded32f39b907", func := "ravelin/ravelinlaw1.LatticeSpoils", spec := "latticeSpoils", plainKeys := false, apart := false }
def LatticeSpoilsSaid : Prop := latticeSpoilsRow.holds Try.pinned (OpenSpec.ofChange latticeSpoilsSpec)

/-- ITS FALSE NEIGHBOUR: 'it returns false'. Refute it at one input. -/
def latticeSpoilsWrong : ChangeSpec := { name := "latticeSpoils", fn := fun _ => fun
  | [d1, d2, d3, d4] => { results := [.lit (.bool false)], args := [d1, d2, d3, d4] }
  | _ => none }
def LatticeSpoilsWrongFalsely : Prop := latticeSpoilsRow.holds Try.pinned (OpenSpec.ofChange latticeSpoilsWrong)

/-- 'ravelinlaw1.LatticeChains': WHATEVER THE INPUT: true; the input reads as it did. -/
def latticeChainsSpec : ChangeSpec := { name := "latticeChains", fn := fun _ => fun
  | [d1, d2, d3] => { results := [.lit (.bool true)], args := [d1, d2, d3] }
  | _ => none }
def latticeChainsRow : OpenClaim := { program := "ytdknkbpgkkakhaa", sum := "c91926801a38834af1af8f4a263166754e86596d4bfa934150faded32f39b907", func := "ravelin/ravelinlaw1.LatticeChains", spec := "latticeChains", plainKeys := false, apart := false }
def LatticeChainsSaid : Prop := latticeChainsRow.holds Try.pinned (OpenSpec.ofChange latticeChainsSpec)

/-- ITS FALSE NEIGHBOUR: 'it returns false'. Refute it at one input. -/
def latticeChainsWrong : ChangeSpec := { name := "latticeChains", fn := fun _ => fun
  | [d1, d2, d3] => { results := [.lit (.bool false)], args := [d1, d2, d3] }
  | _ => none }
def LatticeChainsWrongFalsely : Prop := latticeChainsRow.holds Try.pinned (OpenSpec.ofChange latticeChainsWrong)

/-- 'ravelinlaw1.LatticeSets': WHATEVER THE INPUT: true; the input reads as it did. -/
def latticeSetsSpec : ChangeSpec := { name := "latticeSets", fn := fun _ => fun
  | [d1, d2, d3] => { results := [.lit (.bool true)], args := [d1, d2, d3] }
  | _ => none }
def latticeSetsRow : OpenClaim := { program := "ytdknkbpgkkakhaa", sum := "c91926801a38834af1af8f4a263166754e86596d4bfa934150faded32f39b907", func := "ravelin/ravelinlaw1.LatticeSets", spec := "latticeSets", plainKeys := false, apart := false }
def LatticeSetsSaid : Prop := latticeSetsRow.holds Try.pinned (OpenSpec.ofChange latticeSetsSpec)

/-- ITS FALSE NEIGHBOUR: 'it returns false'. Refute it at one input. -/
def latticeSetsWrong : ChangeSpec := { name := "latticeSets", fn := fun _ => fun
  | [d1, d2, d3] => { results := [.lit (.bool false)], args := [d1, d2, d3] }
  | _ => none }
def LatticeSetsWrongFalsely : Prop := latticeSetsRow.holds Try.pinned (OpenSpec.ofChange latticeSetsWrong)

/-- 'ravelinlaw1.LatticeJoins': WHATEVER THE INPUT: true; the input reads as it did. -/
def latticeJoinsSpec : ChangeSpec := { name := "latticeJoins", fn := fun _ => fun
  | [d1, d2] => { results := [.lit (.bool true)], args := [d1, d2] }
  | _ => none }
def latticeJoinsRow : OpenClaim := { program := "ytdknkbpgkkakhaa", sum := "c91926801a38834af1af8f4a263166754e86596d4bfa934150faded32f39b907", func := "ravelin/ravelinlaw1.LatticeJoins", spec := "latticeJoins", plainKeys := false, apart := false }
def LatticeJoinsSaid : Prop := latticeJoinsRow.holds Try.pinned (OpenSpec.ofChange latticeJoinsSpec)

/-- ITS FALSE NEIGHBOUR: 'it returns false'. Refute it at one input. -/
def latticeJoinsWrong : ChangeSpec := { name := "latticeJoins", fn := fun _ => fun
  | [d1, d2] => { results := [.lit (.bool false)], args := [d1, d2] }
  | _ => none }
def LatticeJoinsWrongFalsely : Prop := latticeJoinsRow.holds Try.pinned (OpenSpec.ofChange latticeJoinsWrong)

/-- 'ravelinlaw22.RoadPlays': WHATEVER THE INPUT: true; the input reads as it did. -/
def roadPlaysSpec : ChangeSpec := { name := "roadPlays", fn := fun _ => fun
  | [d1, d2] => { results := [.lit (.bool true)], args := [d1, d2] }
  | _ => none }
def roadPlaysRow : OpenClaim := { program := "ytdknkbpgkkakhaa", sum := "c91926801a38834af1af8f4a263166754e86596d4bfa934150faded32f39b907", func := "ravelin/ravelinlaw22.RoadPlays", spec := "roadPlays", plainKeys := false, apart := false }
def RoadPlaysSaid : Prop := roadPlaysRow.holds Try.pinned (OpenSpec.ofChange roadPlaysSpec)

/-- ITS FALSE NEIGHBOUR: 'it returns false'. Refute it at one input. -/
def roadPlaysWrong : ChangeSpec := { name := "roadPlays", fn := fun _ => fun
  | [d1, d2] => { results := [.lit (.bool false)], args := [d1, d2] }
  | _ => none }
def RoadPlaysWrongFalsely : Prop := roadPlaysRow.holds Try.pinned (OpenSpec.ofChange roadPlaysWrong)

/-- 'ravelinlaw22.RoadFull': WHATEVER THE INPUT: true; the input reads as it did. -/
def roadFullSpec : ChangeSpec := { name := "roadFull", fn := fun _ => fun
  | [d1, d2] => { results := [.lit (.bool true)], args := [d1, d2] }
  | _ => none }
def roadFullRow : OpenClaim := { program := "ytdknkbpgkkakhaa", sum := "c91926801a38834af1af8f4a263166754e86596d4bfa934150faded32f39b907", func := "ravelin/ravelinlaw22.RoadFull", spec := "roadFull", plainKeys := false, apart := false }
def RoadFullSaid : Prop := roadFullRow.holds Try.pinned (OpenSpec.ofChange roadFullSpec)

/-- ITS FALSE NEIGHBOUR: 'it returns false'. Refute it at one input. -/
def roadFullWrong : ChangeSpec := { name := "roadFull", fn := fun _ => fun
  | [d1, d2] => { results := [.lit (.bool false)], args := [d1, d2] }
  | _ => none }
def RoadFullWrongFalsely : Prop := roadFullRow.holds Try.pinned (OpenSpec.ofChange roadFullWrong)

/-- 'ravelinlaw22.RoadOrder': WHATEVER THE INPUT: true; the input reads as it did. -/
def roadOrderSpec : ChangeSpec := { name := "roadOrder", fn := fun _ => fun
  | [d1, d2, d3] => { results := [.lit (.bool true)], args := [d1, d2, d3] }
  | _ => none }
def roadOrderRow : OpenClaim := { program := "ytdknkbpgkkakhaa", sum := "c91926801a38834af1af8f4a263166754e86596d4bfa934150faded32f39b907", func := "ravelin/ravelinlaw22.RoadOrder", spec := "roadOrder", plainKeys := false, apart := false }
def RoadOrderSaid : Prop := roadOrderRow.holds Try.pinned (OpenSpec.ofChange roadOrderSpec)

/-- ITS FALSE NEIGHBOUR: 'it returns false'. Refute it at one input. -/
def roadOrderWrong : ChangeSpec := { name := "roadOrder", fn := fun _ => fun
  | [d1, d2, d3] => { results := [.lit (.bool false)], args := [d1, d2, d3] }
  | _ => none }
def RoadOrderWrongFalsely : Prop := roadOrderRow.holds Try.pinned (OpenSpec.ofChange roadOrderWrong)

/-- 'ravelinlaw22.RoadLattice': WHATEVER THE INPUT: true; the input reads as it did. -/
def roadLatticeSpec : ChangeSpec := { name := "roadLattice", fn := fun _ => fun
  | [d] => { results := [.lit (.bool true)], args := [d] }
  | _ => none }
def roadLatticeRow : OpenClaim := { program := "ytdknkbpgkkakhaa", sum := "c91926801a38834af1af8f4a263166754e86596d4bfa934150faded32f39b907", func := "ravelin/ravelinlaw22.RoadLattice", spec := "roadLattice", plainKeys := false, apart := false }
def RoadLatticeSaid : Prop := roadLatticeRow.holds Try.pinned (OpenSpec.ofChange roadLatticeSpec)

/-- ITS FALSE NEIGHBOUR: 'it returns false'. Refute it at one input. -/
def roadLatticeWrong : ChangeSpec := { name := "roadLattice", fn := fun _ => fun
  | [d] => { results := [.lit (.bool false)], args := [d] }
  | _ => none }
def RoadLatticeWrongFalsely : Prop := roadLatticeRow.holds Try.pinned (OpenSpec.ofChange roadLatticeWrong)

/-- 'ravelinlaw20.IntakePlays': WHATEVER THE INPUT: true; the input reads as it did. -/
def intakePlaysSpec : ChangeSpec := { name := "intakePlays", fn := fun _ => fun
  | [d1, d2, d3, d4, d5] => { results := [.lit (.bool true)], args := [d1, d2, d3, d4, d5] }
  | _ => none }
def intakePlaysRow : OpenClaim := { program := "ytdknkbpgkkakhaa", sum := "c91926801a38834af1af8f4a263166754e86596d4bfa934150faded32f39b907", func := "ravelin/ravelinlaw20.IntakePlays", spec := "intakePlays", inPlace := ["maps.clone"], unfollowed := true, recurses := true, plainKeys := false, apart := false }
def IntakePlaysSaid : Prop := intakePlaysRow.holds Try.pinned (OpenSpec.ofChange intakePlaysSpec)

/-- ITS FALSE NEIGHBOUR: 'it returns false'. Refute it at one input. -/
def intakePlaysWrong : ChangeSpec := { name := "intakePlays", fn := fun _ => fun
  | [d1, d2, d3, d4, d5] => { results := [.lit (.bool false)], args := [d1, d2, d3, d4, d5] }
  | _ => none }
def IntakePlaysWrongFalsely : Prop := intakePlaysRow.holds Try.pinned (OpenSpec.ofChange intakePlaysWrong)

/-- 'ravelinlaw20.IntakeOrders': WHATEVER THE INPUT: true; the input reads as it did. -/
def intakeOrdersSpec : ChangeSpec := { name := "intakeOrders", fn := fun _ => fun
  | [d1, d2] => { results := [.lit (.bool true)], args := [d1, d2] }
  | _ => none }
def intakeOrdersRow : OpenClaim := { program := "ytdknkbpgkkakhaa", sum := "c91926801a38834af1af8f4a263166754e86596d4bfa934150faded32f39b907", func := "ravelin/ravelinlaw20.IntakeOrders", spec := "intakeOrders", inPlace := ["maps.clone"], unfollowed := true, recurses := true, plainKeys := false, apart := false }
def IntakeOrdersSaid : Prop := intakeOrdersRow.holds Try.pinned (OpenSpec.ofChange intakeOrdersSpec)

/-- ITS FALSE NEIGHBOUR: 'it returns false'. Refute it at one input. -/
def intakeOrdersWrong : ChangeSpec := { name := "intakeOrders", fn := fun _ => fun
  | [d1, d2] => { results := [.lit (.bool false)], args := [d1, d2] }
  | _ => none }
def IntakeOrdersWrongFalsely : Prop := intakeOrdersRow.holds Try.pinned (OpenSpec.ofChange intakeOrdersWrong)

/-- 'ravelinlaw20.IntakeReady': WHATEVER THE INPUT: true; the input reads as it did. -/
def intakeReadySpec : ChangeSpec := { name := "intakeReady", fn := fun _ => fun
  | [d1, d2, d3, d4] => { results := [.lit (.bool true)], args := [d1, d2, d3, d4] }
  | _ => none }
def intakeReadyRow : OpenClaim := { program := "ytdknkbpgkkakhaa", sum := "c91926801a38834af1af8f4a263166754e86596d4bfa934150faded32f39b907", func := "ravelin/ravelinlaw20.IntakeReady", spec := "intakeReady", inPlace := ["maps.clone"], unfollowed := true, recurses := true, plainKeys := false, apart := false }
def IntakeReadySaid : Prop := intakeReadyRow.holds Try.pinned (OpenSpec.ofChange intakeReadySpec)

/-- ITS FALSE NEIGHBOUR: 'it returns false'. Refute it at one input. -/
def intakeReadyWrong : ChangeSpec := { name := "intakeReady", fn := fun _ => fun
  | [d1, d2, d3, d4] => { results := [.lit (.bool false)], args := [d1, d2, d3, d4] }
  | _ => none }
def IntakeReadyWrongFalsely : Prop := intakeReadyRow.holds Try.pinned (OpenSpec.ofChange intakeReadyWrong)

/-- 'ravelinlaw20.IntakeHeld': WHATEVER THE INPUT: true; the input reads as it did. -/
def intakeHeldSpec : ChangeSpec := { name := "intakeHeld", fn := fun _ => fun
  | [d] => { results := [.lit (.bool true)], args := [d] }
  | _ => none }
def intakeHeldRow : OpenClaim := { program := "ytdknkbpgkkakhaa", sum := "c91926801a38834af1af8f4a263166754e86596d4bfa934150faded32f39b907", func := "ravelin/ravelinlaw20.IntakeHeld", spec := "intakeHeld", inPlace := ["maps.clone"], unfollowed := true, recurses := true, plainKeys := false, apart := false }
def IntakeHeldSaid : Prop := intakeHeldRow.holds Try.pinned (OpenSpec.ofChange intakeHeldSpec)

/-- ITS FALSE NEIGHBOUR: 'it returns false'. Refute it at one input. -/
def intakeHeldWrong : ChangeSpec := { name := "intakeHeld", fn := fun _ => fun
  | [d] => { results := [.lit (.bool false)], args := [d] }
  | _ => none }
def IntakeHeldWrongFalsely : Prop := intakeHeldRow.holds Try.pinned (OpenSpec.ofChange intakeHeldWrong)

/-- 'ravelinlaw20.IntakeTurns': WHATEVER THE INPUT: true; the input reads as it did. -/
def intakeTurnsSpec : ChangeSpec := { name := "intakeTurns", fn := fun _ => fun
  | [d1, d2] => { results := [.lit (.bool true)], args := [d1, d2] }
  | _ => none }
def intakeTurnsRow : OpenClaim := { program := "ytdknkbpgkkakhaa", sum := "c91926801a38834af1af8f4a263166754e86596d4bfa934150faded32f39b907", func := "ravelin/ravelinlaw20.IntakeTurns", spec := "intakeTurns", inPlace := ["maps.clone"], unfollowed := true, recurses := true, plainKeys := false, apart := false }
def IntakeTurnsSaid : Prop := intakeTurnsRow.holds Try.pinned (OpenSpec.ofChange intakeTurnsSpec)

/-- ITS FALSE NEIGHBOUR: 'it returns false'. Refute it at one input. -/
def intakeTurnsWrong : ChangeSpec := { name := "intakeTurns", fn := fun _ => fun
  | [d1, d2] => { results := [.lit (.bool false)], args := [d1, d2] }
  | _ => none }
def IntakeTurnsWrongFalsely : Prop := intakeTurnsRow.holds Try.pinned (OpenSpec.ofChange intakeTurnsWrong)

/- THE SECOND FORM. 'bulk': how many values and letters a reading holds, each counted each time it is reached (what is shared counts as often as it is met; a slice's spare places count too). A statement '..UptoSaid' is the law's where the arguments, and the package variables that the reading takes, are together of bulk at most 1048576: NARROWER than '..Said'. Prove '..Said' where nothing that the law and all that it calls make is longer than what came in: it says more and counts as full. Else prove '..UptoSaid'. A law counts once. -/
mutual
def uptoBulk {H : Type} : DataW H → Nat
  | .lit (.string bytes) => bytes.length + 1
  | .lit _ => 1
  | .nil => 1
  | .ptr d => uptoBulk d + 1
  | .slice elems spare => uptoBulkAll elems + uptoBulkAll spare + 1
  | .agg parts => uptoBulkAll parts + 1
  | .iface _ d => uptoBulk d + 1
  | .map entries => uptoBulkEntries entries + 1
  | .held _ => 1
def uptoBulkAll {H : Type} : List (DataW H) → Nat
  | [] => 0
  | d :: r => uptoBulk d + uptoBulkAll r
def uptoBulkEntries {H : Type} : List (Lit × DataW H) → Nat
  | [] => 0
  | x :: r => uptoBulkEntry x + uptoBulkEntries r
def uptoBulkEntry {H : Type} : Lit × DataW H → Nat
  | (.string bytes, d) => bytes.length + uptoBulk d + 1
  | (_, d) => uptoBulk d + 1
 end
def uptoSmall : (H : Type) → List (DataW H) → Bool := fun _ ds => decide (uptoBulkAll ds ≤ 1048576)
def OpenSpec.upto (s : _root_.Go.ChangeSpec) : _root_.Go.OpenSpec := { _root_.Go.OpenSpec.ofChange s with cond := some uptoSmall }

/-- 'ravelinlaw19.StreamPlays', WHERE WHAT IT READS IS OF BULK AT MOST 1048576: true; the input reads as it did. -/
def streamPlaysUptoRow : OpenClaim := { program := "ytdknkbpgkkakhaa", sum := "c91926801a38834af1af8f4a263166754e86596d4bfa934150faded32f39b907", func := "ravelin/ravelinlaw19.StreamPlays", spec := "streamPlays", plainKeys := false, apart := false, narrowed := true }
def StreamPlaysUptoSaid : Prop := streamPlaysUptoRow.holds Try.pinned (OpenSpec.upto streamPlaysSpec)

/-- 'ravelinlaw19.StreamTurns', WHERE WHAT IT READS IS OF BULK AT MOST 1048576: true; the input reads as it did. -/
def streamTurnsUptoRow : OpenClaim := { program := "ytdknkbpgkkakhaa", sum := "c91926801a38834af1af8f4a263166754e86596d4bfa934150faded32f39b907", func := "ravelin/ravelinlaw19.StreamTurns", spec := "streamTurns", plainKeys := false, apart := false, narrowed := true }
def StreamTurnsUptoSaid : Prop := streamTurnsUptoRow.holds Try.pinned (OpenSpec.upto streamTurnsSpec)

/-- 'ravelinlaw19.StreamParts', WHERE WHAT IT READS IS OF BULK AT MOST 1048576: true; the input reads as it did. -/
def streamPartsUptoRow : OpenClaim := { program := "ytdknkbpgkkakhaa", sum := "c91926801a38834af1af8f4a263166754e86596d4bfa934150faded32f39b907", func := "ravelin/ravelinlaw19.StreamParts", spec := "streamParts", plainKeys := false, apart := false, narrowed := true }
def StreamPartsUptoSaid : Prop := streamPartsUptoRow.holds Try.pinned (OpenSpec.upto streamPartsSpec)

/-- 'ravelinlaw1.LatticeTells', WHERE WHAT IT READS IS OF BULK AT MOST 1048576: true; the input reads as it did. -/
def latticeTellsUptoRow : OpenClaim := { program := "ytdknkbpgkkakhaa", sum := "c91926801a38834af1af8f4a263166754e86596d4bfa934150faded32f39b907", func := "ravelin/ravelinlaw1.LatticeTells", spec := "latticeTells", plainKeys := false, apart := false, narrowed := true }
def LatticeTellsUptoSaid : Prop := latticeTellsUptoRow.holds Try.pinned (OpenSpec.upto latticeTellsSpec)

/-- 'ravelinlaw1.LatticeOrders', WHERE WHAT IT READS IS OF BULK AT MOST 1048576: true; the input reads as it did. -/
def latticeOrdersUptoRow : OpenClaim := { program := "ytdknkbpgkkakhaa", sum := "c91926801a38834af1af8f4a263166754e86596d4bfa934150faded32f39b907", func := "ravelin/ravelinlaw1.LatticeOrders", spec := "latticeOrders", plainKeys := false, apart := false, narrowed := true }
def LatticeOrdersUptoSaid : Prop := latticeOrdersUptoRow.holds Try.pinned (OpenSpec.upto latticeOrdersSpec)

/-- 'ravelinlaw1.LatticeSpoils', WHERE WHAT IT READS IS OF BULK AT MOST 1048576: true; the input reads as it did. -/
def latticeSpoilsUptoRow : OpenClaim := { program := "ytdknkbpgkkakhaa", sum := "c91926801a38834af1af8f4a263166754e86596d4bfa934150faded32f39b907", func := "ravelin/ravelinlaw1.LatticeSpoils", spec := "latticeSpoils", plainKeys := false, apart := false, narrowed := true }
def LatticeSpoilsUptoSaid : Prop := latticeSpoilsUptoRow.holds Try.pinned (OpenSpec.upto latticeSpoilsSpec)

/-- 'ravelinlaw1.LatticeChains', WHERE WHAT IT READS IS OF BULK AT MOST 1048576: true; the input reads as it did. -/
def latticeChainsUptoRow : OpenClaim := { program := "ytdknkbpgkkakhaa", sum := "c91926801a38834af1af8f4a263166754e86596d4bfa934150faded32f39b907", func := "ravelin/ravelinlaw1.LatticeChains", spec := "latticeChains", plainKeys := false, apart := false, narrowed := true }
def LatticeChainsUptoSaid : Prop := latticeChainsUptoRow.holds Try.pinned (OpenSpec.upto latticeChainsSpec)

/-- 'ravelinlaw1.LatticeSets', WHERE WHAT IT READS IS OF BULK AT MOST 1048576: true; the input reads as it did. -/
def latticeSetsUptoRow : OpenClaim := { program := "ytdknkbpgkkakhaa", sum := "c91926801a38834af1af8f4a263166754e86596d4bfa934150faded32f39b907", func := "ravelin/ravelinlaw1.LatticeSets", spec := "latticeSets", plainKeys := false, apart := false, narrowed := true }
def LatticeSetsUptoSaid : Prop := latticeSetsUptoRow.holds Try.pinned (OpenSpec.upto latticeSetsSpec)

/-- 'ravelinlaw1.LatticeJoins', WHERE WHAT IT READS IS OF BULK AT MOST 1048576: true; the input reads as it did. -/
def latticeJoinsUptoRow : OpenClaim := { program := "ytdknkbpgkkakhaa", sum := "c91926801a38834af1af8f4a263166754e86596d4bfa934150faded32f39b907", func := "ravelin/ravelinlaw1.LatticeJoins", spec := "latticeJoins", plainKeys := false, apart := false, narrowed := true }
def LatticeJoinsUptoSaid : Prop := latticeJoinsUptoRow.holds Try.pinned (OpenSpec.upto latticeJoinsSpec)

/-- 'ravelinlaw22.RoadPlays', WHERE WHAT IT READS IS OF BULK AT MOST 1048576: true; the input reads as it did. -/
def roadPlaysUptoRow : OpenClaim := { program := "ytdknkbpgkkakhaa", sum := "c91926801a38834af1af8f4a263166754e86596d4bfa934150faded32f39b907", func := "ravelin/ravelinlaw22.RoadPlays", spec := "roadPlays", plainKeys := false, apart := false, narrowed := true }
def RoadPlaysUptoSaid : Prop := roadPlaysUptoRow.holds Try.pinned (OpenSpec.upto roadPlaysSpec)

/-- 'ravelinlaw22.RoadFull', WHERE WHAT IT READS IS OF BULK AT MOST 1048576: true; the input reads as it did. -/
def roadFullUptoRow : OpenClaim := { program := "ytdknkbpgkkakhaa", sum := "c91926801a38834af1af8f4a263166754e86596d4bfa934150faded32f39b907", func := "ravelin/ravelinlaw22.RoadFull", spec := "roadFull", plainKeys := false, apart := false, narrowed := true }
def RoadFullUptoSaid : Prop := roadFullUptoRow.holds Try.pinned (OpenSpec.upto roadFullSpec)

/-- 'ravelinlaw22.RoadOrder', WHERE WHAT IT READS IS OF BULK AT MOST 1048576: true; the input reads as it did. -/
def roadOrderUptoRow : OpenClaim := { program := "ytdknkbpgkkakhaa", sum := "c91926801a38834af1af8f4a263166754e86596d4bfa934150faded32f39b907", func := "ravelin/ravelinlaw22.RoadOrder", spec := "roadOrder", plainKeys := false, apart := false, narrowed := true }
def RoadOrderUptoSaid : Prop := roadOrderUptoRow.holds Try.pinned (OpenSpec.upto roadOrderSpec)

/-- 'ravelinlaw22.RoadLattice', WHERE WHAT IT READS IS OF BULK AT MOST 1048576: true; the input reads as it did. -/
def roadLatticeUptoRow : OpenClaim := { program := "ytdknkbpgkkakhaa", sum := "c91926801a38834af1af8f4a263166754e86596d4bfa934150faded32f39b907", func := "ravelin/ravelinlaw22.RoadLattice", spec := "roadLattice", plainKeys := false, apart := false, narrowed := true }
def RoadLatticeUptoSaid : Prop := roadLatticeUptoRow.holds Try.pinned (OpenSpec.upto roadLatticeSpec)

/-- 'ravelinlaw20.IntakePlays', WHERE WHAT IT READS IS OF BULK AT MOST 1048576: true; the input reads as it did. -/
def intakePlaysUptoRow : OpenClaim := { program := "ytdknkbpgkkakhaa", sum := "c91926801a38834af1af8f4a263166754e86596d4bfa934150faded32f39b907", func := "ravelin/ravelinlaw20.IntakePlays", spec := "intakePlays", inPlace := ["maps.clone"], unfollowed := true, recurses := true, plainKeys := false, apart := false, narrowed := true }
def IntakePlaysUptoSaid : Prop := intakePlaysUptoRow.holds Try.pinned (OpenSpec.upto intakePlaysSpec)

/-- 'ravelinlaw20.IntakeOrders', WHERE WHAT IT READS IS OF BULK AT MOST 1048576: true; the input reads as it did. -/
def intakeOrdersUptoRow : OpenClaim := { program := "ytdknkbpgkkakhaa", sum := "c91926801a38834af1af8f4a263166754e86596d4bfa934150faded32f39b907", func := "ravelin/ravelinlaw20.IntakeOrders", spec := "intakeOrders", inPlace := ["maps.clone"], unfollowed := true, recurses := true, plainKeys := false, apart := false, narrowed := true }
def IntakeOrdersUptoSaid : Prop := intakeOrdersUptoRow.holds Try.pinned (OpenSpec.upto intakeOrdersSpec)

/-- 'ravelinlaw20.IntakeReady', WHERE WHAT IT READS IS OF BULK AT MOST 1048576: true; the input reads as it did. -/
def intakeReadyUptoRow : OpenClaim := { program := "ytdknkbpgkkakhaa", sum := "c91926801a38834af1af8f4a263166754e86596d4bfa934150faded32f39b907", func := "ravelin/ravelinlaw20.IntakeReady", spec := "intakeReady", inPlace := ["maps.clone"], unfollowed := true, recurses := true, plainKeys := false, apart := false, narrowed := true }
def IntakeReadyUptoSaid : Prop := intakeReadyUptoRow.holds Try.pinned (OpenSpec.upto intakeReadySpec)

/-- 'ravelinlaw20.IntakeHeld', WHERE WHAT IT READS IS OF BULK AT MOST 1048576: true; the input reads as it did. -/
def intakeHeldUptoRow : OpenClaim := { program := "ytdknkbpgkkakhaa", sum := "c91926801a38834af1af8f4a263166754e86596d4bfa934150faded32f39b907", func := "ravelin/ravelinlaw20.IntakeHeld", spec := "intakeHeld", inPlace := ["maps.clone"], unfollowed := true, recurses := true, plainKeys := false, apart := false, narrowed := true }
def IntakeHeldUptoSaid : Prop := intakeHeldUptoRow.holds Try.pinned (OpenSpec.upto intakeHeldSpec)

/-- 'ravelinlaw20.IntakeTurns', WHERE WHAT IT READS IS OF BULK AT MOST 1048576: true; the input reads as it did. -/
def intakeTurnsUptoRow : OpenClaim := { program := "ytdknkbpgkkakhaa", sum := "c91926801a38834af1af8f4a263166754e86596d4bfa934150faded32f39b907", func := "ravelin/ravelinlaw20.IntakeTurns", spec := "intakeTurns", inPlace := ["maps.clone"], unfollowed := true, recurses := true, plainKeys := false, apart := false, narrowed := true }
def IntakeTurnsUptoSaid : Prop := intakeTurnsUptoRow.holds Try.pinned (OpenSpec.upto intakeTurnsSpec)

end Rows
end Go.Proofs.Ytdknkbpgkkakhaa
