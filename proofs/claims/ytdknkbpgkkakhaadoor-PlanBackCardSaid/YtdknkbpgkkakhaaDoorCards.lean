/-
  DERIVED. GIVEN WITH THE SEED: THE CARDS: each row of YtdknkbpgkkakhaaDoorRows.lean that lists a variable, with what it lists TIED to the program's text (the seventh form; the later family's looks); each row that meets fmt, with fmt's text TOLD by the authors' own Lean function (tested against real Go, not proved from fmt's source: count such statements apart). THE CARD IS WHAT COUNTS. Prove the row's statement (the work); the ties are given (YtdknkbpgkkakhaaDoorTie.lean); close each card by the builder's one call (the guide's Derived/Test/ToyasCard.lean, 'card_holds'). Laid BY PROGRAM, IN A SANDBOX (cutbox-door.mjs). By AI agents, Wed Nov 11 2026. No macro, syntax, notation, axiom, sorry.
-/
import Derived.Test.YtdknkbpgkkakhaaDoorRows
import GoSem.ClaimSeven
namespace Go.Proofs.YtdknkbpgkkakhaaDoor
namespace Rows

/-- THE TIED CARD OF 'ravelinlaw2.PlanTells'. -/
def planTellsCard : Claim7 := { stood := { row := planTellsRow, standIns := [], harness := (true, "75c30193e4951df6c052e2b1ebb4608140e2146cbf3120aa25f3411697226fe5"), looks := false }, kinds := [], alts := [], laidByText := true, laidKinds := [.data, .pinned], laidTests := true, laidLooks := .later }
def PlanTellsCardSaid : Prop := Claim7.holds Tryd.pinned (.plain (OpenSpec.ofChange planTellsSpec)) planTellsCard

/-- THE TIED CARD OF 'ravelinlaw2.PlanBack'. -/
def planBackCard : Claim7 := { stood := { row := planBackRow, standIns := [], harness := (true, "75c30193e4951df6c052e2b1ebb4608140e2146cbf3120aa25f3411697226fe5"), looks := false }, kinds := [], alts := [], laidByText := true, laidKinds := [.data, .pinned], laidTests := true, laidLooks := .later }
def PlanBackCardSaid : Prop := Claim7.holds Tryd.pinned (.plain (OpenSpec.ofChange planBackSpec)) planBackCard

/-- THE TIED CARD OF 'ravelinlaw2.PlanSpoilt'. -/
def planSpoiltCard : Claim7 := { stood := { row := planSpoiltRow, standIns := [], harness := (true, "75c30193e4951df6c052e2b1ebb4608140e2146cbf3120aa25f3411697226fe5"), looks := false }, kinds := [], alts := [], laidByText := true, laidKinds := [.data, .pinned], laidTests := true, laidLooks := .later }
def PlanSpoiltCardSaid : Prop := Claim7.holds Tryd.pinned (.plain (OpenSpec.ofChange planSpoiltSpec)) planSpoiltCard

/-- THE TIED CARD OF 'ravelinlaw2.PlanChains'. -/
def planChainsCard : Claim7 := { stood := { row := planChainsRow, standIns := [], harness := (true, "75c30193e4951df6c052e2b1ebb4608140e2146cbf3120aa25f3411697226fe5"), looks := false }, kinds := [], alts := [], laidByText := true, laidKinds := [.data, .pinned], laidTests := true, laidLooks := .later }
def PlanChainsCardSaid : Prop := Claim7.holds Tryd.pinned (.plain (OpenSpec.ofChange planChainsSpec)) planChainsCard

/-- THE SECOND FORM's CARD OF 'ravelinlaw2.PlanTells'. -/
def planTellsUptoCard : Claim7 := { stood := { row := planTellsUptoRow, standIns := [], harness := (true, "75c30193e4951df6c052e2b1ebb4608140e2146cbf3120aa25f3411697226fe5"), looks := false }, kinds := [], alts := [], laidByText := true, laidKinds := [.data, .pinned], laidTests := true, laidLooks := .later }
def PlanTellsUptoCardSaid : Prop := Claim7.holds Tryd.pinned (.plain (OpenSpec.upto planTellsSpec)) planTellsUptoCard

/-- THE SECOND FORM's CARD OF 'ravelinlaw2.PlanBack'. -/
def planBackUptoCard : Claim7 := { stood := { row := planBackUptoRow, standIns := [], harness := (true, "75c30193e4951df6c052e2b1ebb4608140e2146cbf3120aa25f3411697226fe5"), looks := false }, kinds := [], alts := [], laidByText := true, laidKinds := [.data, .pinned], laidTests := true, laidLooks := .later }
def PlanBackUptoCardSaid : Prop := Claim7.holds Tryd.pinned (.plain (OpenSpec.upto planBackSpec)) planBackUptoCard

/-- THE SECOND FORM's CARD OF 'ravelinlaw2.PlanSpoilt'. -/
def planSpoiltUptoCard : Claim7 := { stood := { row := planSpoiltUptoRow, standIns := [], harness := (true, "75c30193e4951df6c052e2b1ebb4608140e2146cbf3120aa25f3411697226fe5"), looks := false }, kinds := [], alts := [], laidByText := true, laidKinds := [.data, .pinned], laidTests := true, laidLooks := .later }
def PlanSpoiltUptoCardSaid : Prop := Claim7.holds Tryd.pinned (.plain (OpenSpec.upto planSpoiltSpec)) planSpoiltUptoCard

/-- THE SECOND FORM's CARD OF 'ravelinlaw2.PlanChains'. -/
def planChainsUptoCard : Claim7 := { stood := { row := planChainsUptoRow, standIns := [], harness := (true, "75c30193e4951df6c052e2b1ebb4608140e2146cbf3120aa25f3411697226fe5"), looks := false }, kinds := [], alts := [], laidByText := true, laidKinds := [.data, .pinned], laidTests := true, laidLooks := .later }
def PlanChainsUptoCardSaid : Prop := Claim7.holds Tryd.pinned (.plain (OpenSpec.upto planChainsSpec)) planChainsUptoCard
end Rows
end Go.Proofs.YtdknkbpgkkakhaaDoor
