/-
  DERIVED. GIVEN WITH THE SEED: THE CARDS: each row of YteepjgdieciogaaGreatDoorRows.lean that lists a variable, with what it lists TIED to the program's text (the seventh form; the later family's looks); each row that meets fmt, with fmt's text TOLD by the authors' own Lean function (tested against real Go, not proved from fmt's source: count such statements apart). THE CARD IS WHAT COUNTS. Prove the row's statement (the work); the ties are given (YteepjgdieciogaaGreatDoorTie.lean); close each card by the builder's one call (the guide's Derived/Test/ToyasCard.lean, 'card_holds'). Laid BY PROGRAM, IN A SANDBOX (cutbox-door.mjs). By AI agents, Wed Nov 11 2026. No macro, syntax, notation, axiom, sorry.
-/
import Derived.Test.YteepjgdieciogaaGreatDoorRows
import GoSem.ClaimSeven
namespace Go.Proofs.YteepjgdieciogaaGreatDoor
namespace Rows

/-- THE TIED CARD OF 'vulgatelaw19.ViewForks'. -/
def viewForksCard : Claim7 := { stood := { row := viewForksRow, standIns := [], harness := (true, "1e82df882408bdaa8b54c3d34266dad59af380014877c4c0368946841af3ff5c"), looks := false }, kinds := [], alts := [], laidByText := true, laidKinds := [.data, .pinned], laidTests := true, laidLooks := .later }
def ViewForksCardSaid : Prop := Claim7.holds Tryz.pinned (.plain (OpenSpec.ofChange viewForksSpec)) viewForksCard

/-- THE TIED CARD OF 'vulgatelaw19.ViewStates'. -/
def viewStatesCard : Claim7 := { stood := { row := viewStatesRow, standIns := [], harness := (true, "1e82df882408bdaa8b54c3d34266dad59af380014877c4c0368946841af3ff5c"), looks := false }, kinds := [], alts := [], laidByText := true, laidKinds := [.data, .pinned], laidTests := true, laidLooks := .later }
def ViewStatesCardSaid : Prop := Claim7.holds Tryz.pinned (.plain (OpenSpec.ofChange viewStatesSpec)) viewStatesCard

/-- THE TIED CARD OF 'vulgatelaw22.RoleChecks'. -/
def roleChecksCard : Claim7 := { stood := { row := roleChecksRow, standIns := [], harness := (true, "1e82df882408bdaa8b54c3d34266dad59af380014877c4c0368946841af3ff5c"), looks := false }, kinds := [], alts := [], laidByText := true, laidKinds := [.data, .pinned], laidTests := true, laidLooks := .later }
def RoleChecksCardSaid : Prop := Claim7.holds Tryz.pinned (.plain (OpenSpec.ofChange roleChecksSpec)) roleChecksCard

/-- THE TIED CARD OF 'vulgatelaw20.FallParents'. -/
def fallParentsCard : Claim7 := { stood := { row := fallParentsRow, standIns := [], harness := (true, "1e82df882408bdaa8b54c3d34266dad59af380014877c4c0368946841af3ff5c"), looks := false }, kinds := [], alts := [], laidByText := true, laidKinds := [.data, .pinned], laidTests := true, laidLooks := .later }
def FallParentsCardSaid : Prop := Claim7.holds Tryz.pinned (.plain (OpenSpec.ofChange fallParentsSpec)) fallParentsCard

/-- THE TIED CARD OF 'vulgatelaw20.FallGets'. -/
def fallGetsCard : Claim7 := { stood := { row := fallGetsRow, standIns := [], harness := (true, "1e82df882408bdaa8b54c3d34266dad59af380014877c4c0368946841af3ff5c"), looks := false }, kinds := [], alts := [], laidByText := true, laidKinds := [.data, .pinned], laidTests := true, laidLooks := .later }
def FallGetsCardSaid : Prop := Claim7.holds Tryz.pinned (.plain (OpenSpec.ofChange fallGetsSpec)) fallGetsCard

/-- THE SECOND FORM's CARD OF 'vulgatelaw19.ViewForks'. -/
def viewForksUptoCard : Claim7 := { stood := { row := viewForksUptoRow, standIns := [], harness := (true, "1e82df882408bdaa8b54c3d34266dad59af380014877c4c0368946841af3ff5c"), looks := false }, kinds := [], alts := [], laidByText := true, laidKinds := [.data, .pinned], laidTests := true, laidLooks := .later }
def ViewForksUptoCardSaid : Prop := Claim7.holds Tryz.pinned (.plain (OpenSpec.upto viewForksSpec)) viewForksUptoCard

/-- THE SECOND FORM's CARD OF 'vulgatelaw19.ViewStates'. -/
def viewStatesUptoCard : Claim7 := { stood := { row := viewStatesUptoRow, standIns := [], harness := (true, "1e82df882408bdaa8b54c3d34266dad59af380014877c4c0368946841af3ff5c"), looks := false }, kinds := [], alts := [], laidByText := true, laidKinds := [.data, .pinned], laidTests := true, laidLooks := .later }
def ViewStatesUptoCardSaid : Prop := Claim7.holds Tryz.pinned (.plain (OpenSpec.upto viewStatesSpec)) viewStatesUptoCard

/-- THE SECOND FORM's CARD OF 'vulgatelaw22.RoleChecks'. -/
def roleChecksUptoCard : Claim7 := { stood := { row := roleChecksUptoRow, standIns := [], harness := (true, "1e82df882408bdaa8b54c3d34266dad59af380014877c4c0368946841af3ff5c"), looks := false }, kinds := [], alts := [], laidByText := true, laidKinds := [.data, .pinned], laidTests := true, laidLooks := .later }
def RoleChecksUptoCardSaid : Prop := Claim7.holds Tryz.pinned (.plain (OpenSpec.upto roleChecksSpec)) roleChecksUptoCard

/-- THE SECOND FORM's CARD OF 'vulgatelaw20.FallParents'. -/
def fallParentsUptoCard : Claim7 := { stood := { row := fallParentsUptoRow, standIns := [], harness := (true, "1e82df882408bdaa8b54c3d34266dad59af380014877c4c0368946841af3ff5c"), looks := false }, kinds := [], alts := [], laidByText := true, laidKinds := [.data, .pinned], laidTests := true, laidLooks := .later }
def FallParentsUptoCardSaid : Prop := Claim7.holds Tryz.pinned (.plain (OpenSpec.upto fallParentsSpec)) fallParentsUptoCard

/-- THE SECOND FORM's CARD OF 'vulgatelaw20.FallGets'. -/
def fallGetsUptoCard : Claim7 := { stood := { row := fallGetsUptoRow, standIns := [], harness := (true, "1e82df882408bdaa8b54c3d34266dad59af380014877c4c0368946841af3ff5c"), looks := false }, kinds := [], alts := [], laidByText := true, laidKinds := [.data, .pinned], laidTests := true, laidLooks := .later }
def FallGetsUptoCardSaid : Prop := Claim7.holds Tryz.pinned (.plain (OpenSpec.upto fallGetsSpec)) fallGetsUptoCard
end Rows
end Go.Proofs.YteepjgdieciogaaGreatDoor
