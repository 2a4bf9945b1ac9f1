/-
  DERIVED. GIVEN WITH THE SEED: THE CARDS: each row of YtfmphfidloobkaaGreatDoorRows.lean that lists a variable, with what it lists TIED to the program's text (the seventh form; the later family's looks); each row that meets fmt, with fmt's text TOLD by the authors' own Lean function (tested against real Go, not proved from fmt's source: count such statements apart). THE CARD IS WHAT COUNTS. Prove the row's statement (the work); the ties are given (YtfmphfidloobkaaGreatDoorTie.lean); close each card by the builder's one call (the guide's Derived/Test/ToyasCard.lean, 'card_holds'). Laid BY PROGRAM, IN A SANDBOX (cutbox-door.mjs). By AI agents, Wed Nov 11 2026. No macro, syntax, notation, axiom, sorry.
-/
import Derived.Test.YtfmphfidloobkaaGreatDoorRows
import GoSem.ClaimSeven
namespace Go.Proofs.YtfmphfidloobkaaGreatDoor
namespace Rows

/-- THE TIED CARD OF 'vulgatelaw14.StoreChecks'. -/
def storeChecksCard : Claim7 := { stood := { row := storeChecksRow, standIns := [], harness := (true, "c2a409f9d41a4c93215d9af37f27dc0c612080124747fd1a6844a3e3feca12b6"), looks := true }, kinds := [], alts := [], laidByText := true, laidKinds := [.data, .pinned], laidTests := true, laidLooks := .later }
def StoreChecksCardSaid : Prop := Claim7.holds Tryz.pinned (.plain (OpenSpec.ofChange storeChecksSpec)) storeChecksCard

/-- THE TIED CARD OF 'vulgatelaw19.ViewForks'. -/
def viewForksCard : Claim7 := { stood := { row := viewForksRow, standIns := [], harness := (true, "c2a409f9d41a4c93215d9af37f27dc0c612080124747fd1a6844a3e3feca12b6"), looks := true }, kinds := [], alts := [], laidByText := true, laidKinds := [.data, .pinned], laidTests := true, laidLooks := .later }
def ViewForksCardSaid : Prop := Claim7.holds Tryz.pinned (.plain (OpenSpec.ofChange viewForksSpec)) viewForksCard

/-- THE TIED CARD OF 'vulgatelaw19.ViewStates'. -/
def viewStatesCard : Claim7 := { stood := { row := viewStatesRow, standIns := [], harness := (true, "c2a409f9d41a4c93215d9af37f27dc0c612080124747fd1a6844a3e3feca12b6"), looks := true }, kinds := [], alts := [], laidByText := true, laidKinds := [.data, .pinned], laidTests := true, laidLooks := .later }
def ViewStatesCardSaid : Prop := Claim7.holds Tryz.pinned (.plain (OpenSpec.ofChange viewStatesSpec)) viewStatesCard

/-- THE TIED CARD OF 'vulgatelaw17.BufferPlays'. -/
def bufferPlaysCard : Claim7 := { stood := { row := bufferPlaysRow, standIns := [], harness := (true, "c2a409f9d41a4c93215d9af37f27dc0c612080124747fd1a6844a3e3feca12b6"), looks := true }, kinds := [], alts := [], laidByText := true, laidKinds := [.data, .pinned], laidTests := true, laidLooks := .later }
def BufferPlaysCardSaid : Prop := Claim7.holds Tryz.pinned (.plain (OpenSpec.ofChange bufferPlaysSpec)) bufferPlaysCard

/-- THE TIED CARD OF 'vulgatelaw17.BufferCopies'. -/
def bufferCopiesCard : Claim7 := { stood := { row := bufferCopiesRow, standIns := [], harness := (true, "c2a409f9d41a4c93215d9af37f27dc0c612080124747fd1a6844a3e3feca12b6"), looks := true }, kinds := [], alts := [], laidByText := true, laidKinds := [.data, .pinned], laidTests := true, laidLooks := .later }
def BufferCopiesCardSaid : Prop := Claim7.holds Tryz.pinned (.plain (OpenSpec.ofChange bufferCopiesSpec)) bufferCopiesCard

/-- THE TIED CARD OF 'vulgatelaw16.IntentPlays'. -/
def intentPlaysCard : Claim7 := { stood := { row := intentPlaysRow, standIns := [], harness := (true, "c2a409f9d41a4c93215d9af37f27dc0c612080124747fd1a6844a3e3feca12b6"), looks := true }, kinds := [], alts := [], laidByText := true, laidKinds := [.data, .pinned], laidTests := true, laidLooks := .later }
def IntentPlaysCardSaid : Prop := Claim7.holds Tryz.pinned (.plain (OpenSpec.ofChange intentPlaysSpec)) intentPlaysCard

/-- THE SECOND FORM's CARD OF 'vulgatelaw14.StoreChecks'. -/
def storeChecksUptoCard : Claim7 := { stood := { row := storeChecksUptoRow, standIns := [], harness := (true, "c2a409f9d41a4c93215d9af37f27dc0c612080124747fd1a6844a3e3feca12b6"), looks := true }, kinds := [], alts := [], laidByText := true, laidKinds := [.data, .pinned], laidTests := true, laidLooks := .later }
def StoreChecksUptoCardSaid : Prop := Claim7.holds Tryz.pinned (.plain (OpenSpec.upto storeChecksSpec)) storeChecksUptoCard

/-- THE SECOND FORM's CARD OF 'vulgatelaw19.ViewForks'. -/
def viewForksUptoCard : Claim7 := { stood := { row := viewForksUptoRow, standIns := [], harness := (true, "c2a409f9d41a4c93215d9af37f27dc0c612080124747fd1a6844a3e3feca12b6"), looks := true }, kinds := [], alts := [], laidByText := true, laidKinds := [.data, .pinned], laidTests := true, laidLooks := .later }
def ViewForksUptoCardSaid : Prop := Claim7.holds Tryz.pinned (.plain (OpenSpec.upto viewForksSpec)) viewForksUptoCard

/-- THE SECOND FORM's CARD OF 'vulgatelaw19.ViewStates'. -/
def viewStatesUptoCard : Claim7 := { stood := { row := viewStatesUptoRow, standIns := [], harness := (true, "c2a409f9d41a4c93215d9af37f27dc0c612080124747fd1a6844a3e3feca12b6"), looks := true }, kinds := [], alts := [], laidByText := true, laidKinds := [.data, .pinned], laidTests := true, laidLooks := .later }
def ViewStatesUptoCardSaid : Prop := Claim7.holds Tryz.pinned (.plain (OpenSpec.upto viewStatesSpec)) viewStatesUptoCard

/-- THE SECOND FORM's CARD OF 'vulgatelaw17.BufferPlays'. -/
def bufferPlaysUptoCard : Claim7 := { stood := { row := bufferPlaysUptoRow, standIns := [], harness := (true, "c2a409f9d41a4c93215d9af37f27dc0c612080124747fd1a6844a3e3feca12b6"), looks := true }, kinds := [], alts := [], laidByText := true, laidKinds := [.data, .pinned], laidTests := true, laidLooks := .later }
def BufferPlaysUptoCardSaid : Prop := Claim7.holds Tryz.pinned (.plain (OpenSpec.upto bufferPlaysSpec)) bufferPlaysUptoCard

/-- THE SECOND FORM's CARD OF 'vulgatelaw17.BufferCopies'. -/
def bufferCopiesUptoCard : Claim7 := { stood := { row := bufferCopiesUptoRow, standIns := [], harness := (true, "c2a409f9d41a4c93215d9af37f27dc0c612080124747fd1a6844a3e3feca12b6"), looks := true }, kinds := [], alts := [], laidByText := true, laidKinds := [.data, .pinned], laidTests := true, laidLooks := .later }
def BufferCopiesUptoCardSaid : Prop := Claim7.holds Tryz.pinned (.plain (OpenSpec.upto bufferCopiesSpec)) bufferCopiesUptoCard

/-- THE SECOND FORM's CARD OF 'vulgatelaw16.IntentPlays'. -/
def intentPlaysUptoCard : Claim7 := { stood := { row := intentPlaysUptoRow, standIns := [], harness := (true, "c2a409f9d41a4c93215d9af37f27dc0c612080124747fd1a6844a3e3feca12b6"), looks := true }, kinds := [], alts := [], laidByText := true, laidKinds := [.data, .pinned], laidTests := true, laidLooks := .later }
def IntentPlaysUptoCardSaid : Prop := Claim7.holds Tryz.pinned (.plain (OpenSpec.upto intentPlaysSpec)) intentPlaysUptoCard
end Rows
end Go.Proofs.YtfmphfidloobkaaGreatDoor
