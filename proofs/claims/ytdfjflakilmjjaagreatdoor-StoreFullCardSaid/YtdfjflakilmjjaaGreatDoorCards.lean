/-
  DERIVED. GIVEN WITH THE SEED: THE CARDS: each row of YtdfjflakilmjjaaGreatDoorRows.lean that lists a variable, with what it lists TIED to the program's text (the seventh form; the later family's looks); each row that meets fmt, with fmt's text TOLD by the authors' own Lean function (tested against real Go, not proved from fmt's source: count such statements apart). THE CARD IS WHAT COUNTS. Prove the row's statement (the work); the ties are given (YtdfjflakilmjjaaGreatDoorTie.lean); close each card by the builder's one call (the guide's Derived/Test/ToyasCard.lean, 'card_holds'). Laid BY PROGRAM, IN A SANDBOX (cutbox-door.mjs). By AI agents, Wed Nov 11 2026. No macro, syntax, notation, axiom, sorry.
-/
import Derived.Test.YtdfjflakilmjjaaGreatDoorRows
import GoSem.ClaimSeven
namespace Go.Proofs.YtdfjflakilmjjaaGreatDoor
namespace Rows

/-- THE TIED CARD OF 'vulgatelaw14.StoreChecks'. -/
def storeChecksCard : Claim7 := { stood := { row := storeChecksRow, standIns := [], harness := (true, "3952f454dd4150973be5a4ae71002f4a35adae4783287f255b10b49264eec073"), looks := true }, kinds := [], alts := [], laidByText := true, laidKinds := [.data, .pinned], laidTests := true, laidLooks := .later }
def StoreChecksCardSaid : Prop := Claim7.holds Tryz.pinned (.plain (OpenSpec.ofChange storeChecksSpec)) storeChecksCard

/-- THE TIED CARD OF 'vulgatelaw17.BufferPlays'. -/
def bufferPlaysCard : Claim7 := { stood := { row := bufferPlaysRow, standIns := [], harness := (true, "3952f454dd4150973be5a4ae71002f4a35adae4783287f255b10b49264eec073"), looks := true }, kinds := [], alts := [], laidByText := true, laidKinds := [.data, .pinned], laidTests := true, laidLooks := .later }
def BufferPlaysCardSaid : Prop := Claim7.holds Tryz.pinned (.plain (OpenSpec.ofChange bufferPlaysSpec)) bufferPlaysCard

/-- THE TIED CARD OF 'vulgatelaw17.BufferCopies'. -/
def bufferCopiesCard : Claim7 := { stood := { row := bufferCopiesRow, standIns := [], harness := (true, "3952f454dd4150973be5a4ae71002f4a35adae4783287f255b10b49264eec073"), looks := true }, kinds := [], alts := [], laidByText := true, laidKinds := [.data, .pinned], laidTests := true, laidLooks := .later }
def BufferCopiesCardSaid : Prop := Claim7.holds Tryz.pinned (.plain (OpenSpec.ofChange bufferCopiesSpec)) bufferCopiesCard

/-- THE TIED CARD OF 'vulgatelaw17.BufferNil'. -/
def bufferNilCard : Claim7 := { stood := { row := bufferNilRow, standIns := [], harness := (true, "3952f454dd4150973be5a4ae71002f4a35adae4783287f255b10b49264eec073"), looks := true }, kinds := [], alts := [], laidByText := true, laidKinds := [.data, .pinned], laidTests := true, laidLooks := .later }
def BufferNilCardSaid : Prop := Claim7.holds Tryz.pinned (.plain (OpenSpec.ofChange bufferNilSpec)) bufferNilCard

/-- THE TIED CARD OF 'vulgatelaw16.IntentPlays'. -/
def intentPlaysCard : Claim7 := { stood := { row := intentPlaysRow, standIns := [], harness := (true, "3952f454dd4150973be5a4ae71002f4a35adae4783287f255b10b49264eec073"), looks := true }, kinds := [], alts := [], laidByText := true, laidKinds := [.data, .pinned], laidTests := true, laidLooks := .later }
def IntentPlaysCardSaid : Prop := Claim7.holds Tryz.pinned (.plain (OpenSpec.ofChange intentPlaysSpec)) intentPlaysCard

/-- THE TIED CARD OF 'vulgatelaw14.StoreFull'. -/
def storeFullCard : Claim7 := { stood := { row := storeFullRow, standIns := [], harness := (true, "3952f454dd4150973be5a4ae71002f4a35adae4783287f255b10b49264eec073"), looks := true }, kinds := [], alts := [], laidByText := true, laidKinds := [.data, .data, .data, .data, .sentinel, .sentinel, .pinned], laidTests := true, laidLooks := .later }
def StoreFullCardSaid : Prop := Claim7.holds Tryz.pinned (.plain (OpenSpec.ofChange storeFullSpec)) storeFullCard

/-- THE SECOND FORM's CARD OF 'vulgatelaw14.StoreChecks'. -/
def storeChecksUptoCard : Claim7 := { stood := { row := storeChecksUptoRow, standIns := [], harness := (true, "3952f454dd4150973be5a4ae71002f4a35adae4783287f255b10b49264eec073"), looks := true }, kinds := [], alts := [], laidByText := true, laidKinds := [.data, .pinned], laidTests := true, laidLooks := .later }
def StoreChecksUptoCardSaid : Prop := Claim7.holds Tryz.pinned (.plain (OpenSpec.upto storeChecksSpec)) storeChecksUptoCard

/-- THE SECOND FORM's CARD OF 'vulgatelaw17.BufferPlays'. -/
def bufferPlaysUptoCard : Claim7 := { stood := { row := bufferPlaysUptoRow, standIns := [], harness := (true, "3952f454dd4150973be5a4ae71002f4a35adae4783287f255b10b49264eec073"), looks := true }, kinds := [], alts := [], laidByText := true, laidKinds := [.data, .pinned], laidTests := true, laidLooks := .later }
def BufferPlaysUptoCardSaid : Prop := Claim7.holds Tryz.pinned (.plain (OpenSpec.upto bufferPlaysSpec)) bufferPlaysUptoCard

/-- THE SECOND FORM's CARD OF 'vulgatelaw17.BufferCopies'. -/
def bufferCopiesUptoCard : Claim7 := { stood := { row := bufferCopiesUptoRow, standIns := [], harness := (true, "3952f454dd4150973be5a4ae71002f4a35adae4783287f255b10b49264eec073"), looks := true }, kinds := [], alts := [], laidByText := true, laidKinds := [.data, .pinned], laidTests := true, laidLooks := .later }
def BufferCopiesUptoCardSaid : Prop := Claim7.holds Tryz.pinned (.plain (OpenSpec.upto bufferCopiesSpec)) bufferCopiesUptoCard

/-- THE SECOND FORM's CARD OF 'vulgatelaw17.BufferNil'. -/
def bufferNilUptoCard : Claim7 := { stood := { row := bufferNilUptoRow, standIns := [], harness := (true, "3952f454dd4150973be5a4ae71002f4a35adae4783287f255b10b49264eec073"), looks := true }, kinds := [], alts := [], laidByText := true, laidKinds := [.data, .pinned], laidTests := true, laidLooks := .later }
def BufferNilUptoCardSaid : Prop := Claim7.holds Tryz.pinned (.plain (OpenSpec.upto bufferNilSpec)) bufferNilUptoCard

/-- THE SECOND FORM's CARD OF 'vulgatelaw16.IntentPlays'. -/
def intentPlaysUptoCard : Claim7 := { stood := { row := intentPlaysUptoRow, standIns := [], harness := (true, "3952f454dd4150973be5a4ae71002f4a35adae4783287f255b10b49264eec073"), looks := true }, kinds := [], alts := [], laidByText := true, laidKinds := [.data, .pinned], laidTests := true, laidLooks := .later }
def IntentPlaysUptoCardSaid : Prop := Claim7.holds Tryz.pinned (.plain (OpenSpec.upto intentPlaysSpec)) intentPlaysUptoCard

/-- THE SECOND FORM's CARD OF 'vulgatelaw14.StoreFull'. -/
def storeFullUptoCard : Claim7 := { stood := { row := storeFullUptoRow, standIns := [], harness := (true, "3952f454dd4150973be5a4ae71002f4a35adae4783287f255b10b49264eec073"), looks := true }, kinds := [], alts := [], laidByText := true, laidKinds := [.data, .data, .data, .data, .sentinel, .sentinel, .pinned], laidTests := true, laidLooks := .later }
def StoreFullUptoCardSaid : Prop := Claim7.holds Tryz.pinned (.plain (OpenSpec.upto storeFullSpec)) storeFullUptoCard
end Rows
end Go.Proofs.YtdfjflakilmjjaaGreatDoor
