/-
  DERIVED. GIVEN WITH THE SEED: THE CARDS: each row of YtemnojlcgllcjaaGreatDoorRows.lean that lists a variable, with what it lists TIED to the program's text (the seventh form; the later family's looks); each row that meets fmt, with fmt's text TOLD by the authors' own Lean function (tested against real Go, not proved from fmt's source: count such statements apart). THE CARD IS WHAT COUNTS. Prove the row's statement (the work); the ties are given (YtemnojlcgllcjaaGreatDoorTie.lean); close each card by the builder's one call (the guide's Derived/Test/ToyasCard.lean, 'card_holds'). Laid BY PROGRAM, IN A SANDBOX (cutbox-door.mjs). By AI agents, Wed Nov 11 2026. No macro, syntax, notation, axiom, sorry.
-/
import Derived.Test.YtemnojlcgllcjaaGreatDoorRows
import GoSem.ClaimSeven
namespace Go.Proofs.YtemnojlcgllcjaaGreatDoor
namespace Rows

/-- THE TIED CARD OF 'vulgatelaw14.StoreChecks'. -/
def storeChecksCard : Claim7 := { stood := { row := storeChecksRow, standIns := [], harness := (true, "c5b8202c010702474045db7721548ee811c5bbb491ab49ba6e39c567caa2ded5"), looks := true }, kinds := [], alts := [], laidByText := true, laidKinds := [.data, .pinned], laidTests := true, laidLooks := .later }
def StoreChecksCardSaid : Prop := Claim7.holds Tryz.pinned (.plain (OpenSpec.ofChange storeChecksSpec)) storeChecksCard

/-- THE TIED CARD OF 'vulgatelaw17.BufferPlays'. -/
def bufferPlaysCard : Claim7 := { stood := { row := bufferPlaysRow, standIns := [], harness := (true, "c5b8202c010702474045db7721548ee811c5bbb491ab49ba6e39c567caa2ded5"), looks := true }, kinds := [], alts := [], laidByText := true, laidKinds := [.data, .pinned], laidTests := true, laidLooks := .later }
def BufferPlaysCardSaid : Prop := Claim7.holds Tryz.pinned (.plain (OpenSpec.ofChange bufferPlaysSpec)) bufferPlaysCard

/-- THE TIED CARD OF 'vulgatelaw17.BufferCopies'. -/
def bufferCopiesCard : Claim7 := { stood := { row := bufferCopiesRow, standIns := [], harness := (true, "c5b8202c010702474045db7721548ee811c5bbb491ab49ba6e39c567caa2ded5"), looks := true }, kinds := [], alts := [], laidByText := true, laidKinds := [.data, .pinned], laidTests := true, laidLooks := .later }
def BufferCopiesCardSaid : Prop := Claim7.holds Tryz.pinned (.plain (OpenSpec.ofChange bufferCopiesSpec)) bufferCopiesCard

/-- THE TIED CARD OF 'vulgatelaw17.BufferNil'. -/
def bufferNilCard : Claim7 := { stood := { row := bufferNilRow, standIns := [], harness := (true, "c5b8202c010702474045db7721548ee811c5bbb491ab49ba6e39c567caa2ded5"), looks := true }, kinds := [], alts := [], laidByText := true, laidKinds := [.data, .pinned], laidTests := true, laidLooks := .later }
def BufferNilCardSaid : Prop := Claim7.holds Tryz.pinned (.plain (OpenSpec.ofChange bufferNilSpec)) bufferNilCard

/-- THE TIED CARD OF 'vulgatelaw06.KeyMakes'. -/
def keyMakesCard : Claim7 := { stood := { row := keyMakesRow, standIns := [], harness := (true, "c5b8202c010702474045db7721548ee811c5bbb491ab49ba6e39c567caa2ded5"), looks := true }, kinds := [], alts := [], laidByText := true, laidKinds := [.data, .data, .data, .data, .sentinel, .sentinel, .pinned], laidTests := true, laidLooks := .later }
def KeyMakesCardSaid : Prop := Claim7.holds Tryz.pinned (.plain (OpenSpec.ofChange keyMakesSpec)) keyMakesCard

/-- THE TIED CARD OF 'vulgatelaw06.KeyOrder'. -/
def keyOrderCard : Claim7 := { stood := { row := keyOrderRow, standIns := [], harness := (true, "c5b8202c010702474045db7721548ee811c5bbb491ab49ba6e39c567caa2ded5"), looks := true }, kinds := [], alts := [], laidByText := true, laidKinds := [.data, .data, .data, .data, .sentinel, .sentinel, .pinned], laidTests := true, laidLooks := .later }
def KeyOrderCardSaid : Prop := Claim7.holds Tryz.pinned (.plain (OpenSpec.ofChange keyOrderSpec)) keyOrderCard

/-- THE TIED CARD OF 'vulgatelaw06.KeyPrefixes'. -/
def keyPrefixesCard : Claim7 := { stood := { row := keyPrefixesRow, standIns := [], harness := (true, "c5b8202c010702474045db7721548ee811c5bbb491ab49ba6e39c567caa2ded5"), looks := true }, kinds := [], alts := [], laidByText := true, laidKinds := [.data, .data, .data, .data, .sentinel, .sentinel, .pinned], laidTests := true, laidLooks := .later }
def KeyPrefixesCardSaid : Prop := Claim7.holds Tryz.pinned (.plain (OpenSpec.ofChange keyPrefixesSpec)) keyPrefixesCard

/-- THE TIED CARD OF 'vulgatelaw06.KeyBytes'. -/
def keyBytesCard : Claim7 := { stood := { row := keyBytesRow, standIns := [], harness := (true, "c5b8202c010702474045db7721548ee811c5bbb491ab49ba6e39c567caa2ded5"), looks := true }, kinds := [], alts := [], laidByText := true, laidKinds := [.data, .data, .data, .data, .sentinel, .sentinel, .pinned], laidTests := true, laidLooks := .later }
def KeyBytesCardSaid : Prop := Claim7.holds Tryz.pinned (.plain (OpenSpec.ofChange keyBytesSpec)) keyBytesCard

/-- THE TIED CARD OF 'vulgatelaw16.IntentPlays'. -/
def intentPlaysCard : Claim7 := { stood := { row := intentPlaysRow, standIns := [], harness := (true, "c5b8202c010702474045db7721548ee811c5bbb491ab49ba6e39c567caa2ded5"), looks := true }, kinds := [], alts := [], laidByText := true, laidKinds := [.data, .pinned], laidTests := true, laidLooks := .later }
def IntentPlaysCardSaid : Prop := Claim7.holds Tryz.pinned (.plain (OpenSpec.ofChange intentPlaysSpec)) intentPlaysCard

/-- THE TIED CARD OF 'vulgatelaw14.StoreFull'. -/
def storeFullCard : Claim7 := { stood := { row := storeFullRow, standIns := [], harness := (true, "c5b8202c010702474045db7721548ee811c5bbb491ab49ba6e39c567caa2ded5"), looks := true }, kinds := [], alts := [], laidByText := true, laidKinds := [.data, .data, .data, .data, .sentinel, .sentinel, .pinned], laidTests := true, laidLooks := .later }
def StoreFullCardSaid : Prop := Claim7.holds Tryz.pinned (.plain (OpenSpec.ofChange storeFullSpec)) storeFullCard

/-- THE SECOND FORM's CARD OF 'vulgatelaw14.StoreChecks'. -/
def storeChecksUptoCard : Claim7 := { stood := { row := storeChecksUptoRow, standIns := [], harness := (true, "c5b8202c010702474045db7721548ee811c5bbb491ab49ba6e39c567caa2ded5"), looks := true }, kinds := [], alts := [], laidByText := true, laidKinds := [.data, .pinned], laidTests := true, laidLooks := .later }
def StoreChecksUptoCardSaid : Prop := Claim7.holds Tryz.pinned (.plain (OpenSpec.upto storeChecksSpec)) storeChecksUptoCard

/-- THE SECOND FORM's CARD OF 'vulgatelaw17.BufferPlays'. -/
def bufferPlaysUptoCard : Claim7 := { stood := { row := bufferPlaysUptoRow, standIns := [], harness := (true, "c5b8202c010702474045db7721548ee811c5bbb491ab49ba6e39c567caa2ded5"), looks := true }, kinds := [], alts := [], laidByText := true, laidKinds := [.data, .pinned], laidTests := true, laidLooks := .later }
def BufferPlaysUptoCardSaid : Prop := Claim7.holds Tryz.pinned (.plain (OpenSpec.upto bufferPlaysSpec)) bufferPlaysUptoCard

/-- THE SECOND FORM's CARD OF 'vulgatelaw17.BufferCopies'. -/
def bufferCopiesUptoCard : Claim7 := { stood := { row := bufferCopiesUptoRow, standIns := [], harness := (true, "c5b8202c010702474045db7721548ee811c5bbb491ab49ba6e39c567caa2ded5"), looks := true }, kinds := [], alts := [], laidByText := true, laidKinds := [.data, .pinned], laidTests := true, laidLooks := .later }
def BufferCopiesUptoCardSaid : Prop := Claim7.holds Tryz.pinned (.plain (OpenSpec.upto bufferCopiesSpec)) bufferCopiesUptoCard

/-- THE SECOND FORM's CARD OF 'vulgatelaw17.BufferNil'. -/
def bufferNilUptoCard : Claim7 := { stood := { row := bufferNilUptoRow, standIns := [], harness := (true, "c5b8202c010702474045db7721548ee811c5bbb491ab49ba6e39c567caa2ded5"), looks := true }, kinds := [], alts := [], laidByText := true, laidKinds := [.data, .pinned], laidTests := true, laidLooks := .later }
def BufferNilUptoCardSaid : Prop := Claim7.holds Tryz.pinned (.plain (OpenSpec.upto bufferNilSpec)) bufferNilUptoCard

/-- THE SECOND FORM's CARD OF 'vulgatelaw06.KeyMakes'. -/
def keyMakesUptoCard : Claim7 := { stood := { row := keyMakesUptoRow, standIns := [], harness := (true, "c5b8202c010702474045db7721548ee811c5bbb491ab49ba6e39c567caa2ded5"), looks := true }, kinds := [], alts := [], laidByText := true, laidKinds := [.data, .data, .data, .data, .sentinel, .sentinel, .pinned], laidTests := true, laidLooks := .later }
def KeyMakesUptoCardSaid : Prop := Claim7.holds Tryz.pinned (.plain (OpenSpec.upto keyMakesSpec)) keyMakesUptoCard

/-- THE SECOND FORM's CARD OF 'vulgatelaw06.KeyOrder'. -/
def keyOrderUptoCard : Claim7 := { stood := { row := keyOrderUptoRow, standIns := [], harness := (true, "c5b8202c010702474045db7721548ee811c5bbb491ab49ba6e39c567caa2ded5"), looks := true }, kinds := [], alts := [], laidByText := true, laidKinds := [.data, .data, .data, .data, .sentinel, .sentinel, .pinned], laidTests := true, laidLooks := .later }
def KeyOrderUptoCardSaid : Prop := Claim7.holds Tryz.pinned (.plain (OpenSpec.upto keyOrderSpec)) keyOrderUptoCard

/-- THE SECOND FORM's CARD OF 'vulgatelaw06.KeyPrefixes'. -/
def keyPrefixesUptoCard : Claim7 := { stood := { row := keyPrefixesUptoRow, standIns := [], harness := (true, "c5b8202c010702474045db7721548ee811c5bbb491ab49ba6e39c567caa2ded5"), looks := true }, kinds := [], alts := [], laidByText := true, laidKinds := [.data, .data, .data, .data, .sentinel, .sentinel, .pinned], laidTests := true, laidLooks := .later }
def KeyPrefixesUptoCardSaid : Prop := Claim7.holds Tryz.pinned (.plain (OpenSpec.upto keyPrefixesSpec)) keyPrefixesUptoCard

/-- THE SECOND FORM's CARD OF 'vulgatelaw06.KeyBytes'. -/
def keyBytesUptoCard : Claim7 := { stood := { row := keyBytesUptoRow, standIns := [], harness := (true, "c5b8202c010702474045db7721548ee811c5bbb491ab49ba6e39c567caa2ded5"), looks := true }, kinds := [], alts := [], laidByText := true, laidKinds := [.data, .data, .data, .data, .sentinel, .sentinel, .pinned], laidTests := true, laidLooks := .later }
def KeyBytesUptoCardSaid : Prop := Claim7.holds Tryz.pinned (.plain (OpenSpec.upto keyBytesSpec)) keyBytesUptoCard

/-- THE SECOND FORM's CARD OF 'vulgatelaw16.IntentPlays'. -/
def intentPlaysUptoCard : Claim7 := { stood := { row := intentPlaysUptoRow, standIns := [], harness := (true, "c5b8202c010702474045db7721548ee811c5bbb491ab49ba6e39c567caa2ded5"), looks := true }, kinds := [], alts := [], laidByText := true, laidKinds := [.data, .pinned], laidTests := true, laidLooks := .later }
def IntentPlaysUptoCardSaid : Prop := Claim7.holds Tryz.pinned (.plain (OpenSpec.upto intentPlaysSpec)) intentPlaysUptoCard

/-- THE SECOND FORM's CARD OF 'vulgatelaw14.StoreFull'. -/
def storeFullUptoCard : Claim7 := { stood := { row := storeFullUptoRow, standIns := [], harness := (true, "c5b8202c010702474045db7721548ee811c5bbb491ab49ba6e39c567caa2ded5"), looks := true }, kinds := [], alts := [], laidByText := true, laidKinds := [.data, .data, .data, .data, .sentinel, .sentinel, .pinned], laidTests := true, laidLooks := .later }
def StoreFullUptoCardSaid : Prop := Claim7.holds Tryz.pinned (.plain (OpenSpec.upto storeFullSpec)) storeFullUptoCard
end Rows
end Go.Proofs.YtemnojlcgllcjaaGreatDoor
