/-
  DERIVED. GIVEN WITH THE SEED: THE CARDS: each row of YtcedmfnlkelhkaaGreatDoorRows.lean that lists a variable, with what it lists TIED to the program's text (the seventh form; the later family's looks); each row that meets fmt, with fmt's text TOLD by the authors' own Lean function (tested against real Go, not proved from fmt's source: count such statements apart). THE CARD IS WHAT COUNTS. Prove the row's statement (the work); the ties are given (YtcedmfnlkelhkaaGreatDoorTie.lean); close each card by the builder's one call (the guide's Derived/Test/ToyasCard.lean, 'card_holds'). Laid BY PROGRAM, IN A SANDBOX (cutbox-door.mjs). By AI agents, Wed Nov 11 2026. No macro, syntax, notation, axiom, sorry.
-/
import Derived.Test.YtcedmfnlkelhkaaGreatDoorRows
import GoSem.ClaimSeven
namespace Go.Proofs.YtcedmfnlkelhkaaGreatDoor
namespace Rows

/-- THE TIED CARD OF 'vulgatelaw20.FallParents'. -/
def fallParentsCard : Claim7 := { stood := { row := fallParentsRow, standIns := [], harness := (true, "43f7812ab39cecc089b1bfdbc94f05bc0c35b73e24e71e161128ef1cdb214a72"), looks := false }, kinds := [], alts := [], laidByText := true, laidKinds := [.data, .pinned], laidTests := true, laidLooks := .later }
def FallParentsCardSaid : Prop := Claim7.holds Tryz.pinned (.plain (OpenSpec.ofChange fallParentsSpec)) fallParentsCard

/-- THE TIED CARD OF 'vulgatelaw20.FallGets'. -/
def fallGetsCard : Claim7 := { stood := { row := fallGetsRow, standIns := [], harness := (true, "43f7812ab39cecc089b1bfdbc94f05bc0c35b73e24e71e161128ef1cdb214a72"), looks := false }, kinds := [], alts := [], laidByText := true, laidKinds := [.data, .pinned], laidTests := true, laidLooks := .later }
def FallGetsCardSaid : Prop := Claim7.holds Tryz.pinned (.plain (OpenSpec.ofChange fallGetsSpec)) fallGetsCard

/-- THE TIED CARD OF 'vulgatelaw19.ViewNames'. -/
def viewNamesCard : Claim7 := { stood := { row := viewNamesRow, standIns := [], harness := (true, "43f7812ab39cecc089b1bfdbc94f05bc0c35b73e24e71e161128ef1cdb214a72"), looks := false }, kinds := [], alts := [], laidByText := true, laidKinds := [.data, .pinned], laidTests := true, laidLooks := .later }
def ViewNamesCardSaid : Prop := Claim7.holds Tryz.pinned (.plain (OpenSpec.ofChange viewNamesSpec)) viewNamesCard

/-- THE TIED CARD OF 'vulgatelaw19.ViewNil'. -/
def viewNilCard : Claim7 := { stood := { row := viewNilRow, standIns := [], harness := (true, "43f7812ab39cecc089b1bfdbc94f05bc0c35b73e24e71e161128ef1cdb214a72"), looks := false }, kinds := [], alts := [], laidByText := true, laidKinds := [.data, .pinned], laidTests := true, laidLooks := .later }
def ViewNilCardSaid : Prop := Claim7.holds Tryz.pinned (.plain (OpenSpec.ofChange viewNilSpec)) viewNilCard

/-- THE TIED CARD OF 'vulgatelaw20.FallTables'. -/
def fallTablesCard : Claim7 := { stood := { row := fallTablesRow, standIns := [], harness := (true, "43f7812ab39cecc089b1bfdbc94f05bc0c35b73e24e71e161128ef1cdb214a72"), looks := false }, kinds := [], alts := [], laidByText := true, laidKinds := [.data, .pinned], laidTests := true, laidLooks := .later }
def FallTablesCardSaid : Prop := Claim7.holds Tryz.pinned (.plain (OpenSpec.ofChange fallTablesSpec)) fallTablesCard

/-- THE SECOND FORM's CARD OF 'vulgatelaw20.FallParents'. -/
def fallParentsUptoCard : Claim7 := { stood := { row := fallParentsUptoRow, standIns := [], harness := (true, "43f7812ab39cecc089b1bfdbc94f05bc0c35b73e24e71e161128ef1cdb214a72"), looks := false }, kinds := [], alts := [], laidByText := true, laidKinds := [.data, .pinned], laidTests := true, laidLooks := .later }
def FallParentsUptoCardSaid : Prop := Claim7.holds Tryz.pinned (.plain (OpenSpec.upto fallParentsSpec)) fallParentsUptoCard

/-- THE SECOND FORM's CARD OF 'vulgatelaw20.FallGets'. -/
def fallGetsUptoCard : Claim7 := { stood := { row := fallGetsUptoRow, standIns := [], harness := (true, "43f7812ab39cecc089b1bfdbc94f05bc0c35b73e24e71e161128ef1cdb214a72"), looks := false }, kinds := [], alts := [], laidByText := true, laidKinds := [.data, .pinned], laidTests := true, laidLooks := .later }
def FallGetsUptoCardSaid : Prop := Claim7.holds Tryz.pinned (.plain (OpenSpec.upto fallGetsSpec)) fallGetsUptoCard

/-- THE SECOND FORM's CARD OF 'vulgatelaw19.ViewNames'. -/
def viewNamesUptoCard : Claim7 := { stood := { row := viewNamesUptoRow, standIns := [], harness := (true, "43f7812ab39cecc089b1bfdbc94f05bc0c35b73e24e71e161128ef1cdb214a72"), looks := false }, kinds := [], alts := [], laidByText := true, laidKinds := [.data, .pinned], laidTests := true, laidLooks := .later }
def ViewNamesUptoCardSaid : Prop := Claim7.holds Tryz.pinned (.plain (OpenSpec.upto viewNamesSpec)) viewNamesUptoCard

/-- THE SECOND FORM's CARD OF 'vulgatelaw19.ViewNil'. -/
def viewNilUptoCard : Claim7 := { stood := { row := viewNilUptoRow, standIns := [], harness := (true, "43f7812ab39cecc089b1bfdbc94f05bc0c35b73e24e71e161128ef1cdb214a72"), looks := false }, kinds := [], alts := [], laidByText := true, laidKinds := [.data, .pinned], laidTests := true, laidLooks := .later }
def ViewNilUptoCardSaid : Prop := Claim7.holds Tryz.pinned (.plain (OpenSpec.upto viewNilSpec)) viewNilUptoCard

/-- THE SECOND FORM's CARD OF 'vulgatelaw20.FallTables'. -/
def fallTablesUptoCard : Claim7 := { stood := { row := fallTablesUptoRow, standIns := [], harness := (true, "43f7812ab39cecc089b1bfdbc94f05bc0c35b73e24e71e161128ef1cdb214a72"), looks := false }, kinds := [], alts := [], laidByText := true, laidKinds := [.data, .pinned], laidTests := true, laidLooks := .later }
def FallTablesUptoCardSaid : Prop := Claim7.holds Tryz.pinned (.plain (OpenSpec.upto fallTablesSpec)) fallTablesUptoCard
end Rows
end Go.Proofs.YtcedmfnlkelhkaaGreatDoor
