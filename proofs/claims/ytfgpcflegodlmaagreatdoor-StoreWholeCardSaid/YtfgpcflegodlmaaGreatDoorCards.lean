/-
  DERIVED. GIVEN WITH THE SEED: THE CARDS: each row of YtfgpcflegodlmaaGreatDoorRows.lean that lists a variable, with what it lists TIED to the program's text (the seventh form; the later family's looks); each row that meets fmt, with fmt's text TOLD by the authors' own Lean function (tested against real Go, not proved from fmt's source: count such statements apart). THE CARD IS WHAT COUNTS. Prove the row's statement (the work); the ties are given (YtfgpcflegodlmaaGreatDoorTie.lean); close each card by the builder's one call (the guide's Derived/Test/ToyasCard.lean, 'card_holds'). Laid BY PROGRAM, IN A SANDBOX (cutbox-door.mjs). By AI agents, Wed Nov 11 2026. No macro, syntax, notation, axiom, sorry.
-/
import Derived.Test.YtfgpcflegodlmaaGreatDoorRows
import GoSem.ClaimSeven
namespace Go.Proofs.YtfgpcflegodlmaaGreatDoor
namespace Rows

/-- THE TIED CARD OF 'vulgatelaw14.StoreChecks'. -/
def storeChecksCard : Claim7 := { stood := { row := storeChecksRow, standIns := [], harness := (true, "802328dd9e2072320b4ec6da73467436bde77ecdf45a886281bf7c41e4de3e64"), looks := false }, kinds := [], alts := [], laidByText := true, laidKinds := [.data, .pinned], laidTests := true, laidLooks := .later }
def StoreChecksCardSaid : Prop := Claim7.holds Tryz.pinned (.plain (OpenSpec.ofChange storeChecksSpec)) storeChecksCard

/-- THE TIED CARD OF 'vulgatelaw14.StoreWhole'. -/
def storeWholeCard : Claim7 := { stood := { row := storeWholeRow, standIns := [], harness := (true, "802328dd9e2072320b4ec6da73467436bde77ecdf45a886281bf7c41e4de3e64"), looks := false }, kinds := [], alts := [], laidByText := true, laidKinds := [.data, .pinned], laidTests := true, laidLooks := .later }
def StoreWholeCardSaid : Prop := Claim7.holds Tryz.pinned (.plain (OpenSpec.ofChange storeWholeSpec)) storeWholeCard

/-- THE TIED CARD OF 'vulgatelaw22.RoleMore'. -/
def roleMoreCard : Claim7 := { stood := { row := roleMoreRow, standIns := [], harness := (true, "802328dd9e2072320b4ec6da73467436bde77ecdf45a886281bf7c41e4de3e64"), looks := false }, kinds := [], alts := [], laidByText := true, laidKinds := [.data, .pinned], laidTests := true, laidLooks := .later }
def RoleMoreCardSaid : Prop := Claim7.holds Tryz.pinned (.plain (OpenSpec.ofChange roleMoreSpec)) roleMoreCard

/-- THE TIED CARD OF 'vulgatelaw14.StoreStays'. -/
def storeStaysCard : Claim7 := { stood := { row := storeStaysRow, standIns := [], harness := (true, "802328dd9e2072320b4ec6da73467436bde77ecdf45a886281bf7c41e4de3e64"), looks := false }, kinds := [], alts := [], laidByText := true, laidKinds := [.data, .pinned], laidTests := true, laidLooks := .later }
def StoreStaysCardSaid : Prop := Claim7.holds Tryz.pinned (.plain (OpenSpec.ofChange storeStaysSpec)) storeStaysCard

/-- THE TIED CARD OF 'vulgatelaw22.RoleChecks'. -/
def roleChecksCard : Claim7 := { stood := { row := roleChecksRow, standIns := [], harness := (true, "802328dd9e2072320b4ec6da73467436bde77ecdf45a886281bf7c41e4de3e64"), looks := false }, kinds := [], alts := [], laidByText := true, laidKinds := [.data, .pinned], laidTests := true, laidLooks := .later }
def RoleChecksCardSaid : Prop := Claim7.holds Tryz.pinned (.plain (OpenSpec.ofChange roleChecksSpec)) roleChecksCard

/-- THE TIED CARD OF 'vulgatelaw14.StoreNil'. -/
def storeNilCard : Claim7 := { stood := { row := storeNilRow, standIns := [], harness := (true, "802328dd9e2072320b4ec6da73467436bde77ecdf45a886281bf7c41e4de3e64"), looks := false }, kinds := [], alts := [], laidByText := true, laidKinds := [.data, .pinned], laidTests := true, laidLooks := .later }
def StoreNilCardSaid : Prop := Claim7.holds Tryz.pinned (.plain (OpenSpec.ofChange storeNilSpec)) storeNilCard

/-- THE SECOND FORM's CARD OF 'vulgatelaw14.StoreChecks'. -/
def storeChecksUptoCard : Claim7 := { stood := { row := storeChecksUptoRow, standIns := [], harness := (true, "802328dd9e2072320b4ec6da73467436bde77ecdf45a886281bf7c41e4de3e64"), looks := false }, kinds := [], alts := [], laidByText := true, laidKinds := [.data, .pinned], laidTests := true, laidLooks := .later }
def StoreChecksUptoCardSaid : Prop := Claim7.holds Tryz.pinned (.plain (OpenSpec.upto storeChecksSpec)) storeChecksUptoCard

/-- THE SECOND FORM's CARD OF 'vulgatelaw14.StoreWhole'. -/
def storeWholeUptoCard : Claim7 := { stood := { row := storeWholeUptoRow, standIns := [], harness := (true, "802328dd9e2072320b4ec6da73467436bde77ecdf45a886281bf7c41e4de3e64"), looks := false }, kinds := [], alts := [], laidByText := true, laidKinds := [.data, .pinned], laidTests := true, laidLooks := .later }
def StoreWholeUptoCardSaid : Prop := Claim7.holds Tryz.pinned (.plain (OpenSpec.upto storeWholeSpec)) storeWholeUptoCard

/-- THE SECOND FORM's CARD OF 'vulgatelaw22.RoleMore'. -/
def roleMoreUptoCard : Claim7 := { stood := { row := roleMoreUptoRow, standIns := [], harness := (true, "802328dd9e2072320b4ec6da73467436bde77ecdf45a886281bf7c41e4de3e64"), looks := false }, kinds := [], alts := [], laidByText := true, laidKinds := [.data, .pinned], laidTests := true, laidLooks := .later }
def RoleMoreUptoCardSaid : Prop := Claim7.holds Tryz.pinned (.plain (OpenSpec.upto roleMoreSpec)) roleMoreUptoCard

/-- THE SECOND FORM's CARD OF 'vulgatelaw14.StoreStays'. -/
def storeStaysUptoCard : Claim7 := { stood := { row := storeStaysUptoRow, standIns := [], harness := (true, "802328dd9e2072320b4ec6da73467436bde77ecdf45a886281bf7c41e4de3e64"), looks := false }, kinds := [], alts := [], laidByText := true, laidKinds := [.data, .pinned], laidTests := true, laidLooks := .later }
def StoreStaysUptoCardSaid : Prop := Claim7.holds Tryz.pinned (.plain (OpenSpec.upto storeStaysSpec)) storeStaysUptoCard

/-- THE SECOND FORM's CARD OF 'vulgatelaw22.RoleChecks'. -/
def roleChecksUptoCard : Claim7 := { stood := { row := roleChecksUptoRow, standIns := [], harness := (true, "802328dd9e2072320b4ec6da73467436bde77ecdf45a886281bf7c41e4de3e64"), looks := false }, kinds := [], alts := [], laidByText := true, laidKinds := [.data, .pinned], laidTests := true, laidLooks := .later }
def RoleChecksUptoCardSaid : Prop := Claim7.holds Tryz.pinned (.plain (OpenSpec.upto roleChecksSpec)) roleChecksUptoCard

/-- THE SECOND FORM's CARD OF 'vulgatelaw14.StoreNil'. -/
def storeNilUptoCard : Claim7 := { stood := { row := storeNilUptoRow, standIns := [], harness := (true, "802328dd9e2072320b4ec6da73467436bde77ecdf45a886281bf7c41e4de3e64"), looks := false }, kinds := [], alts := [], laidByText := true, laidKinds := [.data, .pinned], laidTests := true, laidLooks := .later }
def StoreNilUptoCardSaid : Prop := Claim7.holds Tryz.pinned (.plain (OpenSpec.upto storeNilSpec)) storeNilUptoCard
end Rows
end Go.Proofs.YtfgpcflegodlmaaGreatDoor
