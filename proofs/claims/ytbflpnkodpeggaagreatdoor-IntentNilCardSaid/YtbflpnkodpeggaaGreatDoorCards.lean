/-
  DERIVED. GIVEN WITH THE SEED: THE CARDS: each row of YtbflpnkodpeggaaGreatDoorRows.lean that lists a variable, with what it lists TIED to the program's text (the seventh form; the later family's looks); each row that meets fmt, with fmt's text TOLD by the authors' own Lean function (tested against real Go, not proved from fmt's source: count such statements apart). THE CARD IS WHAT COUNTS. Prove the row's statement (the work); the ties are given (YtbflpnkodpeggaaGreatDoorTie.lean); close each card by the builder's one call (the guide's Derived/Test/ToyasCard.lean, 'card_holds'). Laid BY PROGRAM, IN A SANDBOX (cutbox-door.mjs). By AI agents, Wed Nov 11 2026. No macro, syntax, notation, axiom, sorry.
-/
import Derived.Test.YtbflpnkodpeggaaGreatDoorRows
import GoSem.ClaimSeven
namespace Go.Proofs.YtbflpnkodpeggaaGreatDoor
namespace Rows

/-- THE TIED CARD OF 'vulgatelaw16.IntentNil'. -/
def intentNilCard : Claim7 := { stood := { row := intentNilRow, standIns := [], harness := (true, "782252c04763cd6c41f188f757822e058b120e9a1e65fc6eb1aa662ae2dd5e9a"), looks := false }, kinds := [], alts := [], laidByText := true, laidKinds := [.data, .pinned], laidTests := true, laidLooks := .later }
def IntentNilCardSaid : Prop := Claim7.holds Tryz.pinned (.plain (OpenSpec.ofChange intentNilSpec)) intentNilCard

/-- THE SECOND FORM's CARD OF 'vulgatelaw16.IntentNil'. -/
def intentNilUptoCard : Claim7 := { stood := { row := intentNilUptoRow, standIns := [], harness := (true, "782252c04763cd6c41f188f757822e058b120e9a1e65fc6eb1aa662ae2dd5e9a"), looks := false }, kinds := [], alts := [], laidByText := true, laidKinds := [.data, .pinned], laidTests := true, laidLooks := .later }
def IntentNilUptoCardSaid : Prop := Claim7.holds Tryz.pinned (.plain (OpenSpec.upto intentNilSpec)) intentNilUptoCard
end Rows
end Go.Proofs.YtbflpnkodpeggaaGreatDoor
