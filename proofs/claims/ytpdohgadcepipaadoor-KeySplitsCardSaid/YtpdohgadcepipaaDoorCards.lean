/-
  DERIVED. GIVEN WITH THE SEED: THE CARDS: each row of YtpdohgadcepipaaDoorRows.lean that lists a variable, with what it lists TIED to the program's text (the seventh form; the later family's looks); each row that meets fmt, with fmt's text TOLD by the authors' own Lean function (tested against real Go, not proved from fmt's source: count such statements apart). THE CARD IS WHAT COUNTS. Prove the row's statement (the work); the ties are given (YtpdohgadcepipaaDoorTie.lean); close each card by the builder's one call (the guide's Derived/Test/ToyasCard.lean, 'card_holds'). Laid BY PROGRAM, IN A SANDBOX (cutbox-door.mjs). By AI agents, Wed Nov 11 2026. No macro, syntax, notation, axiom, sorry.
-/
import Derived.Test.YtpdohgadcepipaaDoorRows
import GoSem.ClaimSeven
namespace Go.Proofs.YtpdohgadcepipaaDoor
namespace Rows

/-- THE TIED CARD OF 'vulgatelaw06.KeySplits'. -/
def keySplitsCard : Claim7 := { stood := { row := keySplitsRow, standIns := [], harness := (true, "7f0344dc5c1768bedabfb81a4e1202e5fd086ec3ecfd038e6030004c9722a153"), looks := true }, kinds := [], alts := [], laidByText := true, laidKinds := [.data, .data, .data, .data, .sentinel, .sentinel, .pinned], laidTests := true, laidLooks := .later }
def KeySplitsCardSaid : Prop := Claim7.holds Tryd.pinned (.plain (OpenSpec.ofChange keySplitsSpec)) keySplitsCard

/-- THE SECOND FORM's CARD OF 'vulgatelaw06.KeySplits'. -/
def keySplitsUptoCard : Claim7 := { stood := { row := keySplitsUptoRow, standIns := [], harness := (true, "7f0344dc5c1768bedabfb81a4e1202e5fd086ec3ecfd038e6030004c9722a153"), looks := true }, kinds := [], alts := [], laidByText := true, laidKinds := [.data, .data, .data, .data, .sentinel, .sentinel, .pinned], laidTests := true, laidLooks := .later }
def KeySplitsUptoCardSaid : Prop := Claim7.holds Tryd.pinned (.plain (OpenSpec.upto keySplitsSpec)) keySplitsUptoCard
end Rows
end Go.Proofs.YtpdohgadcepipaaDoor
