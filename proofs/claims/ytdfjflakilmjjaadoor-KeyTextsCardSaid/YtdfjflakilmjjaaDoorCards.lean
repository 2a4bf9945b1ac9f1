/-
  DERIVED. GIVEN WITH THE SEED: THE CARDS: each row of YtdfjflakilmjjaaDoorRows.lean that lists a variable, with what it lists TIED to the program's text (the seventh form; the later family's looks); each row that meets fmt, with fmt's text TOLD by the authors' own Lean function (tested against real Go, not proved from fmt's source: count such statements apart). THE CARD IS WHAT COUNTS. Prove the row's statement (the work); the ties are given (YtdfjflakilmjjaaDoorTie.lean); close each card by the builder's one call (the guide's Derived/Test/ToyasCard.lean, 'card_holds'). Laid BY PROGRAM, IN A SANDBOX (cutbox-door.mjs). By AI agents, Wed Nov 11 2026. No macro, syntax, notation, axiom, sorry.
-/
import Derived.Test.YtdfjflakilmjjaaDoorRows
import GoSem.ClaimSeven
namespace Go.Proofs.YtdfjflakilmjjaaDoor
namespace Rows

/-- THE TIED CARD OF 'vulgatelaw06.KeyTexts'. -/
def keyTextsCard : Claim7 := { stood := { row := keyTextsRow, standIns := [], harness := (true, "489ca733692edfc950c81e246ac7a560016989e67d7423e375c7393b99b8cbba"), looks := true }, kinds := [], alts := [], laidByText := true, laidKinds := [.data, .data, .data, .data, .sentinel, .sentinel, .pinned], laidTests := true, laidLooks := .later }
def KeyTextsCardSaid : Prop := Claim7.holds Tryd.pinned (.plain (OpenSpec.ofChange keyTextsSpec)) keyTextsCard

/-- THE TIED CARD OF 'vulgatelaw06.KeySplits'. -/
def keySplitsCard : Claim7 := { stood := { row := keySplitsRow, standIns := [], harness := (true, "489ca733692edfc950c81e246ac7a560016989e67d7423e375c7393b99b8cbba"), looks := true }, kinds := [], alts := [], laidByText := true, laidKinds := [.data, .data, .data, .data, .sentinel, .sentinel, .pinned], laidTests := true, laidLooks := .later }
def KeySplitsCardSaid : Prop := Claim7.holds Tryd.pinned (.plain (OpenSpec.ofChange keySplitsSpec)) keySplitsCard

/-- THE SECOND FORM's CARD OF 'vulgatelaw06.KeyTexts'. -/
def keyTextsUptoCard : Claim7 := { stood := { row := keyTextsUptoRow, standIns := [], harness := (true, "489ca733692edfc950c81e246ac7a560016989e67d7423e375c7393b99b8cbba"), looks := true }, kinds := [], alts := [], laidByText := true, laidKinds := [.data, .data, .data, .data, .sentinel, .sentinel, .pinned], laidTests := true, laidLooks := .later }
def KeyTextsUptoCardSaid : Prop := Claim7.holds Tryd.pinned (.plain (OpenSpec.upto keyTextsSpec)) keyTextsUptoCard

/-- THE SECOND FORM's CARD OF 'vulgatelaw06.KeySplits'. -/
def keySplitsUptoCard : Claim7 := { stood := { row := keySplitsUptoRow, standIns := [], harness := (true, "489ca733692edfc950c81e246ac7a560016989e67d7423e375c7393b99b8cbba"), looks := true }, kinds := [], alts := [], laidByText := true, laidKinds := [.data, .data, .data, .data, .sentinel, .sentinel, .pinned], laidTests := true, laidLooks := .later }
def KeySplitsUptoCardSaid : Prop := Claim7.holds Tryd.pinned (.plain (OpenSpec.upto keySplitsSpec)) keySplitsUptoCard
end Rows
end Go.Proofs.YtdfjflakilmjjaaDoor
