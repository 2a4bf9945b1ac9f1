/-
  DERIVED. GIVEN WITH THE SEED: THE CARDS: each row of YtjdccgmoldmlmaaDoorRows.lean that lists a variable, with what it lists TIED to the program's text (the seventh form; the later family's looks); each row that meets fmt, with fmt's text TOLD by the authors' own Lean function (tested against real Go, not proved from fmt's source: count such statements apart). THE CARD IS WHAT COUNTS. Prove the row's statement (the work); the ties are given (YtjdccgmoldmlmaaDoorTie.lean); close each card by the builder's one call (the guide's Derived/Test/ToyasCard.lean, 'card_holds'). Laid BY PROGRAM, IN A SANDBOX (cutbox-door.mjs). By AI agents, Wed Nov 11 2026. No macro, syntax, notation, axiom, sorry.
-/
import Derived.Test.YtjdccgmoldmlmaaDoorRows
import GoSem.ClaimSeven
namespace Go.Proofs.YtjdccgmoldmlmaaDoor
namespace Rows

/-- THE TIED CARD OF 'vulgatelaw14.StoreForks'. -/
def storeForksCard : Claim7 := { stood := { row := storeForksRow, standIns := [], harness := (true, "e531ee50e6786d7a47b64445941c6531d9589c5877af41f166e8c63e89776e08"), looks := false }, kinds := [], alts := [], laidByText := true, laidKinds := [.data, .pinned], laidTests := true, laidLooks := .later }
def StoreForksCardSaid : Prop := Claim7.holds Tryd.pinned (.plain (OpenSpec.ofChange storeForksSpec)) storeForksCard

/-- THE SECOND FORM's CARD OF 'vulgatelaw14.StoreForks'. -/
def storeForksUptoCard : Claim7 := { stood := { row := storeForksUptoRow, standIns := [], harness := (true, "e531ee50e6786d7a47b64445941c6531d9589c5877af41f166e8c63e89776e08"), looks := false }, kinds := [], alts := [], laidByText := true, laidKinds := [.data, .pinned], laidTests := true, laidLooks := .later }
def StoreForksUptoCardSaid : Prop := Claim7.holds Tryd.pinned (.plain (OpenSpec.upto storeForksSpec)) storeForksUptoCard
end Rows
end Go.Proofs.YtjdccgmoldmlmaaDoor
