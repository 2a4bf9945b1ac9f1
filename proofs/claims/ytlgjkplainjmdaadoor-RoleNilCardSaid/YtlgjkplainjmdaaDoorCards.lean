/-
  DERIVED. GIVEN WITH THE SEED: THE CARDS: each row of YtlgjkplainjmdaaDoorRows.lean that lists a variable, with what it lists TIED to the program's text (the seventh form; the later family's looks); each row that meets fmt, with fmt's text TOLD by the authors' own Lean function (tested against real Go, not proved from fmt's source: count such statements apart). THE CARD IS WHAT COUNTS. Prove the row's statement (the work); the ties are given (YtlgjkplainjmdaaDoorTie.lean); close each card by the builder's one call (the guide's Derived/Test/ToyasCard.lean, 'card_holds'). Laid BY PROGRAM, IN A SANDBOX (cutbox-door.mjs). By AI agents, Wed Nov 11 2026. No macro, syntax, notation, axiom, sorry.
-/
import Derived.Test.YtlgjkplainjmdaaDoorRows
import GoSem.ClaimSeven
namespace Go.Proofs.YtlgjkplainjmdaaDoor
namespace Rows

/-- THE TIED CARD OF 'vulgatelaw22.RoleNil'. -/
def roleNilCard : Claim7 := { stood := { row := roleNilRow, standIns := [], harness := (true, "acf6f3d082a2d6997951f8e283c5374b6bbe50877f01c25466b8151c1aabcccf"), looks := false }, kinds := [], alts := [], laidByText := true, laidKinds := [.data, .pinned], laidTests := true, laidLooks := .later }
def RoleNilCardSaid : Prop := Claim7.holds Tryd.pinned (.plain (OpenSpec.ofChange roleNilSpec)) roleNilCard

/-- THE SECOND FORM's CARD OF 'vulgatelaw22.RoleNil'. -/
def roleNilUptoCard : Claim7 := { stood := { row := roleNilUptoRow, standIns := [], harness := (true, "acf6f3d082a2d6997951f8e283c5374b6bbe50877f01c25466b8151c1aabcccf"), looks := false }, kinds := [], alts := [], laidByText := true, laidKinds := [.data, .pinned], laidTests := true, laidLooks := .later }
def RoleNilUptoCardSaid : Prop := Claim7.holds Tryd.pinned (.plain (OpenSpec.upto roleNilSpec)) roleNilUptoCard
end Rows
end Go.Proofs.YtlgjkplainjmdaaDoor
