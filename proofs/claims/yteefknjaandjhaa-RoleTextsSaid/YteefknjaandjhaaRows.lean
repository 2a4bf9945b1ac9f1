/-
  No cell of these rows narrows 'for every input' (looked for: loops, veiled, ifaces, maps, wideKeys, modest, calm, conditions, laid).
  DERIVED. THE GIVEN ROWS OF THIS SEAT. 3 by the template 'for every input the law returns true; each argument reads behind the call as it read before'; 0 by the template 'total and deterministic' (their statements: YteefknjaandjhaaTotals.lean).
  GIVEN WITH THE SEED: the statements are not yours to turn. If you find one false, say at which input.
  Laid BY PROGRAM, IN A SANDBOX (cutbox-rows.mjs): the forced cells as the released guide's own fill.sh prints them over the translation b6a2d1ff4443e05f… (all of the seat's roots in one cut). By AI agents, Wed Nov 11 2026. No macro, syntax, notation, axiom, sorry.
-/
import Derived.Test.YteefknjaandjhaaChecked
import GoSem.Claim
import GoSem.ClaimJoined
import GoSem.ClaimMapViews
import Derived.JoinedTies
import Derived.KernelRfl
namespace Go.Proofs.Yteefknjaandjhaa
/- THE CELL 'sum', in the pinned program and in every row, IS THE sha256 OF THE DUMP (.gsa) THAT YteefknjaandjhaaProg.lean LOADS. Nothing in Lean hashes anything: it is a label: what it is worth is what the hold of that sum in a sandbox is worth. -/
noncomputable def Try.pinned : Pinned := { name := "yteefknjaandjhaa", sum := "b6a2d1ff4443e05ffdb203e75a6807e08f5077a7a78c545923a2ef0723b86810", checked := Try.checked }
namespace Rows
def none {H : Type} : Left H := { results := [], args := [] }

/-- 'vulgatelaw24.MergeThree': WHATEVER THE INPUT: true; the input reads as it did. -/
def mergeThreeSpec : ChangeSpec := { name := "mergeThree", fn := fun _ => fun
  | [d1, d2, d3, d4] => { results := [.lit (.bool true)], args := [d1, d2, d3, d4] }
  | _ => none }
def mergeThreeRow : OpenClaim := { program := "yteefknjaandjhaa", sum := "b6a2d1ff4443e05ffdb203e75a6807e08f5077a7a78c545923a2ef0723b86810", func := "vulgate/vulgatelaw24.MergeThree", spec := "mergeThree", apart := false }
def MergeThreeSaid : Prop := mergeThreeRow.holds Try.pinned (OpenSpec.ofChange mergeThreeSpec)

/-- ITS FALSE NEIGHBOUR: 'it returns false'. Refute it at one input. -/
def mergeThreeWrong : ChangeSpec := { name := "mergeThree", fn := fun _ => fun
  | [d1, d2, d3, d4] => { results := [.lit (.bool false)], args := [d1, d2, d3, d4] }
  | _ => none }
def MergeThreeWrongFalsely : Prop := mergeThreeRow.holds Try.pinned (OpenSpec.ofChange mergeThreeWrong)

/-- 'vulgatelaw22.RoleMay': WHATEVER THE INPUT: true; the input reads as it did. -/
def roleMaySpec : ChangeSpec := { name := "roleMay", fn := fun _ => fun
  | [d1, d2, d3] => { results := [.lit (.bool true)], args := [d1, d2, d3] }
  | _ => none }
def roleMayRow : OpenClaim := { program := "yteefknjaandjhaa", sum := "b6a2d1ff4443e05ffdb203e75a6807e08f5077a7a78c545923a2ef0723b86810", func := "vulgate/vulgatelaw22.RoleMay", spec := "roleMay", apart := false }
def RoleMaySaid : Prop := roleMayRow.holds Try.pinned (OpenSpec.ofChange roleMaySpec)

/-- ITS FALSE NEIGHBOUR: 'it returns false'. Refute it at one input. -/
def roleMayWrong : ChangeSpec := { name := "roleMay", fn := fun _ => fun
  | [d1, d2, d3] => { results := [.lit (.bool false)], args := [d1, d2, d3] }
  | _ => none }
def RoleMayWrongFalsely : Prop := roleMayRow.holds Try.pinned (OpenSpec.ofChange roleMayWrong)

/-- 'vulgatelaw22.RoleTexts': WHATEVER THE INPUT: true; the input reads as it did. -/
def roleTextsSpec : ChangeSpec := { name := "roleTexts", fn := fun _ => fun
  | [d1, d2, d3] => { results := [.lit (.bool true)], args := [d1, d2, d3] }
  | _ => none }
def roleTextsRow : OpenClaim := { program := "yteefknjaandjhaa", sum := "b6a2d1ff4443e05ffdb203e75a6807e08f5077a7a78c545923a2ef0723b86810", func := "vulgate/vulgatelaw22.RoleTexts", spec := "roleTexts", apart := false }
def RoleTextsSaid : Prop := roleTextsRow.holds Try.pinned (OpenSpec.ofChange roleTextsSpec)

/-- ITS FALSE NEIGHBOUR: 'it returns false'. Refute it at one input. -/
def roleTextsWrong : ChangeSpec := { name := "roleTexts", fn := fun _ => fun
  | [d1, d2, d3] => { results := [.lit (.bool false)], args := [d1, d2, d3] }
  | _ => none }
def RoleTextsWrongFalsely : Prop := roleTextsRow.holds Try.pinned (OpenSpec.ofChange roleTextsWrong)

/- THE SECOND FORM. 'bulk': how many values and letters a reading holds, each counted each time it is reached (what is shared counts as often as it is met; a slice's spare places count too). A statement '..UptoSaid' is the law's where the arguments, and the package variables that the reading takes, are together of bulk at most 1048576: NARROWER than '..Said'. Prove '..Said' where nothing that the law and all that it calls make is longer than what came in: it says more and counts as full. Else prove '..UptoSaid'. A law counts once. -/
mutual
def uptoBulk {H : Type} : DataW H → Nat
  | .lit (.string bytes) => bytes.length + 1
  | .lit _ => 1
  | .nil => 1
  | .ptr d => uptoBulk d + 1
  | .slice elems spare => uptoBulkAll elems + uptoBulkAll spare + 1
  | .agg parts => uptoBulkAll parts + 1
  | .iface _ d => uptoBulk d + 1
  | .map entries => uptoBulkEntries entries + 1
  | .held _ => 1
def uptoBulkAll {H : Type} : List (DataW H) → Nat
  | [] => 0
  | d :: r => uptoBulk d + uptoBulkAll r
def uptoBulkEntries {H : Type} : List (Lit × DataW H) → Nat
  | [] => 0
  | x :: r => uptoBulkEntry x + uptoBulkEntries r
def uptoBulkEntry {H : Type} : Lit × DataW H → Nat
  | (.string bytes, d) => bytes.length + uptoBulk d + 1
  | (_, d) => uptoBulk d + 1
 end
def uptoSmall : (H : Type) → List (DataW H) → Bool := fun _ ds => decide (uptoBulkAll ds ≤ 1048576)
def OpenSpec.upto (s : _root_.Go.ChangeSpec) : _root_.Go.OpenSpec := { _root_.Go.OpenSpec.ofChange s with cond := some uptoSmall }

/-- 'vulgatelaw24.MergeThree', WHERE WHAT IT READS IS OF BULK AT MOST 1048576: true; the input reads as it did. -/
def mergeThreeUptoRow : OpenClaim := { program := "yteefknjaandjhaa", sum := "b6a2d1ff4443e05ffdb203e75a6807e08f5077a7a78c545923a2ef0723b86810", func := "vulgate/vulgatelaw24.MergeThree", spec := "mergeThree", apart := false, narrowed := true }
def MergeThreeUptoSaid : Prop := mergeThreeUptoRow.holds Try.pinned (OpenSpec.upto mergeThreeSpec)

/-- 'vulgatelaw22.RoleMay', WHERE WHAT IT READS IS OF BULK AT MOST 1048576: true; the input reads as it did. -/
def roleMayUptoRow : OpenClaim := { program := "yteefknjaandjhaa", sum := "b6a2d1ff4443e05ffdb203e75a6807e08f5077a7a78c545923a2ef0723b86810", func := "vulgate/vulgatelaw22.RoleMay", spec := "roleMay", apart := false, narrowed := true }
def RoleMayUptoSaid : Prop := roleMayUptoRow.holds Try.pinned (OpenSpec.upto roleMaySpec)

/-- 'vulgatelaw22.RoleTexts', WHERE WHAT IT READS IS OF BULK AT MOST 1048576: true; the input reads as it did. -/
def roleTextsUptoRow : OpenClaim := { program := "yteefknjaandjhaa", sum := "b6a2d1ff4443e05ffdb203e75a6807e08f5077a7a78c545923a2ef0723b86810", func := "vulgate/vulgatelaw22.RoleTexts", spec := "roleTexts", apart := false, narrowed := true }
def RoleTextsUptoSaid : Prop := roleTextsUptoRow.holds Try.pinned (OpenSpec.upto roleTextsSpec)

end Rows
end Go.Proofs.Yteefknjaandjhaa
