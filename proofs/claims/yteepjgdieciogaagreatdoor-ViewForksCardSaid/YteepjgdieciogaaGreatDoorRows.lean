/-
  NARROWER THAN 'FOR EVERY INPUT', by the rows' own cells (each row's printed sentence says how): ViewForks: laid · ViewStates: laid · RoleChecks: laid · FallParents: laid · FallGets: laid.
  DERIVED. THE GIVEN ROWS OF THIS SEAT. 5 by the template 'for every input the law returns true; each argument reads behind the call as it read before'; 0 by the template 'total and deterministic' (their statements: YteepjgdieciogaaGreatDoorTotals.lean).
  GIVEN WITH THE SEED: the statements are not yours to turn. If you find one false, say at which input.
  Laid BY PROGRAM, IN A SANDBOX (cutbox-rows.mjs): the forced cells as the released guide's own fill.sh prints them over the translation 811f1427d66342a6… (all of the seat's roots in one cut). By AI agents, Wed Nov 11 2026. No macro, syntax, notation, axiom, sorry.
-/
import Derived.Test.YteepjgdieciogaaGreatDoorChecked
import GoSem.PinnedTables
import GoSem.Claim
import GoSem.ClaimJoined
import GoSem.ClaimMapViews
import Derived.JoinedTies
import Derived.KernelRfl
namespace Go.Proofs.YteepjgdieciogaaGreatDoor
/- THE CELL 'sum', in the pinned program and in every row, IS THE sha256 OF THE DUMP (.gsa) THAT YteepjgdieciogaaGreatDoorProg.lean LOADS. Nothing in Lean hashes anything: it is a label: what it is worth is what the hold of that sum in a sandbox is worth. -/
noncomputable def Tryz.pinned : Pinned := { name := "yteepjgdieciogaagreatdoor", sum := "811f1427d66342a68afec3ae402c1422aabefd23ffe2a12f3fbec43e17bfe5be", checked := Tryz.checked }
namespace Rows
def none {H : Type} : Left H := { results := [], args := [] }

/- WHAT THE LISTED PACKAGE-LEVEL VARIABLES READ AS WHEN THE CALL BEGINS. Each datum BY PROGRAM (the guide's laid-datum.mjs) off the statement by which the dump's own 'gosem.cut.vars' lays the variable. In a bare row this is a premise. The card (YteepjgdieciogaaGreatDoorCards.lean) ties it to the program's text. -/
def laid_unicode_utf8_acceptRanges {H : Type} : DataW H := .agg [.agg [.lit (.int .u8 128), .lit (.int .u8 191)], .agg [.lit (.int .u8 160), .lit (.int .u8 191)], .agg [.lit (.int .u8 128), .lit (.int .u8 159)], .agg [.lit (.int .u8 144), .lit (.int .u8 191)], .agg [.lit (.int .u8 128), .lit (.int .u8 143)], .agg [.lit (.int .u8 0), .lit (.int .u8 0)], .agg [.lit (.int .u8 0), .lit (.int .u8 0)], .agg [.lit (.int .u8 0), .lit (.int .u8 0)], .agg [.lit (.int .u8 0), .lit (.int .u8 0)], .agg [.lit (.int .u8 0), .lit (.int .u8 0)], .agg [.lit (.int .u8 0), .lit (.int .u8 0)], .agg [.lit (.int .u8 0), .lit (.int .u8 0)], .agg [.lit (.int .u8 0), .lit (.int .u8 0)], .agg [.lit (.int .u8 0), .lit (.int .u8 0)], .agg [.lit (.int .u8 0), .lit (.int .u8 0)], .agg [.lit (.int .u8 0), .lit (.int .u8 0)]]
/-- One of Go's own tables, pinned by name: the form's constant. -/
def laid_unicode_utf8_first : DataW Unit := Go.Pinned.utf8First

/-- 'vulgatelaw19.ViewForks': WHATEVER THE INPUT: true; the input reads as it did. -/
def viewForksSpec : ChangeSpec := { name := "viewForks", fn := fun _ => fun
  | [d1, d2] => { results := [.lit (.bool true)], args := [d1, d2] }
  | _ => none }
def viewForksRow : OpenClaim := { program := "yteepjgdieciogaagreatdoor", sum := "811f1427d66342a68afec3ae402c1422aabefd23ffe2a12f3fbec43e17bfe5be", func := "vulgate/vulgatelaw19.ViewForks", spec := "viewForks", inPlace := ["internal/bytealg.IndexByte", "internal/bytealg.IndexByteString", "internal/bytealg.IndexString", "internal/bytealg.CountString"], unfollowed := true, recurses := true, named := ["unicode/utf8.first", "unicode/utf8.acceptRanges", "internal/bytealg.MaxLen"], plainKeys := false, apart := false, laid := [("unicode/utf8.acceptRanges", laid_unicode_utf8_acceptRanges), ("unicode/utf8.first", laid_unicode_utf8_first)] }
def ViewForksSaid : Prop := viewForksRow.holds Tryz.pinned (OpenSpec.ofChange viewForksSpec)

/-- ITS FALSE NEIGHBOUR: 'it returns false'. Refute it at one input. -/
def viewForksWrong : ChangeSpec := { name := "viewForks", fn := fun _ => fun
  | [d1, d2] => { results := [.lit (.bool false)], args := [d1, d2] }
  | _ => none }
def ViewForksWrongFalsely : Prop := viewForksRow.holds Tryz.pinned (OpenSpec.ofChange viewForksWrong)

/-- 'vulgatelaw19.ViewStates': WHATEVER THE INPUT: true; the input reads as it did. -/
def viewStatesSpec : ChangeSpec := { name := "viewStates", fn := fun _ => fun
  | [d] => { results := [.lit (.bool true)], args := [d] }
  | _ => none }
def viewStatesRow : OpenClaim := { program := "yteepjgdieciogaagreatdoor", sum := "811f1427d66342a68afec3ae402c1422aabefd23ffe2a12f3fbec43e17bfe5be", func := "vulgate/vulgatelaw19.ViewStates", spec := "viewStates", inPlace := ["internal/bytealg.IndexByte", "internal/bytealg.IndexByteString", "internal/bytealg.IndexString", "internal/bytealg.CountString"], unfollowed := true, recurses := true, named := ["unicode/utf8.first", "unicode/utf8.acceptRanges", "internal/bytealg.MaxLen"], plainKeys := false, apart := false, laid := [("unicode/utf8.acceptRanges", laid_unicode_utf8_acceptRanges), ("unicode/utf8.first", laid_unicode_utf8_first)] }
def ViewStatesSaid : Prop := viewStatesRow.holds Tryz.pinned (OpenSpec.ofChange viewStatesSpec)

/-- ITS FALSE NEIGHBOUR: 'it returns false'. Refute it at one input. -/
def viewStatesWrong : ChangeSpec := { name := "viewStates", fn := fun _ => fun
  | [d] => { results := [.lit (.bool false)], args := [d] }
  | _ => none }
def ViewStatesWrongFalsely : Prop := viewStatesRow.holds Tryz.pinned (OpenSpec.ofChange viewStatesWrong)

/-- 'vulgatelaw22.RoleChecks': WHATEVER THE INPUT: true; the input reads as it did. -/
def roleChecksSpec : ChangeSpec := { name := "roleChecks", fn := fun _ => fun
  | [d1, d2, d3] => { results := [.lit (.bool true)], args := [d1, d2, d3] }
  | _ => none }
def roleChecksRow : OpenClaim := { program := "yteepjgdieciogaagreatdoor", sum := "811f1427d66342a68afec3ae402c1422aabefd23ffe2a12f3fbec43e17bfe5be", func := "vulgate/vulgatelaw22.RoleChecks", spec := "roleChecks", inPlace := ["internal/bytealg.IndexByte", "internal/bytealg.IndexByteString", "internal/bytealg.IndexString", "internal/bytealg.CountString"], unfollowed := true, recurses := true, named := ["unicode/utf8.first", "unicode/utf8.acceptRanges", "internal/bytealg.MaxLen"], plainKeys := false, apart := false, laid := [("unicode/utf8.acceptRanges", laid_unicode_utf8_acceptRanges), ("unicode/utf8.first", laid_unicode_utf8_first)] }
def RoleChecksSaid : Prop := roleChecksRow.holds Tryz.pinned (OpenSpec.ofChange roleChecksSpec)

/-- ITS FALSE NEIGHBOUR: 'it returns false'. Refute it at one input. -/
def roleChecksWrong : ChangeSpec := { name := "roleChecks", fn := fun _ => fun
  | [d1, d2, d3] => { results := [.lit (.bool false)], args := [d1, d2, d3] }
  | _ => none }
def RoleChecksWrongFalsely : Prop := roleChecksRow.holds Tryz.pinned (OpenSpec.ofChange roleChecksWrong)

/-- 'vulgatelaw20.FallParents': WHATEVER THE INPUT: true; the input reads as it did. -/
def fallParentsSpec : ChangeSpec := { name := "fallParents", fn := fun _ => fun
  | [d1, d2] => { results := [.lit (.bool true)], args := [d1, d2] }
  | _ => none }
def fallParentsRow : OpenClaim := { program := "yteepjgdieciogaagreatdoor", sum := "811f1427d66342a68afec3ae402c1422aabefd23ffe2a12f3fbec43e17bfe5be", func := "vulgate/vulgatelaw20.FallParents", spec := "fallParents", inPlace := ["internal/bytealg.IndexByte", "internal/bytealg.IndexByteString", "internal/bytealg.IndexString", "internal/bytealg.CountString"], unfollowed := true, recurses := true, named := ["unicode/utf8.first", "unicode/utf8.acceptRanges", "internal/bytealg.MaxLen"], plainKeys := false, apart := false, laid := [("unicode/utf8.acceptRanges", laid_unicode_utf8_acceptRanges), ("unicode/utf8.first", laid_unicode_utf8_first)] }
def FallParentsSaid : Prop := fallParentsRow.holds Tryz.pinned (OpenSpec.ofChange fallParentsSpec)

/-- ITS FALSE NEIGHBOUR: 'it returns false'. Refute it at one input. -/
def fallParentsWrong : ChangeSpec := { name := "fallParents", fn := fun _ => fun
  | [d1, d2] => { results := [.lit (.bool false)], args := [d1, d2] }
  | _ => none }
def FallParentsWrongFalsely : Prop := fallParentsRow.holds Tryz.pinned (OpenSpec.ofChange fallParentsWrong)

/-- 'vulgatelaw20.FallGets': WHATEVER THE INPUT: true; the input reads as it did. -/
def fallGetsSpec : ChangeSpec := { name := "fallGets", fn := fun _ => fun
  | [d1, d2] => { results := [.lit (.bool true)], args := [d1, d2] }
  | _ => none }
def fallGetsRow : OpenClaim := { program := "yteepjgdieciogaagreatdoor", sum := "811f1427d66342a68afec3ae402c1422aabefd23ffe2a12f3fbec43e17bfe5be", func := "vulgate/vulgatelaw20.FallGets", spec := "fallGets", inPlace := ["internal/bytealg.IndexByte", "internal/bytealg.IndexByteString", "internal/bytealg.IndexString", "internal/bytealg.CountString"], unfollowed := true, recurses := true, named := ["unicode/utf8.first", "unicode/utf8.acceptRanges", "internal/bytealg.MaxLen"], plainKeys := false, apart := false, laid := [("unicode/utf8.acceptRanges", laid_unicode_utf8_acceptRanges), ("unicode/utf8.first", laid_unicode_utf8_first)] }
def FallGetsSaid : Prop := fallGetsRow.holds Tryz.pinned (OpenSpec.ofChange fallGetsSpec)

/-- ITS FALSE NEIGHBOUR: 'it returns false'. Refute it at one input. -/
def fallGetsWrong : ChangeSpec := { name := "fallGets", fn := fun _ => fun
  | [d1, d2] => { results := [.lit (.bool false)], args := [d1, d2] }
  | _ => none }
def FallGetsWrongFalsely : Prop := fallGetsRow.holds Tryz.pinned (OpenSpec.ofChange fallGetsWrong)

/- THE SECOND FORM. 'bulk': how many values and letters a reading holds, each counted each time it is reached (what is shared counts as often as it is met; a slice's spare places count too). A statement '..UptoSaid' is the law's where the arguments, and the package variables that the reading takes, are together of bulk at most 1048576: NARROWER than '..Said'. Prove '..Said' where nothing that the law and all that it calls make is longer than what came in: it says more and counts as full. Else prove '..UptoSaid'. A law counts once. -/
mutual
def uptoBulk {H : Type} : DataW H → Nat
  | .lit (.string bytes) => bytes.length + 1
  | .lit _ => 1
  | .nil => 1
  | .ptr d => uptoBulk d + 1
  | .slice elems spare => uptoBulkAll elems + uptoBulkAll spare + 1
  | .agg parts => uptoBulkAll parts + 1
  | .iface _ d => uptoBulk d + 1
  | .map entries => uptoBulkEntries entries + 1
  | .held _ => 1
def uptoBulkAll {H : Type} : List (DataW H) → Nat
  | [] => 0
  | d :: r => uptoBulk d + uptoBulkAll r
def uptoBulkEntries {H : Type} : List (Lit × DataW H) → Nat
  | [] => 0
  | x :: r => uptoBulkEntry x + uptoBulkEntries r
def uptoBulkEntry {H : Type} : Lit × DataW H → Nat
  | (.string bytes, d) => bytes.length + uptoBulk d + 1
  | (_, d) => uptoBulk d + 1
 end
def uptoSmall : (H : Type) → List (DataW H) → Bool := fun _ ds => decide (uptoBulkAll ds ≤ 1048576)
def OpenSpec.upto (s : _root_.Go.ChangeSpec) : _root_.Go.OpenSpec := { _root_.Go.OpenSpec.ofChange s with cond := some uptoSmall }

/-- 'vulgatelaw19.ViewForks', WHERE WHAT IT READS IS OF BULK AT MOST 1048576: true; the input reads as it did. -/
def viewForksUptoRow : OpenClaim := { program := "yteepjgdieciogaagreatdoor", sum := "811f1427d66342a68afec3ae402c1422aabefd23ffe2a12f3fbec43e17bfe5be", func := "vulgate/vulgatelaw19.ViewForks", spec := "viewForks", inPlace := ["internal/bytealg.IndexByte", "internal/bytealg.IndexByteString", "internal/bytealg.IndexString", "internal/bytealg.CountString"], unfollowed := true, recurses := true, named := ["unicode/utf8.first", "unicode/utf8.acceptRanges", "internal/bytealg.MaxLen"], plainKeys := false, apart := false, laid := [("unicode/utf8.acceptRanges", laid_unicode_utf8_acceptRanges), ("unicode/utf8.first", laid_unicode_utf8_first)], narrowed := true }
def ViewForksUptoSaid : Prop := viewForksUptoRow.holds Tryz.pinned (OpenSpec.upto viewForksSpec)

/-- 'vulgatelaw19.ViewStates', WHERE WHAT IT READS IS OF BULK AT MOST 1048576: true; the input reads as it did. -/
def viewStatesUptoRow : OpenClaim := { program := "yteepjgdieciogaagreatdoor", sum := "811f1427d66342a68afec3ae402c1422aabefd23ffe2a12f3fbec43e17bfe5be", func := "vulgate/vulgatelaw19.ViewStates", spec := "viewStates", inPlace := ["internal/bytealg.IndexByte", "internal/bytealg.IndexByteString", "internal/bytealg.IndexString", "internal/bytealg.CountString"], unfollowed := true, recurses := true, named := ["unicode/utf8.first", "unicode/utf8.acceptRanges", "internal/bytealg.MaxLen"], plainKeys := false, apart := false, laid := [("unicode/utf8.acceptRanges", laid_unicode_utf8_acceptRanges), ("unicode/utf8.first", laid_unicode_utf8_first)], narrowed := true }
def ViewStatesUptoSaid : Prop := viewStatesUptoRow.holds Tryz.pinned (OpenSpec.upto viewStatesSpec)

/-- 'vulgatelaw22.RoleChecks', WHERE WHAT IT READS IS OF BULK AT MOST 1048576: true; the input reads as it did. -/
def roleChecksUptoRow : OpenClaim := { program := "yteepjgdieciogaagreatdoor", sum := "811f1427d66342a68afec3ae402c1422aabefd23ffe2a12f3fbec43e17bfe5be", func := "vulgate/vulgatelaw22.RoleChecks", spec := "roleChecks", inPlace := ["internal/bytealg.IndexByte", "internal/bytealg.IndexByteString", "internal/bytealg.IndexString", "internal/bytealg.CountString"], unfollowed := true, recurses := true, named := ["unicode/utf8.first", "unicode/utf8.acceptRanges", "internal/bytealg.MaxLen"], plainKeys := false, apart := false, laid := [("unicode/utf8.acceptRanges", laid_unicode_utf8_acceptRanges), ("unicode/utf8.first", laid_unicode_utf8_first)], narrowed := true }
def RoleChecksUptoSaid : Prop := roleChecksUptoRow.holds Tryz.pinned (OpenSpec.upto roleChecksSpec)

/-- 'vulgatelaw20.FallParents', WHERE WHAT IT READS IS OF BULK AT MOST 1048576: true; the input reads as it did. -/
def fallParentsUptoRow : OpenClaim := { program := "yteepjgdieciogaagreatdoor", sum := "811f1427d66342a68afec3ae402c1422aabefd23ffe2a12f3fbec43e17bfe5be", func := "vulgate/vulgatelaw20.FallParents", spec := "fallParents", inPlace := ["internal/bytealg.IndexByte", "internal/bytealg.IndexByteString", "internal/bytealg.IndexString", "internal/bytealg.CountString"], unfollowed := true, recurses := true, named := ["unicode/utf8.first", "unicode/utf8.acceptRanges", "internal/bytealg.MaxLen"], plainKeys := false, apart := false, laid := [("unicode/utf8.acceptRanges", laid_unicode_utf8_acceptRanges), ("unicode/utf8.first", laid_unicode_utf8_first)], narrowed := true }
def FallParentsUptoSaid : Prop := fallParentsUptoRow.holds Tryz.pinned (OpenSpec.upto fallParentsSpec)

/-- 'vulgatelaw20.FallGets', WHERE WHAT IT READS IS OF BULK AT MOST 1048576: true; the input reads as it did. -/
def fallGetsUptoRow : OpenClaim := { program := "yteepjgdieciogaagreatdoor", sum := "811f1427d66342a68afec3ae402c1422aabefd23ffe2a12f3fbec43e17bfe5be", func := "vulgate/vulgatelaw20.FallGets", spec := "fallGets", inPlace := ["internal/bytealg.IndexByte", "internal/bytealg.IndexByteString", "internal/bytealg.IndexString", "internal/bytealg.CountString"], unfollowed := true, recurses := true, named := ["unicode/utf8.first", "unicode/utf8.acceptRanges", "internal/bytealg.MaxLen"], plainKeys := false, apart := false, laid := [("unicode/utf8.acceptRanges", laid_unicode_utf8_acceptRanges), ("unicode/utf8.first", laid_unicode_utf8_first)], narrowed := true }
def FallGetsUptoSaid : Prop := fallGetsUptoRow.holds Tryz.pinned (OpenSpec.upto fallGetsSpec)

end Rows
end Go.Proofs.YteepjgdieciogaaGreatDoor
