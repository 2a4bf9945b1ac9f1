/-
  NARROWER THAN 'FOR EVERY INPUT', by the rows' own cells (each row's printed sentence says how): FallParents: laid · FallGets: laid · ViewNames: laid · ViewNil: laid · FallTables: laid.
  DERIVED. THE GIVEN ROWS OF THIS SEAT. 5 by the template 'for every input the law returns true; each argument reads behind the call as it read before'; 0 by the template 'total and deterministic' (their statements: YtcedmfnlkelhkaaGreatDoorTotals.lean).
  GIVEN WITH THE SEED: the statements are not yours to turn. If you find one false, say at which input.
  Laid BY PROGRAM, IN A SANDBOX (cutbox-rows.mjs): the forced cells as the released guide's own fill.sh prints them over the translation eeb3816338bb37e6… (all of the seat's roots in one cut). By AI agents, Wed Nov 11 2026. No macro, syntax, notation, axiom, sorry.
-/
import Derived.Test.YtcedmfnlkelhkaaGreatDoorChecked
import GoSem.PinnedTables
import GoSem.Claim
import GoSem.ClaimJoined
import GoSem.ClaimMapViews
import Derived.JoinedTies
import Derived.KernelRfl
namespace Go.Proofs.YtcedmfnlkelhkaaGreatDoor
/- THE CELL 'sum', in the pinned program and in every row, IS THE sha256 OF THE DUMP (.gsa) THAT YtcedmfnlkelhkaaGreatDoorProg.lean LOADS. Nothing in Lean hashes anything: it is a label: what it is worth is what the hold of that sum in a sandbox is worth. -/
noncomputable def Tryz.pinned : Pinned := { name := "ytcedmfnlkelhkaagreatdoor", sum := "eeb3816338bb37e62e99fe69080f14cda2430a22faf2c3e742ca5de81950d5a0", checked := Tryz.checked }
namespace Rows
def none {H : Type} : Left H := { results := [], args := [] }

/- WHAT THE LISTED PACKAGE-LEVEL VARIABLES READ AS WHEN THE CALL BEGINS. Each datum BY PROGRAM (the guide's laid-datum.mjs) off the statement by which the dump's own 'gosem.cut.vars' lays the variable. In a bare row this is a premise. The card (YtcedmfnlkelhkaaGreatDoorCards.lean) ties it to the program's text. -/
def laid_unicode_utf8_acceptRanges {H : Type} : DataW H := .agg [.agg [.lit (.int .u8 128), .lit (.int .u8 191)], .agg [.lit (.int .u8 160), .lit (.int .u8 191)], .agg [.lit (.int .u8 128), .lit (.int .u8 159)], .agg [.lit (.int .u8 144), .lit (.int .u8 191)], .agg [.lit (.int .u8 128), .lit (.int .u8 143)], .agg [.lit (.int .u8 0), .lit (.int .u8 0)], .agg [.lit (.int .u8 0), .lit (.int .u8 0)], .agg [.lit (.int .u8 0), .lit (.int .u8 0)], .agg [.lit (.int .u8 0), .lit (.int .u8 0)], .agg [.lit (.int .u8 0), .lit (.int .u8 0)], .agg [.lit (.int .u8 0), .lit (.int .u8 0)], .agg [.lit (.int .u8 0), .lit (.int .u8 0)], .agg [.lit (.int .u8 0), .lit (.int .u8 0)], .agg [.lit (.int .u8 0), .lit (.int .u8 0)], .agg [.lit (.int .u8 0), .lit (.int .u8 0)], .agg [.lit (.int .u8 0), .lit (.int .u8 0)]]
/-- One of Go's own tables, pinned by name: the form's constant. -/
def laid_unicode_utf8_first : DataW Unit := Go.Pinned.utf8First

/-- 'vulgatelaw20.FallParents': WHATEVER THE INPUT: true; the input reads as it did. -/
def fallParentsSpec : ChangeSpec := { name := "fallParents", fn := fun _ => fun
  | [d1, d2] => { results := [.lit (.bool true)], args := [d1, d2] }
  | _ => none }
def fallParentsRow : OpenClaim := { program := "ytcedmfnlkelhkaagreatdoor", sum := "eeb3816338bb37e62e99fe69080f14cda2430a22faf2c3e742ca5de81950d5a0", func := "vulgate/vulgatelaw20.FallParents", spec := "fallParents", inPlace := ["internal/bytealg.IndexByte", "internal/bytealg.IndexByteString", "internal/bytealg.IndexString", "internal/bytealg.CountString"], unfollowed := true, recurses := true, named := ["unicode/utf8.first", "unicode/utf8.acceptRanges", "internal/bytealg.MaxLen"], plainKeys := false, apart := false, laid := [("unicode/utf8.acceptRanges", laid_unicode_utf8_acceptRanges), ("unicode/utf8.first", laid_unicode_utf8_first)] }
def FallParentsSaid : Prop := fallParentsRow.holds Tryz.pinned (OpenSpec.ofChange fallParentsSpec)

/-- ITS FALSE NEIGHBOUR: 'it returns false'. Refute it at one input. -/
def fallParentsWrong : ChangeSpec := { name := "fallParents", fn := fun _ => fun
  | [d1, d2] => { results := [.lit (.bool false)], args := [d1, d2] }
  | _ => none }
def FallParentsWrongFalsely : Prop := fallParentsRow.holds Tryz.pinned (OpenSpec.ofChange fallParentsWrong)

/-- 'vulgatelaw20.FallGets': WHATEVER THE INPUT: true; the input reads as it did. -/
def fallGetsSpec : ChangeSpec := { name := "fallGets", fn := fun _ => fun
  | [d1, d2] => { results := [.lit (.bool true)], args := [d1, d2] }
  | _ => none }
def fallGetsRow : OpenClaim := { program := "ytcedmfnlkelhkaagreatdoor", sum := "eeb3816338bb37e62e99fe69080f14cda2430a22faf2c3e742ca5de81950d5a0", func := "vulgate/vulgatelaw20.FallGets", spec := "fallGets", inPlace := ["internal/bytealg.IndexByte", "internal/bytealg.IndexByteString", "internal/bytealg.IndexString", "internal/bytealg.CountString"], unfollowed := true, recurses := true, named := ["unicode/utf8.first", "unicode/utf8.acceptRanges", "internal/bytealg.MaxLen"], plainKeys := false, apart := false, laid := [("unicode/utf8.acceptRanges", laid_unicode_utf8_acceptRanges), ("unicode/utf8.first", laid_unicode_utf8_first)] }
def FallGetsSaid : Prop := fallGetsRow.holds Tryz.pinned (OpenSpec.ofChange fallGetsSpec)

/-- ITS FALSE NEIGHBOUR: 'it returns false'. Refute it at one input. -/
def fallGetsWrong : ChangeSpec := { name := "fallGets", fn := fun _ => fun
  | [d1, d2] => { results := [.lit (.bool false)], args := [d1, d2] }
  | _ => none }
def FallGetsWrongFalsely : Prop := fallGetsRow.holds Tryz.pinned (OpenSpec.ofChange fallGetsWrong)

/-- 'vulgatelaw19.ViewNames': WHATEVER THE INPUT: true; the input reads as it did. -/
def viewNamesSpec : ChangeSpec := { name := "viewNames", fn := fun _ => fun
  | [d] => { results := [.lit (.bool true)], args := [d] }
  | _ => none }
def viewNamesRow : OpenClaim := { program := "ytcedmfnlkelhkaagreatdoor", sum := "eeb3816338bb37e62e99fe69080f14cda2430a22faf2c3e742ca5de81950d5a0", func := "vulgate/vulgatelaw19.ViewNames", spec := "viewNames", inPlace := ["internal/bytealg.IndexByte", "internal/bytealg.IndexByteString", "internal/bytealg.IndexString", "internal/bytealg.CountString", "internal/bytealg.Compare"], unfollowed := true, recurses := true, named := ["unicode/utf8.first", "unicode/utf8.acceptRanges", "internal/bytealg.MaxLen"], plainKeys := false, apart := false, laid := [("unicode/utf8.acceptRanges", laid_unicode_utf8_acceptRanges), ("unicode/utf8.first", laid_unicode_utf8_first)] }
def ViewNamesSaid : Prop := viewNamesRow.holds Tryz.pinned (OpenSpec.ofChange viewNamesSpec)

/-- ITS FALSE NEIGHBOUR: 'it returns false'. Refute it at one input. -/
def viewNamesWrong : ChangeSpec := { name := "viewNames", fn := fun _ => fun
  | [d] => { results := [.lit (.bool false)], args := [d] }
  | _ => none }
def ViewNamesWrongFalsely : Prop := viewNamesRow.holds Tryz.pinned (OpenSpec.ofChange viewNamesWrong)

/-- 'vulgatelaw19.ViewNil': WHATEVER THE INPUT: true; the input reads as it did. -/
def viewNilSpec : ChangeSpec := { name := "viewNil", fn := fun _ => fun
  | [d1, d2, d3, d4, d5] => { results := [.lit (.bool true)], args := [d1, d2, d3, d4, d5] }
  | _ => none }
def viewNilRow : OpenClaim := { program := "ytcedmfnlkelhkaagreatdoor", sum := "eeb3816338bb37e62e99fe69080f14cda2430a22faf2c3e742ca5de81950d5a0", func := "vulgate/vulgatelaw19.ViewNil", spec := "viewNil", inPlace := ["internal/bytealg.IndexByte", "internal/bytealg.IndexByteString", "internal/bytealg.IndexString", "internal/bytealg.CountString", "internal/bytealg.Compare"], unfollowed := true, recurses := true, named := ["unicode/utf8.first", "unicode/utf8.acceptRanges", "internal/bytealg.MaxLen"], plainKeys := false, apart := false, laid := [("unicode/utf8.acceptRanges", laid_unicode_utf8_acceptRanges), ("unicode/utf8.first", laid_unicode_utf8_first)] }
def ViewNilSaid : Prop := viewNilRow.holds Tryz.pinned (OpenSpec.ofChange viewNilSpec)

/-- ITS FALSE NEIGHBOUR: 'it returns false'. Refute it at one input. -/
def viewNilWrong : ChangeSpec := { name := "viewNil", fn := fun _ => fun
  | [d1, d2, d3, d4, d5] => { results := [.lit (.bool false)], args := [d1, d2, d3, d4, d5] }
  | _ => none }
def ViewNilWrongFalsely : Prop := viewNilRow.holds Tryz.pinned (OpenSpec.ofChange viewNilWrong)

/-- 'vulgatelaw20.FallTables': WHATEVER THE INPUT: true; the input reads as it did. -/
def fallTablesSpec : ChangeSpec := { name := "fallTables", fn := fun _ => fun
  | [d1, d2] => { results := [.lit (.bool true)], args := [d1, d2] }
  | _ => none }
def fallTablesRow : OpenClaim := { program := "ytcedmfnlkelhkaagreatdoor", sum := "eeb3816338bb37e62e99fe69080f14cda2430a22faf2c3e742ca5de81950d5a0", func := "vulgate/vulgatelaw20.FallTables", spec := "fallTables", inPlace := ["internal/bytealg.IndexByte", "internal/bytealg.IndexByteString", "internal/bytealg.IndexString", "internal/bytealg.CountString", "internal/bytealg.Compare"], unfollowed := true, recurses := true, named := ["unicode/utf8.first", "unicode/utf8.acceptRanges", "internal/bytealg.MaxLen"], plainKeys := false, apart := false, laid := [("unicode/utf8.acceptRanges", laid_unicode_utf8_acceptRanges), ("unicode/utf8.first", laid_unicode_utf8_first)] }
def FallTablesSaid : Prop := fallTablesRow.holds Tryz.pinned (OpenSpec.ofChange fallTablesSpec)

/-- ITS FALSE NEIGHBOUR: 'it returns false'. Refute it at one input. -/
def fallTablesWrong : ChangeSpec := { name := "fallTables", fn := fun _ => fun
  | [d1, d2] => { results := [.lit (.bool false)], args := [d1, d2] }
  | _ => none }
def FallTablesWrongFalsely : Prop := fallTablesRow.holds Tryz.pinned (OpenSpec.ofChange fallTablesWrong)

/- THE SECOND FORM. 'bulk': how many values and letters a reading holds, each counted each time it is reached (what is shared counts as often as it is met; a slice's spare places count too). A statement '..UptoSaid' is the law's where the arguments, and the package variables that the reading takes, are together of bulk at most 1048576: NARROWER than '..Said'. Prove '..Said' where nothing that the law and all that it calls make is longer than what came in: it says more and counts as full. Else prove '..UptoSaid'. A law counts once. -/
mutual
def uptoBulk {H : Type} : DataW H → Nat
  | .lit (.string bytes) => bytes.length + 1
  | .lit _ => 1
  | .nil => 1
  | .ptr d => uptoBulk d + 1
  | .slice elems spare => uptoBulkAll elems + uptoBulkAll spare + 1
  | .agg parts => uptoBulkAll parts + 1
  | .iface _ d => uptoBulk d + 1
  | .map entries => uptoBulkEntries entries + 1
  | .held _ => 1
def uptoBulkAll {H : Type} : List (DataW H) → Nat
  | [] => 0
  | d :: r => uptoBulk d + uptoBulkAll r
def uptoBulkEntries {H : Type} : List (Lit × DataW H) → Nat
  | [] => 0
  | x :: r => uptoBulkEntry x + uptoBulkEntries r
def uptoBulkEntry {H : Type} : Lit × DataW H → Nat
  | (.string bytes, d) => bytes.length + uptoBulk d + 1
  | (_, d) => uptoBulk d + 1
 end
def uptoSmall : (H : Type) → List (DataW H) → Bool := fun _ ds => decide (uptoBulkAll ds ≤ 1048576)
def OpenSpec.upto (s : _root_.Go.ChangeSpec) : _root_.Go.OpenSpec := { _root_.Go.OpenSpec.ofChange s with cond := some uptoSmall }

/-- 'vulgatelaw20.FallParents', WHERE WHAT IT READS IS OF BULK AT MOST 1048576: true; the input reads as it did. -/
def fallParentsUptoRow : OpenClaim := { program := "ytcedmfnlkelhkaagreatdoor", sum := "eeb3816338bb37e62e99fe69080f14cda2430a22faf2c3e742ca5de81950d5a0", func := "vulgate/vulgatelaw20.FallParents", spec := "fallParents", inPlace := ["internal/bytealg.IndexByte", "internal/bytealg.IndexByteString", "internal/bytealg.IndexString", "internal/bytealg.CountString"], unfollowed := true, recurses := true, named := ["unicode/utf8.first", "unicode/utf8.acceptRanges", "internal/bytealg.MaxLen"], plainKeys := false, apart := false, laid := [("unicode/utf8.acceptRanges", laid_unicode_utf8_acceptRanges), ("unicode/utf8.first", laid_unicode_utf8_first)], narrowed := true }
def FallParentsUptoSaid : Prop := fallParentsUptoRow.holds Tryz.pinned (OpenSpec.upto fallParentsSpec)

/-- 'vulgatelaw20.FallGets', WHERE WHAT IT READS IS OF BULK AT MOST 1048576: true; the input reads as it did. -/
def fallGetsUptoRow : OpenClaim := { program := "ytcedmfnlkelhkaagreatdoor", sum := "eeb3816338bb37e62e99fe69080f14cda2430a22faf2c3e742ca5de81950d5a0", func := "vulgate/vulgatelaw20.FallGets", spec := "fallGets", inPlace := ["internal/bytealg.IndexByte", "internal/bytealg.IndexByteString", "internal/bytealg.IndexString", "internal/bytealg.CountString"], unfollowed := true, recurses := true, named := ["unicode/utf8.first", "unicode/utf8.acceptRanges", "internal/bytealg.MaxLen"], plainKeys := false, apart := false, laid := [("unicode/utf8.acceptRanges", laid_unicode_utf8_acceptRanges), ("unicode/utf8.first", laid_unicode_utf8_first)], narrowed := true }
def FallGetsUptoSaid : Prop := fallGetsUptoRow.holds Tryz.pinned (OpenSpec.upto fallGetsSpec)

/-- 'vulgatelaw19.ViewNames', WHERE WHAT IT READS IS OF BULK AT MOST 1048576: true; the input reads as it did. -/
def viewNamesUptoRow : OpenClaim := { program := "ytcedmfnlkelhkaagreatdoor", sum := "eeb3816338bb37e62e99fe69080f14cda2430a22faf2c3e742ca5de81950d5a0", func := "vulgate/vulgatelaw19.ViewNames", spec := "viewNames", inPlace := ["internal/bytealg.IndexByte", "internal/bytealg.IndexByteString", "internal/bytealg.IndexString", "internal/bytealg.CountString", "internal/bytealg.Compare"], unfollowed := true, recurses := true, named := ["unicode/utf8.first", "unicode/utf8.acceptRanges", "internal/bytealg.MaxLen"], plainKeys := false, apart := false, laid := [("unicode/utf8.acceptRanges", laid_unicode_utf8_acceptRanges), ("unicode/utf8.first", laid_unicode_utf8_first)], narrowed := true }
def ViewNamesUptoSaid : Prop := viewNamesUptoRow.holds Tryz.pinned (OpenSpec.upto viewNamesSpec)

/-- 'vulgatelaw19.ViewNil', WHERE WHAT IT READS IS OF BULK AT MOST 1048576: true; the input reads as it did. -/
def viewNilUptoRow : OpenClaim := { program := "ytcedmfnlkelhkaagreatdoor", sum := "eeb3816338bb37e62e99fe69080f14cda2430a22faf2c3e742ca5de81950d5a0", func := "vulgate/vulgatelaw19.ViewNil", spec := "viewNil", inPlace := ["internal/bytealg.IndexByte", "internal/bytealg.IndexByteString", "internal/bytealg.IndexString", "internal/bytealg.CountString", "internal/bytealg.Compare"], unfollowed := true, recurses := true, named := ["unicode/utf8.first", "unicode/utf8.acceptRanges", "internal/bytealg.MaxLen"], plainKeys := false, apart := false, laid := [("unicode/utf8.acceptRanges", laid_unicode_utf8_acceptRanges), ("unicode/utf8.first", laid_unicode_utf8_first)], narrowed := true }
def ViewNilUptoSaid : Prop := viewNilUptoRow.holds Tryz.pinned (OpenSpec.upto viewNilSpec)

/-- 'vulgatelaw20.FallTables', WHERE WHAT IT READS IS OF BULK AT MOST 1048576: true; the input reads as it did. -/
def fallTablesUptoRow : OpenClaim := { program := "ytcedmfnlkelhkaagreatdoor", sum := "eeb3816338bb37e62e99fe69080f14cda2430a22faf2c3e742ca5de81950d5a0", func := "vulgate/vulgatelaw20.FallTables", spec := "fallTables", inPlace := ["internal/bytealg.IndexByte", "internal/bytealg.IndexByteString", "internal/bytealg.IndexString", "internal/bytealg.CountString", "internal/bytealg.Compare"], unfollowed := true, recurses := true, named := ["unicode/utf8.first", "unicode/utf8.acceptRanges", "internal/bytealg.MaxLen"], plainKeys := false, apart := false, laid := [("unicode/utf8.acceptRanges", laid_unicode_utf8_acceptRanges), ("unicode/utf8.first", laid_unicode_utf8_first)], narrowed := true }
def FallTablesUptoSaid : Prop := fallTablesUptoRow.holds Tryz.pinned (OpenSpec.upto fallTablesSpec)

end Rows
end Go.Proofs.YtcedmfnlkelhkaaGreatDoor
