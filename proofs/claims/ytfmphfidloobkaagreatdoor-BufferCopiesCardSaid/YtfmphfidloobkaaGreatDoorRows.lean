/-
  NARROWER THAN 'FOR EVERY INPUT', by the rows' own cells (each row's printed sentence says how): StoreChecks: laid · ViewForks: laid · ViewStates: laid · BufferPlays: laid · BufferCopies: laid · IntentPlays: laid.
  DERIVED. THE GIVEN ROWS OF THIS SEAT. 6 by the template 'for every input the law returns true; each argument reads behind the call as it read before'; 0 by the template 'total and deterministic' (their statements: YtfmphfidloobkaaGreatDoorTotals.lean).
  GIVEN WITH THE SEED: the statements are not yours to turn. If you find one false, say at which input.
  Laid BY PROGRAM, IN A SANDBOX (cutbox-rows.mjs): the forced cells as the released guide's own fill.sh prints them over the translation 54e98780f12e8bd0… (all of the seat's roots in one cut). By AI agents, Wed Nov 11 2026. No macro, syntax, notation, axiom, sorry.
-/
import Derived.Test.YtfmphfidloobkaaGreatDoorChecked
import GoSem.PinnedTables
import GoSem.Claim
import GoSem.ClaimJoined
import GoSem.ClaimMapViews
import Derived.JoinedTies
import Derived.KernelRfl
namespace Go.Proofs.YtfmphfidloobkaaGreatDoor
/- THE CELL 'sum', in the pinned program and in every row, IS THE sha256 OF THE DUMP (.gsa) THAT YtfmphfidloobkaaGreatDoorProg.lean LOADS. Nothing in Lean hashes anything: it is a label: what it is worth is what the hold of that sum in a sandbox is worth. -/
noncomputable def Tryz.pinned : Pinned := { name := "ytfmphfidloobkaagreatdoor", sum := "54e98780f12e8bd0c8d63421ea51024e415c9f7e8415dc68b2c58998032cc5b4", checked := Tryz.checked }
namespace Rows
def none {H : Type} : Left H := { results := [], args := [] }

/- WHAT THE LISTED PACKAGE-LEVEL VARIABLES READ AS WHEN THE CALL BEGINS. Each datum BY PROGRAM (the guide's laid-datum.mjs) off the statement by which the dump's own 'gosem.cut.vars' lays the variable. In a bare row this is a premise. The card (YtfmphfidloobkaaGreatDoorCards.lean) ties it to the program's text. -/
def laid_unicode_utf8_acceptRanges {H : Type} : DataW H := .agg [.agg [.lit (.int .u8 128), .lit (.int .u8 191)], .agg [.lit (.int .u8 160), .lit (.int .u8 191)], .agg [.lit (.int .u8 128), .lit (.int .u8 159)], .agg [.lit (.int .u8 144), .lit (.int .u8 191)], .agg [.lit (.int .u8 128), .lit (.int .u8 143)], .agg [.lit (.int .u8 0), .lit (.int .u8 0)], .agg [.lit (.int .u8 0), .lit (.int .u8 0)], .agg [.lit (.int .u8 0), .lit (.int .u8 0)], .agg [.lit (.int .u8 0), .lit (.int .u8 0)], .agg [.lit (.int .u8 0), .lit (.int .u8 0)], .agg [.lit (.int .u8 0), .lit (.int .u8 0)], .agg [.lit (.int .u8 0), .lit (.int .u8 0)], .agg [.lit (.int .u8 0), .lit (.int .u8 0)], .agg [.lit (.int .u8 0), .lit (.int .u8 0)], .agg [.lit (.int .u8 0), .lit (.int .u8 0)], .agg [.lit (.int .u8 0), .lit (.int .u8 0)]]
/-- One of Go's own tables, pinned by name: the form's constant. -/
def laid_unicode_utf8_first : DataW Unit := Go.Pinned.utf8First

/-- 'vulgatelaw14.StoreChecks': WHATEVER THE INPUT: true; the input reads as it did. -/
def storeChecksSpec : ChangeSpec := { name := "storeChecks", fn := fun _ => fun
  | [d] => { results := [.lit (.bool true)], args := [d] }
  | _ => none }
def storeChecksRow : OpenClaim := { program := "ytfmphfidloobkaagreatdoor", sum := "54e98780f12e8bd0c8d63421ea51024e415c9f7e8415dc68b2c58998032cc5b4", func := "vulgate/vulgatelaw14.StoreChecks", spec := "storeChecks", inPlace := ["internal/bytealg.IndexByte", "internal/bytealg.IndexByteString", "internal/bytealg.IndexString", "internal/bytealg.CountString"], unfollowed := true, recurses := true, named := ["unicode/utf8.first", "unicode/utf8.acceptRanges", "internal/bytealg.MaxLen"], plainKeys := false, apart := false, laid := [("unicode/utf8.acceptRanges", laid_unicode_utf8_acceptRanges), ("unicode/utf8.first", laid_unicode_utf8_first)] }
def StoreChecksSaid : Prop := storeChecksRow.holds Tryz.pinned (OpenSpec.ofChange storeChecksSpec)

/-- ITS FALSE NEIGHBOUR: 'it returns false'. Refute it at one input. -/
def storeChecksWrong : ChangeSpec := { name := "storeChecks", fn := fun _ => fun
  | [d] => { results := [.lit (.bool false)], args := [d] }
  | _ => none }
def StoreChecksWrongFalsely : Prop := storeChecksRow.holds Tryz.pinned (OpenSpec.ofChange storeChecksWrong)

/-- 'vulgatelaw19.ViewForks': WHATEVER THE INPUT: true; the input reads as it did. -/
def viewForksSpec : ChangeSpec := { name := "viewForks", fn := fun _ => fun
  | [d1, d2] => { results := [.lit (.bool true)], args := [d1, d2] }
  | _ => none }
def viewForksRow : OpenClaim := { program := "ytfmphfidloobkaagreatdoor", sum := "54e98780f12e8bd0c8d63421ea51024e415c9f7e8415dc68b2c58998032cc5b4", func := "vulgate/vulgatelaw19.ViewForks", spec := "viewForks", inPlace := ["internal/bytealg.IndexByte", "internal/bytealg.IndexByteString", "internal/bytealg.IndexString", "internal/bytealg.CountString"], unfollowed := true, recurses := true, named := ["unicode/utf8.first", "unicode/utf8.acceptRanges", "internal/bytealg.MaxLen"], plainKeys := false, apart := false, laid := [("unicode/utf8.acceptRanges", laid_unicode_utf8_acceptRanges), ("unicode/utf8.first", laid_unicode_utf8_first)] }
def ViewForksSaid : Prop := viewForksRow.holds Tryz.pinned (OpenSpec.ofChange viewForksSpec)

/-- ITS FALSE NEIGHBOUR: 'it returns false'. Refute it at one input. -/
def viewForksWrong : ChangeSpec := { name := "viewForks", fn := fun _ => fun
  | [d1, d2] => { results := [.lit (.bool false)], args := [d1, d2] }
  | _ => none }
def ViewForksWrongFalsely : Prop := viewForksRow.holds Tryz.pinned (OpenSpec.ofChange viewForksWrong)

/-- 'vulgatelaw19.ViewStates': WHATEVER THE INPUT: true; the input reads as it did. -/
def viewStatesSpec : ChangeSpec := { name := "viewStates", fn := fun _ => fun
  | [d] => { results := [.lit (.bool true)], args := [d] }
  | _ => none }
def viewStatesRow : OpenClaim := { program := "ytfmphfidloobkaagreatdoor", sum := "54e98780f12e8bd0c8d63421ea51024e415c9f7e8415dc68b2c58998032cc5b4", func := "vulgate/vulgatelaw19.ViewStates", spec := "viewStates", inPlace := ["internal/bytealg.IndexByte", "internal/bytealg.IndexByteString", "internal/bytealg.IndexString", "internal/bytealg.CountString"], unfollowed := true, recurses := true, named := ["unicode/utf8.first", "unicode/utf8.acceptRanges", "internal/bytealg.MaxLen"], plainKeys := false, apart := false, laid := [("unicode/utf8.acceptRanges", laid_unicode_utf8_acceptRanges), ("unicode/utf8.first", laid_unicode_utf8_first)] }
def ViewStatesSaid : Prop := viewStatesRow.holds Tryz.pinned (OpenSpec.ofChange viewStatesSpec)

/-- ITS FALSE NEIGHBOUR: 'it returns false'. Refute it at one input. -/
def viewStatesWrong : ChangeSpec := { name := "viewStates", fn := fun _ => fun
  | [d] => { results := [.lit (.bool false)], args := [d] }
  | _ => none }
def ViewStatesWrongFalsely : Prop := viewStatesRow.holds Tryz.pinned (OpenSpec.ofChange viewStatesWrong)

/-- 'vulgatelaw17.BufferPlays': WHATEVER THE INPUT: true; the input reads as it did. -/
def bufferPlaysSpec : ChangeSpec := { name := "bufferPlays", fn := fun _ => fun
  | [d1, d2] => { results := [.lit (.bool true)], args := [d1, d2] }
  | _ => none }
def bufferPlaysRow : OpenClaim := { program := "ytfmphfidloobkaagreatdoor", sum := "54e98780f12e8bd0c8d63421ea51024e415c9f7e8415dc68b2c58998032cc5b4", func := "vulgate/vulgatelaw17.BufferPlays", spec := "bufferPlays", inPlace := ["internal/bytealg.IndexByte", "internal/bytealg.IndexByteString", "internal/bytealg.IndexString", "internal/bytealg.CountString", "internal/bytealg.Compare"], unfollowed := true, recurses := true, named := ["unicode/utf8.first", "unicode/utf8.acceptRanges", "internal/bytealg.MaxLen"], plainKeys := false, apart := false, laid := [("unicode/utf8.acceptRanges", laid_unicode_utf8_acceptRanges), ("unicode/utf8.first", laid_unicode_utf8_first)] }
def BufferPlaysSaid : Prop := bufferPlaysRow.holds Tryz.pinned (OpenSpec.ofChange bufferPlaysSpec)

/-- ITS FALSE NEIGHBOUR: 'it returns false'. Refute it at one input. -/
def bufferPlaysWrong : ChangeSpec := { name := "bufferPlays", fn := fun _ => fun
  | [d1, d2] => { results := [.lit (.bool false)], args := [d1, d2] }
  | _ => none }
def BufferPlaysWrongFalsely : Prop := bufferPlaysRow.holds Tryz.pinned (OpenSpec.ofChange bufferPlaysWrong)

/-- 'vulgatelaw17.BufferCopies': WHATEVER THE INPUT: true; the input reads as it did. -/
def bufferCopiesSpec : ChangeSpec := { name := "bufferCopies", fn := fun _ => fun
  | [d1, d2] => { results := [.lit (.bool true)], args := [d1, d2] }
  | _ => none }
def bufferCopiesRow : OpenClaim := { program := "ytfmphfidloobkaagreatdoor", sum := "54e98780f12e8bd0c8d63421ea51024e415c9f7e8415dc68b2c58998032cc5b4", func := "vulgate/vulgatelaw17.BufferCopies", spec := "bufferCopies", inPlace := ["internal/bytealg.IndexByte", "internal/bytealg.IndexByteString", "internal/bytealg.IndexString", "internal/bytealg.CountString", "maps.clone", "internal/bytealg.Compare"], unfollowed := true, recurses := true, named := ["unicode/utf8.first", "unicode/utf8.acceptRanges", "internal/bytealg.MaxLen"], plainKeys := false, apart := false, laid := [("unicode/utf8.acceptRanges", laid_unicode_utf8_acceptRanges), ("unicode/utf8.first", laid_unicode_utf8_first)] }
def BufferCopiesSaid : Prop := bufferCopiesRow.holds Tryz.pinned (OpenSpec.ofChange bufferCopiesSpec)

/-- ITS FALSE NEIGHBOUR: 'it returns false'. Refute it at one input. -/
def bufferCopiesWrong : ChangeSpec := { name := "bufferCopies", fn := fun _ => fun
  | [d1, d2] => { results := [.lit (.bool false)], args := [d1, d2] }
  | _ => none }
def BufferCopiesWrongFalsely : Prop := bufferCopiesRow.holds Tryz.pinned (OpenSpec.ofChange bufferCopiesWrong)

/-- 'vulgatelaw16.IntentPlays': WHATEVER THE INPUT: true; the input reads as it did. -/
def intentPlaysSpec : ChangeSpec := { name := "intentPlays", fn := fun _ => fun
  | [d1, d2, d3] => { results := [.lit (.bool true)], args := [d1, d2, d3] }
  | _ => none }
def intentPlaysRow : OpenClaim := { program := "ytfmphfidloobkaagreatdoor", sum := "54e98780f12e8bd0c8d63421ea51024e415c9f7e8415dc68b2c58998032cc5b4", func := "vulgate/vulgatelaw16.IntentPlays", spec := "intentPlays", inPlace := ["internal/bytealg.IndexByte", "internal/bytealg.IndexByteString", "internal/bytealg.IndexString", "internal/bytealg.CountString", "internal/bytealg.Compare"], unfollowed := true, recurses := true, named := ["unicode/utf8.first", "unicode/utf8.acceptRanges", "internal/bytealg.MaxLen"], plainKeys := false, apart := false, laid := [("unicode/utf8.acceptRanges", laid_unicode_utf8_acceptRanges), ("unicode/utf8.first", laid_unicode_utf8_first)] }
def IntentPlaysSaid : Prop := intentPlaysRow.holds Tryz.pinned (OpenSpec.ofChange intentPlaysSpec)

/-- ITS FALSE NEIGHBOUR: 'it returns false'. Refute it at one input. -/
def intentPlaysWrong : ChangeSpec := { name := "intentPlays", fn := fun _ => fun
  | [d1, d2, d3] => { results := [.lit (.bool false)], args := [d1, d2, d3] }
  | _ => none }
def IntentPlaysWrongFalsely : Prop := intentPlaysRow.holds Tryz.pinned (OpenSpec.ofChange intentPlaysWrong)

/- THE SECOND FORM. 'bulk': how many values and letters a reading holds, each counted each time it is reached (what is shared counts as often as it is met; a slice's spare places count too). A statement '..UptoSaid' is the law's where the arguments, and the package variables that the reading takes, are together of bulk at most 1048576: NARROWER than '..Said'. Prove '..Said' where nothing that the law and all that it calls make is longer than what came in: it says more and counts as full. Else prove '..UptoSaid'. A law counts once. -/
mutual
def uptoBulk {H : Type} : DataW H → Nat
  | .lit (.string bytes) => bytes.length + 1
  | .lit _ => 1
  | .nil => 1
  | .ptr d => uptoBulk d + 1
  | .slice elems spare => uptoBulkAll elems + uptoBulkAll spare + 1
  | .agg parts => uptoBulkAll parts + 1
  | .iface _ d => uptoBulk d + 1
  | .map entries => uptoBulkEntries entries + 1
  | .held _ => 1
def uptoBulkAll {H : Type} : List (DataW H) → Nat
  | [] => 0
  | d :: r => uptoBulk d + uptoBulkAll r
def uptoBulkEntries {H : Type} : List (Lit × DataW H) → Nat
  | [] => 0
  | x :: r => uptoBulkEntry x + uptoBulkEntries r
def uptoBulkEntry {H : Type} : Lit × DataW H → Nat
  | (.string bytes, d) => bytes.length + uptoBulk d + 1
  | (_, d) => uptoBulk d + 1
 end
def uptoSmall : (H : Type) → List (DataW H) → Bool := fun _ ds => decide (uptoBulkAll ds ≤ 1048576)
def OpenSpec.upto (s : _root_.Go.ChangeSpec) : _root_.Go.OpenSpec := { _root_.Go.OpenSpec.ofChange s with cond := some uptoSmall }

/-- 'vulgatelaw14.StoreChecks', WHERE WHAT IT READS IS OF BULK AT MOST 1048576: true; the input reads as it did. -/
def storeChecksUptoRow : OpenClaim := { program := "ytfmphfidloobkaagreatdoor", sum := "54e98780f12e8bd0c8d63421ea51024e415c9f7e8415dc68b2c58998032cc5b4", func := "vulgate/vulgatelaw14.StoreChecks", spec := "storeChecks", inPlace := ["internal/bytealg.IndexByte", "internal/bytealg.IndexByteString", "internal/bytealg.IndexString", "internal/bytealg.CountString"], unfollowed := true, recurses := true, named := ["unicode/utf8.first", "unicode/utf8.acceptRanges", "internal/bytealg.MaxLen"], plainKeys := false, apart := false, laid := [("unicode/utf8.acceptRanges", laid_unicode_utf8_acceptRanges), ("unicode/utf8.first", laid_unicode_utf8_first)], narrowed := true }
def StoreChecksUptoSaid : Prop := storeChecksUptoRow.holds Tryz.pinned (OpenSpec.upto storeChecksSpec)

/-- 'vulgatelaw19.ViewForks', WHERE WHAT IT READS IS OF BULK AT MOST 1048576: true; the input reads as it did. -/
def viewForksUptoRow : OpenClaim := { program := "ytfmphfidloobkaagreatdoor", sum := "54e98780f12e8bd0c8d63421ea51024e415c9f7e8415dc68b2c58998032cc5b4", func := "vulgate/vulgatelaw19.ViewForks", spec := "viewForks", inPlace := ["internal/bytealg.IndexByte", "internal/bytealg.IndexByteString", "internal/bytealg.IndexString", "internal/bytealg.CountString"], unfollowed := true, recurses := true, named := ["unicode/utf8.first", "unicode/utf8.acceptRanges", "internal/bytealg.MaxLen"], plainKeys := false, apart := false, laid := [("unicode/utf8.acceptRanges", laid_unicode_utf8_acceptRanges), ("unicode/utf8.first", laid_unicode_utf8_first)], narrowed := true }
def ViewForksUptoSaid : Prop := viewForksUptoRow.holds Tryz.pinned (OpenSpec.upto viewForksSpec)

/-- 'vulgatelaw19.ViewStates', WHERE WHAT IT READS IS OF BULK AT MOST 1048576: true; the input reads as it did. -/
def viewStatesUptoRow : OpenClaim := { program := "ytfmphfidloobkaagreatdoor", sum := "54e98780f12e8bd0c8d63421ea51024e415c9f7e8415dc68b2c58998032cc5b4", func := "vulgate/vulgatelaw19.ViewStates", spec := "viewStates", inPlace := ["internal/bytealg.IndexByte", "internal/bytealg.IndexByteString", "internal/bytealg.IndexString", "internal/bytealg.CountString"], unfollowed := true, recurses := true, named := ["unicode/utf8.first", "unicode/utf8.acceptRanges", "internal/bytealg.MaxLen"], plainKeys := false, apart := false, laid := [("unicode/utf8.acceptRanges", laid_unicode_utf8_acceptRanges), ("unicode/utf8.first", laid_unicode_utf8_first)], narrowed := true }
def ViewStatesUptoSaid : Prop := viewStatesUptoRow.holds Tryz.pinned (OpenSpec.upto viewStatesSpec)

/-- 'vulgatelaw17.BufferPlays', WHERE WHAT IT READS IS OF BULK AT MOST 1048576: true; the input reads as it did. -/
def bufferPlaysUptoRow : OpenClaim := { program := "ytfmphfidloobkaagreatdoor", sum := "54e98780f12e8bd0c8d63421ea51024e415c9f7e8415dc68b2c58998032cc5b4", func := "vulgate/vulgatelaw17.BufferPlays", spec := "bufferPlays", inPlace := ["internal/bytealg.IndexByte", "internal/bytealg.IndexByteString", "internal/bytealg.IndexString", "internal/bytealg.CountString", "internal/bytealg.Compare"], unfollowed := true, recurses := true, named := ["unicode/utf8.first", "unicode/utf8.acceptRanges", "internal/bytealg.MaxLen"], plainKeys := false, apart := false, laid := [("unicode/utf8.acceptRanges", laid_unicode_utf8_acceptRanges), ("unicode/utf8.first", laid_unicode_utf8_first)], narrowed := true }
def BufferPlaysUptoSaid : Prop := bufferPlaysUptoRow.holds Tryz.pinned (OpenSpec.upto bufferPlaysSpec)

/-- 'vulgatelaw17.BufferCopies', WHERE WHAT IT READS IS OF BULK AT MOST 1048576: true; the input reads as it did. -/
def bufferCopiesUptoRow : OpenClaim := { program := "ytfmphfidloobkaagreatdoor", sum := "54e98780f12e8bd0c8d63421ea51024e415c9f7e8415dc68b2c58998032cc5b4", func := "vulgate/vulgatelaw17.BufferCopies", spec := "bufferCopies", inPlace := ["internal/bytealg.IndexByte", "internal/bytealg.IndexByteString", "internal/bytealg.IndexString", "internal/bytealg.CountString", "maps.clone", "internal/bytealg.Compare"], unfollowed := true, recurses := true, named := ["unicode/utf8.first", "unicode/utf8.acceptRanges", "internal/bytealg.MaxLen"], plainKeys := false, apart := false, laid := [("unicode/utf8.acceptRanges", laid_unicode_utf8_acceptRanges), ("unicode/utf8.first", laid_unicode_utf8_first)], narrowed := true }
def BufferCopiesUptoSaid : Prop := bufferCopiesUptoRow.holds Tryz.pinned (OpenSpec.upto bufferCopiesSpec)

/-- 'vulgatelaw16.IntentPlays', WHERE WHAT IT READS IS OF BULK AT MOST 1048576: true; the input reads as it did. -/
def intentPlaysUptoRow : OpenClaim := { program := "ytfmphfidloobkaagreatdoor", sum := "54e98780f12e8bd0c8d63421ea51024e415c9f7e8415dc68b2c58998032cc5b4", func := "vulgate/vulgatelaw16.IntentPlays", spec := "intentPlays", inPlace := ["internal/bytealg.IndexByte", "internal/bytealg.IndexByteString", "internal/bytealg.IndexString", "internal/bytealg.CountString", "internal/bytealg.Compare"], unfollowed := true, recurses := true, named := ["unicode/utf8.first", "unicode/utf8.acceptRanges", "internal/bytealg.MaxLen"], plainKeys := false, apart := false, laid := [("unicode/utf8.acceptRanges", laid_unicode_utf8_acceptRanges), ("unicode/utf8.first", laid_unicode_utf8_first)], narrowed := true }
def IntentPlaysUptoSaid : Prop := intentPlaysUptoRow.holds Tryz.pinned (OpenSpec.upto intentPlaysSpec)

end Rows
end Go.Proofs.YtfmphfidloobkaaGreatDoor
