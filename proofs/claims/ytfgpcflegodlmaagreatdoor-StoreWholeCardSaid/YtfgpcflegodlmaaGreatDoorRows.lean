/-
  NARROWER THAN 'FOR EVERY INPUT', by the rows' own cells (each row's printed sentence says how): StoreChecks: laid · StoreWhole: laid · RoleMore: laid · StoreStays: laid · RoleChecks: laid · StoreNil: laid.
  DERIVED. THE GIVEN ROWS OF THIS SEAT. 6 by the template 'for every input the law returns true; each argument reads behind the call as it read before'; 0 by the template 'total and deterministic' (their statements: YtfgpcflegodlmaaGreatDoorTotals.lean).
  GIVEN WITH THE SEED: the statements are not yours to turn. If you find one false, say at which input.
  Laid BY PROGRAM, IN A SANDBOX (cutbox-rows.mjs): the forced cells as the released guide's own fill.sh prints them over the translation a54b4bb2b2c3a636… (all of the seat's roots in one cut). By AI agents, Wed Nov 11 2026. No macro, syntax, notation, axiom, sorry.
-/
import Derived.Test.YtfgpcflegodlmaaGreatDoorChecked
import GoSem.PinnedTables
import GoSem.Claim
import GoSem.ClaimJoined
import GoSem.ClaimMapViews
import Derived.JoinedTies
import Derived.KernelRfl
namespace Go.Proofs.YtfgpcflegodlmaaGreatDoor
/- THE CELL 'sum', in the pinned program and in every row, IS THE sha256 OF THE DUMP (.gsa) THAT YtfgpcflegodlmaaGreatDoorProg.lean LOADS. Nothing in Lean hashes anything: it is a label: what it is worth is what the hold of that sum in a sandbox is worth. -/
noncomputable def Tryz.pinned : Pinned := { name := "ytfgpcflegodlmaagreatdoor", sum := "a54b4bb2b2c3a636b7e14bef3897924b6886a50bdec9cebe2bd24a69bd4811d1", checked := Tryz.checked }
namespace Rows
def none {H : Type} : Left H := { results := [], args := [] }

/- WHAT THE LISTED PACKAGE-LEVEL VARIABLES READ AS WHEN THE CALL BEGINS. Each datum BY PROGRAM (the guide's laid-datum.mjs) off the statement by which the dump's own 'gosem.cut.vars' lays the variable. In a bare row this is a premise. The card (YtfgpcflegodlmaaGreatDoorCards.lean) ties it to the program's text. -/
def laid_unicode_utf8_acceptRanges {H : Type} : DataW H := .agg [.agg [.lit (.int .u8 128), .lit (.int .u8 191)], .agg [.lit (.int .u8 160), .lit (.int .u8 191)], .agg [.lit (.int .u8 128), .lit (.int .u8 159)], .agg [.lit (.int .u8 144), .lit (.int .u8 191)], .agg [.lit (.int .u8 128), .lit (.int .u8 143)], .agg [.lit (.int .u8 0), .lit (.int .u8 0)], .agg [.lit (.int .u8 0), .lit (.int .u8 0)], .agg [.lit (.int .u8 0), .lit (.int .u8 0)], .agg [.lit (.int .u8 0), .lit (.int .u8 0)], .agg [.lit (.int .u8 0), .lit (.int .u8 0)], .agg [.lit (.int .u8 0), .lit (.int .u8 0)], .agg [.lit (.int .u8 0), .lit (.int .u8 0)], .agg [.lit (.int .u8 0), .lit (.int .u8 0)], .agg [.lit (.int .u8 0), .lit (.int .u8 0)], .agg [.lit (.int .u8 0), .lit (.int .u8 0)], .agg [.lit (.int .u8 0), .lit (.int .u8 0)]]
/-- One of Go's own tables, pinned by name: the form's constant. -/
def laid_unicode_utf8_first : DataW Unit := Go.Pinned.utf8First

/-- 'vulgatelaw14.StoreChecks': WHATEVER THE INPUT: true; the input reads as it did. -/
def storeChecksSpec : ChangeSpec := { name := "storeChecks", fn := fun _ => fun
  | [d] => { results := [.lit (.bool true)], args := [d] }
  | _ => none }
def storeChecksRow : OpenClaim := { program := "ytfgpcflegodlmaagreatdoor", sum := "a54b4bb2b2c3a636b7e14bef3897924b6886a50bdec9cebe2bd24a69bd4811d1", func := "vulgate/vulgatelaw14.StoreChecks", spec := "storeChecks", inPlace := ["internal/bytealg.IndexByte", "internal/bytealg.IndexByteString", "internal/bytealg.IndexString", "internal/bytealg.CountString"], unfollowed := true, recurses := true, named := ["unicode/utf8.first", "unicode/utf8.acceptRanges", "internal/bytealg.MaxLen"], plainKeys := false, apart := false, laid := [("unicode/utf8.acceptRanges", laid_unicode_utf8_acceptRanges), ("unicode/utf8.first", laid_unicode_utf8_first)] }
def StoreChecksSaid : Prop := storeChecksRow.holds Tryz.pinned (OpenSpec.ofChange storeChecksSpec)

/-- ITS FALSE NEIGHBOUR: 'it returns false'. Refute it at one input. -/
def storeChecksWrong : ChangeSpec := { name := "storeChecks", fn := fun _ => fun
  | [d] => { results := [.lit (.bool false)], args := [d] }
  | _ => none }
def StoreChecksWrongFalsely : Prop := storeChecksRow.holds Tryz.pinned (OpenSpec.ofChange storeChecksWrong)

/-- 'vulgatelaw14.StoreWhole': WHATEVER THE INPUT: true; the input reads as it did. -/
def storeWholeSpec : ChangeSpec := { name := "storeWhole", fn := fun _ => fun
  | [d1, d2] => { results := [.lit (.bool true)], args := [d1, d2] }
  | _ => none }
def storeWholeRow : OpenClaim := { program := "ytfgpcflegodlmaagreatdoor", sum := "a54b4bb2b2c3a636b7e14bef3897924b6886a50bdec9cebe2bd24a69bd4811d1", func := "vulgate/vulgatelaw14.StoreWhole", spec := "storeWhole", inPlace := ["internal/bytealg.IndexByte", "internal/bytealg.IndexByteString", "internal/bytealg.IndexString", "internal/bytealg.CountString"], unfollowed := true, recurses := true, named := ["unicode/utf8.first", "unicode/utf8.acceptRanges", "internal/bytealg.MaxLen"], plainKeys := false, apart := false, laid := [("unicode/utf8.acceptRanges", laid_unicode_utf8_acceptRanges), ("unicode/utf8.first", laid_unicode_utf8_first)] }
def StoreWholeSaid : Prop := storeWholeRow.holds Tryz.pinned (OpenSpec.ofChange storeWholeSpec)

/-- ITS FALSE NEIGHBOUR: 'it returns false'. Refute it at one input. -/
def storeWholeWrong : ChangeSpec := { name := "storeWhole", fn := fun _ => fun
  | [d1, d2] => { results := [.lit (.bool false)], args := [d1, d2] }
  | _ => none }
def StoreWholeWrongFalsely : Prop := storeWholeRow.holds Tryz.pinned (OpenSpec.ofChange storeWholeWrong)

/-- 'vulgatelaw22.RoleMore': WHATEVER THE INPUT: true; the input reads as it did. -/
def roleMoreSpec : ChangeSpec := { name := "roleMore", fn := fun _ => fun
  | [d1, d2, d3, d4, d5] => { results := [.lit (.bool true)], args := [d1, d2, d3, d4, d5] }
  | _ => none }
def roleMoreRow : OpenClaim := { program := "ytfgpcflegodlmaagreatdoor", sum := "a54b4bb2b2c3a636b7e14bef3897924b6886a50bdec9cebe2bd24a69bd4811d1", func := "vulgate/vulgatelaw22.RoleMore", spec := "roleMore", inPlace := ["internal/bytealg.IndexByte", "internal/bytealg.IndexByteString", "internal/bytealg.IndexString", "internal/bytealg.CountString"], unfollowed := true, recurses := true, named := ["unicode/utf8.first", "unicode/utf8.acceptRanges", "internal/bytealg.MaxLen"], plainKeys := false, apart := false, laid := [("unicode/utf8.acceptRanges", laid_unicode_utf8_acceptRanges), ("unicode/utf8.first", laid_unicode_utf8_first)] }
def RoleMoreSaid : Prop := roleMoreRow.holds Tryz.pinned (OpenSpec.ofChange roleMoreSpec)

/-- ITS FALSE NEIGHBOUR: 'it returns false'. Refute it at one input. -/
def roleMoreWrong : ChangeSpec := { name := "roleMore", fn := fun _ => fun
  | [d1, d2, d3, d4, d5] => { results := [.lit (.bool false)], args := [d1, d2, d3, d4, d5] }
  | _ => none }
def RoleMoreWrongFalsely : Prop := roleMoreRow.holds Tryz.pinned (OpenSpec.ofChange roleMoreWrong)

/-- 'vulgatelaw14.StoreStays': WHATEVER THE INPUT: true; the input reads as it did. -/
def storeStaysSpec : ChangeSpec := { name := "storeStays", fn := fun _ => fun
  | [d1, d2, d3, d4] => { results := [.lit (.bool true)], args := [d1, d2, d3, d4] }
  | _ => none }
def storeStaysRow : OpenClaim := { program := "ytfgpcflegodlmaagreatdoor", sum := "a54b4bb2b2c3a636b7e14bef3897924b6886a50bdec9cebe2bd24a69bd4811d1", func := "vulgate/vulgatelaw14.StoreStays", spec := "storeStays", inPlace := ["internal/bytealg.IndexByte", "internal/bytealg.IndexByteString", "internal/bytealg.IndexString", "internal/bytealg.CountString"], unfollowed := true, recurses := true, named := ["unicode/utf8.first", "unicode/utf8.acceptRanges", "internal/bytealg.MaxLen"], plainKeys := false, apart := false, laid := [("unicode/utf8.acceptRanges", laid_unicode_utf8_acceptRanges), ("unicode/utf8.first", laid_unicode_utf8_first)] }
def StoreStaysSaid : Prop := storeStaysRow.holds Tryz.pinned (OpenSpec.ofChange storeStaysSpec)

/-- ITS FALSE NEIGHBOUR: 'it returns false'. Refute it at one input. -/
def storeStaysWrong : ChangeSpec := { name := "storeStays", fn := fun _ => fun
  | [d1, d2, d3, d4] => { results := [.lit (.bool false)], args := [d1, d2, d3, d4] }
  | _ => none }
def StoreStaysWrongFalsely : Prop := storeStaysRow.holds Tryz.pinned (OpenSpec.ofChange storeStaysWrong)

/-- 'vulgatelaw22.RoleChecks': WHATEVER THE INPUT: true; the input reads as it did. -/
def roleChecksSpec : ChangeSpec := { name := "roleChecks", fn := fun _ => fun
  | [d1, d2, d3] => { results := [.lit (.bool true)], args := [d1, d2, d3] }
  | _ => none }
def roleChecksRow : OpenClaim := { program := "ytfgpcflegodlmaagreatdoor", sum := "a54b4bb2b2c3a636b7e14bef3897924b6886a50bdec9cebe2bd24a69bd4811d1", func := "vulgate/vulgatelaw22.RoleChecks", spec := "roleChecks", inPlace := ["internal/bytealg.IndexByte", "internal/bytealg.IndexByteString", "internal/bytealg.IndexString", "internal/bytealg.CountString"], unfollowed := true, recurses := true, named := ["unicode/utf8.first", "unicode/utf8.acceptRanges", "internal/bytealg.MaxLen"], plainKeys := false, apart := false, laid := [("unicode/utf8.acceptRanges", laid_unicode_utf8_acceptRanges), ("unicode/utf8.first", laid_unicode_utf8_first)] }
def RoleChecksSaid : Prop := roleChecksRow.holds Tryz.pinned (OpenSpec.ofChange roleChecksSpec)

/-- ITS FALSE NEIGHBOUR: 'it returns false'. Refute it at one input. -/
def roleChecksWrong : ChangeSpec := { name := "roleChecks", fn := fun _ => fun
  | [d1, d2, d3] => { results := [.lit (.bool false)], args := [d1, d2, d3] }
  | _ => none }
def RoleChecksWrongFalsely : Prop := roleChecksRow.holds Tryz.pinned (OpenSpec.ofChange roleChecksWrong)

/-- 'vulgatelaw14.StoreNil': WHATEVER THE INPUT: true; the input reads as it did. -/
def storeNilSpec : ChangeSpec := { name := "storeNil", fn := fun _ => fun
  | [d1, d2] => { results := [.lit (.bool true)], args := [d1, d2] }
  | _ => none }
def storeNilRow : OpenClaim := { program := "ytfgpcflegodlmaagreatdoor", sum := "a54b4bb2b2c3a636b7e14bef3897924b6886a50bdec9cebe2bd24a69bd4811d1", func := "vulgate/vulgatelaw14.StoreNil", spec := "storeNil", inPlace := ["internal/bytealg.Compare", "internal/bytealg.IndexByte", "internal/bytealg.IndexByteString", "internal/bytealg.IndexString", "internal/bytealg.CountString"], unfollowed := true, recurses := true, named := ["unicode/utf8.first", "unicode/utf8.acceptRanges", "internal/bytealg.MaxLen"], plainKeys := false, apart := false, laid := [("unicode/utf8.acceptRanges", laid_unicode_utf8_acceptRanges), ("unicode/utf8.first", laid_unicode_utf8_first)] }
def StoreNilSaid : Prop := storeNilRow.holds Tryz.pinned (OpenSpec.ofChange storeNilSpec)

/-- ITS FALSE NEIGHBOUR: 'it returns false'. Refute it at one input. -/
def storeNilWrong : ChangeSpec := { name := "storeNil", fn := fun _ => fun
  | [d1, d2] => { results := [.lit (.bool false)], args := [d1, d2] }
  | _ => none }
def StoreNilWrongFalsely : Prop := storeNilRow.holds Tryz.pinned (OpenSpec.ofChange storeNilWrong)

/- THE SECOND FORM. 'bulk': how many values and letters a reading holds, each counted each time it is reached (what is shared counts as often as it is met; a slice's spare places count too). A statement '..UptoSaid' is the law's where the arguments, and the package variables that the reading takes, are together of bulk at most 1048576: NARROWER than '..Said'. Prove '..Said' where nothing that the law and all that it calls make is longer than what came in: it says more and counts as full. Else prove '..UptoSaid'. A law counts once. -/
mutual
def uptoBulk {H : Type} : DataW H → Nat
  | .lit (.string bytes) => bytes.length + 1
  | .lit _ => 1
  | .nil => 1
  | .ptr d => uptoBulk d + 1
  | .slice elems spare => uptoBulkAll elems + uptoBulkAll spare + 1
  | .agg parts => uptoBulkAll parts + 1
  | .iface _ d => uptoBulk d + 1
  | .map entries => uptoBulkEntries entries + 1
  | .held _ => 1
def uptoBulkAll {H : Type} : List (DataW H) → Nat
  | [] => 0
  | d :: r => uptoBulk d + uptoBulkAll r
def uptoBulkEntries {H : Type} : List (Lit × DataW H) → Nat
  | [] => 0
  | x :: r => uptoBulkEntry x + uptoBulkEntries r
def uptoBulkEntry {H : Type} : Lit × DataW H → Nat
  | (.string bytes, d) => bytes.length + uptoBulk d + 1
  | (_, d) => uptoBulk d + 1
 end
def uptoSmall : (H : Type) → List (DataW H) → Bool := fun _ ds => decide (uptoBulkAll ds ≤ 1048576)
def OpenSpec.upto (s : _root_.Go.ChangeSpec) : _root_.Go.OpenSpec := { _root_.Go.OpenSpec.ofChange s with cond := some uptoSmall }

/-- 'vulgatelaw14.StoreChecks', WHERE WHAT IT READS IS OF BULK AT MOST 1048576: true; the input reads as it did. -/
def storeChecksUptoRow : OpenClaim := { program := "ytfgpcflegodlmaagreatdoor", sum := "a54b4bb2b2c3a636b7e14bef3897924b6886a50bdec9cebe2bd24a69bd4811d1", func := "vulgate/vulgatelaw14.StoreChecks", spec := "storeChecks", inPlace := ["internal/bytealg.IndexByte", "internal/bytealg.IndexByteString", "internal/bytealg.IndexString", "internal/bytealg.CountString"], unfollowed := true, recurses := true, named := ["unicode/utf8.first", "unicode/utf8.acceptRanges", "internal/bytealg.MaxLen"], plainKeys := false, apart := false, laid := [("unicode/utf8.acceptRanges", laid_unicode_utf8_acceptRanges), ("unicode/utf8.first", laid_unicode_utf8_first)], narrowed := true }
def StoreChecksUptoSaid : Prop := storeChecksUptoRow.holds Tryz.pinned (OpenSpec.upto storeChecksSpec)

/-- 'vulgatelaw14.StoreWhole', WHERE WHAT IT READS IS OF BULK AT MOST 1048576: true; the input reads as it did. -/
def storeWholeUptoRow : OpenClaim := { program := "ytfgpcflegodlmaagreatdoor", sum := "a54b4bb2b2c3a636b7e14bef3897924b6886a50bdec9cebe2bd24a69bd4811d1", func := "vulgate/vulgatelaw14.StoreWhole", spec := "storeWhole", inPlace := ["internal/bytealg.IndexByte", "internal/bytealg.IndexByteString", "internal/bytealg.IndexString", "internal/bytealg.CountString"], unfollowed := true, recurses := true, named := ["unicode/utf8.first", "unicode/utf8.acceptRanges", "internal/bytealg.MaxLen"], plainKeys := false, apart := false, laid := [("unicode/utf8.acceptRanges", laid_unicode_utf8_acceptRanges), ("unicode/utf8.first", laid_unicode_utf8_first)], narrowed := true }
def StoreWholeUptoSaid : Prop := storeWholeUptoRow.holds Tryz.pinned (OpenSpec.upto storeWholeSpec)

/-- 'vulgatelaw22.RoleMore', WHERE WHAT IT READS IS OF BULK AT MOST 1048576: true; the input reads as it did. -/
def roleMoreUptoRow : OpenClaim := { program := "ytfgpcflegodlmaagreatdoor", sum := "a54b4bb2b2c3a636b7e14bef3897924b6886a50bdec9cebe2bd24a69bd4811d1", func := "vulgate/vulgatelaw22.RoleMore", spec := "roleMore", inPlace := ["internal/bytealg.IndexByte", "internal/bytealg.IndexByteString", "internal/bytealg.IndexString", "internal/bytealg.CountString"], unfollowed := true, recurses := true, named := ["unicode/utf8.first", "unicode/utf8.acceptRanges", "internal/bytealg.MaxLen"], plainKeys := false, apart := false, laid := [("unicode/utf8.acceptRanges", laid_unicode_utf8_acceptRanges), ("unicode/utf8.first", laid_unicode_utf8_first)], narrowed := true }
def RoleMoreUptoSaid : Prop := roleMoreUptoRow.holds Tryz.pinned (OpenSpec.upto roleMoreSpec)

/-- 'vulgatelaw14.StoreStays', WHERE WHAT IT READS IS OF BULK AT MOST 1048576: true; the input reads as it did. -/
def storeStaysUptoRow : OpenClaim := { program := "ytfgpcflegodlmaagreatdoor", sum := "a54b4bb2b2c3a636b7e14bef3897924b6886a50bdec9cebe2bd24a69bd4811d1", func := "vulgate/vulgatelaw14.StoreStays", spec := "storeStays", inPlace := ["internal/bytealg.IndexByte", "internal/bytealg.IndexByteString", "internal/bytealg.IndexString", "internal/bytealg.CountString"], unfollowed := true, recurses := true, named := ["unicode/utf8.first", "unicode/utf8.acceptRanges", "internal/bytealg.MaxLen"], plainKeys := false, apart := false, laid := [("unicode/utf8.acceptRanges", laid_unicode_utf8_acceptRanges), ("unicode/utf8.first", laid_unicode_utf8_first)], narrowed := true }
def StoreStaysUptoSaid : Prop := storeStaysUptoRow.holds Tryz.pinned (OpenSpec.upto storeStaysSpec)

/-- 'vulgatelaw22.RoleChecks', WHERE WHAT IT READS IS OF BULK AT MOST 1048576: true; the input reads as it did. -/
def roleChecksUptoRow : OpenClaim := { program := "ytfgpcflegodlmaagreatdoor", sum := "a54b4bb2b2c3a636b7e14bef3897924b6886a50bdec9cebe2bd24a69bd4811d1", func := "vulgate/vulgatelaw22.RoleChecks", spec := "roleChecks", inPlace := ["internal/bytealg.IndexByte", "internal/bytealg.IndexByteString", "internal/bytealg.IndexString", "internal/bytealg.CountString"], unfollowed := true, recurses := true, named := ["unicode/utf8.first", "unicode/utf8.acceptRanges", "internal/bytealg.MaxLen"], plainKeys := false, apart := false, laid := [("unicode/utf8.acceptRanges", laid_unicode_utf8_acceptRanges), ("unicode/utf8.first", laid_unicode_utf8_first)], narrowed := true }
def RoleChecksUptoSaid : Prop := roleChecksUptoRow.holds Tryz.pinned (OpenSpec.upto roleChecksSpec)

/-- 'vulgatelaw14.StoreNil', WHERE WHAT IT READS IS OF BULK AT MOST 1048576: true; the input reads as it did. -/
def storeNilUptoRow : OpenClaim := { program := "ytfgpcflegodlmaagreatdoor", sum := "a54b4bb2b2c3a636b7e14bef3897924b6886a50bdec9cebe2bd24a69bd4811d1", func := "vulgate/vulgatelaw14.StoreNil", spec := "storeNil", inPlace := ["internal/bytealg.Compare", "internal/bytealg.IndexByte", "internal/bytealg.IndexByteString", "internal/bytealg.IndexString", "internal/bytealg.CountString"], unfollowed := true, recurses := true, named := ["unicode/utf8.first", "unicode/utf8.acceptRanges", "internal/bytealg.MaxLen"], plainKeys := false, apart := false, laid := [("unicode/utf8.acceptRanges", laid_unicode_utf8_acceptRanges), ("unicode/utf8.first", laid_unicode_utf8_first)], narrowed := true }
def StoreNilUptoSaid : Prop := storeNilUptoRow.holds Tryz.pinned (OpenSpec.upto storeNilSpec)

end Rows
end Go.Proofs.YtfgpcflegodlmaaGreatDoor
