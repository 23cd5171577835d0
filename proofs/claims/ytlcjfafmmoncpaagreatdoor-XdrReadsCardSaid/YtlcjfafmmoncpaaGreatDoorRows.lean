/-
  NARROWER THAN 'FOR EVERY INPUT', by the rows' own cells (each row's printed sentence says how): ClientNews: laid · XdrWrites: laid · XdrReads: laid · XdrBack: laid · XdrAgain: laid.
  DERIVED. THE GIVEN ROWS OF THIS SEAT. 5 by the template 'for every input the law returns true; each argument reads behind the call as it read before'; 0 by the template 'total and deterministic' (their statements: YtlcjfafmmoncpaaGreatDoorTotals.lean).
  GIVEN WITH THE SEED: the statements are not yours to turn. If you find one false, say at which input.
  Laid BY PROGRAM, IN A SANDBOX (cutbox-rows.mjs): the forced cells as the released guide's own fill.sh prints them over the translation ca169cdad746de58… (all of the seat's roots in one cut). By AI agents, Wed Nov 11 2026. No macro, syntax, notation, axiom, sorry.
-/
import Derived.Test.YtlcjfafmmoncpaaGreatDoorChecked
import GoSem.PinnedTables
import GoSem.Claim
import GoSem.ClaimJoined
import GoSem.ClaimMapViews
import Derived.JoinedTies
import Derived.KernelRfl
namespace Go.Proofs.YtlcjfafmmoncpaaGreatDoor
/- THE CELL 'sum', in the pinned program and in every row, IS THE sha256 OF THE DUMP (.gsa) THAT YtlcjfafmmoncpaaGreatDoorProg.lean LOADS. Nothing in Lean hashes anything: it is a label: what it is worth is what the hold of that sum in a sandbox is worth. -/
noncomputable def Tryz.pinned : Pinned := { name := "ytlcjfafmmoncpaagreatdoor", sum := "ca169cdad746de58fd87da5ddb1e11820c76d42d9f30aad1e28e77f5a5b7434b", checked := Tryz.checked }
namespace Rows
def none {H : Type} : Left H := { results := [], args := [] }

/- WHAT THE LISTED PACKAGE-LEVEL VARIABLES READ AS WHEN THE CALL BEGINS. Each datum BY PROGRAM (the guide's laid-datum.mjs) off the statement by which the dump's own 'gosem.cut.vars' lays the variable. In a bare row this is a premise. The card (YtlcjfafmmoncpaaGreatDoorCards.lean) ties it to the program's text. -/
def laid_errors_errorType {H : Type} : DataW H := .iface "internal/reflectlite.rtype" (.agg [.ptr (.lit (.string [101, 114, 114, 111, 114]))])
def laid_unicode_utf8_acceptRanges {H : Type} : DataW H := .agg [.agg [.lit (.int .u8 128), .lit (.int .u8 191)], .agg [.lit (.int .u8 160), .lit (.int .u8 191)], .agg [.lit (.int .u8 128), .lit (.int .u8 159)], .agg [.lit (.int .u8 144), .lit (.int .u8 191)], .agg [.lit (.int .u8 128), .lit (.int .u8 143)], .agg [.lit (.int .u8 0), .lit (.int .u8 0)], .agg [.lit (.int .u8 0), .lit (.int .u8 0)], .agg [.lit (.int .u8 0), .lit (.int .u8 0)], .agg [.lit (.int .u8 0), .lit (.int .u8 0)], .agg [.lit (.int .u8 0), .lit (.int .u8 0)], .agg [.lit (.int .u8 0), .lit (.int .u8 0)], .agg [.lit (.int .u8 0), .lit (.int .u8 0)], .agg [.lit (.int .u8 0), .lit (.int .u8 0)], .agg [.lit (.int .u8 0), .lit (.int .u8 0)], .agg [.lit (.int .u8 0), .lit (.int .u8 0)], .agg [.lit (.int .u8 0), .lit (.int .u8 0)]]
/-- One of Go's own tables, pinned by name: the form's constant. -/
def laid_unicode_utf8_first : DataW Unit := Go.Pinned.utf8First

/-- 'callboxlaw17.ClientNews': WHATEVER THE INPUT: true; the input reads as it did. -/
def clientNewsSpec : ChangeSpec := { name := "clientNews", fn := fun _ => fun
  | [d] => { results := [.lit (.bool true)], args := [d] }
  | _ => none }
def clientNewsRow : OpenClaim := { program := "ytlcjfafmmoncpaagreatdoor", sum := "ca169cdad746de58fd87da5ddb1e11820c76d42d9f30aad1e28e77f5a5b7434b", func := "callbox/callboxlaw17.ClientNews", spec := "clientNews", inPlace := ["internal/abi.NoEscape", "internal/bytealg.MakeNoZero", "internal/reflectlite.ValueOf", "(internal/reflectlite.Value).Type", "(internal/reflectlite.Value).IsNil", "internal/reflectlite.TypeOf", "(internal/reflectlite.Value).Elem", "(internal/reflectlite.Value).Set"], unfollowed := true, recurses := true, named := ["errors.errorType"], apart := false, laid := [("errors.errorType", laid_errors_errorType)] }
def ClientNewsSaid : Prop := clientNewsRow.holds Tryz.pinned (OpenSpec.ofChange clientNewsSpec)

/-- ITS FALSE NEIGHBOUR: 'it returns false'. Refute it at one input. -/
def clientNewsWrong : ChangeSpec := { name := "clientNews", fn := fun _ => fun
  | [d] => { results := [.lit (.bool false)], args := [d] }
  | _ => none }
def ClientNewsWrongFalsely : Prop := clientNewsRow.holds Tryz.pinned (OpenSpec.ofChange clientNewsWrong)

/-- 'callboxlaw02.XdrWrites': WHATEVER THE INPUT: true; the input reads as it did. -/
def xdrWritesSpec : ChangeSpec := { name := "xdrWrites", fn := fun _ => fun
  | [d1, d2, d3] => { results := [.lit (.bool true)], args := [d1, d2, d3] }
  | _ => none }
def xdrWritesRow : OpenClaim := { program := "ytlcjfafmmoncpaagreatdoor", sum := "ca169cdad746de58fd87da5ddb1e11820c76d42d9f30aad1e28e77f5a5b7434b", func := "callbox/callboxlaw02.XdrWrites", spec := "xdrWrites", inPlace := ["internal/abi.NoEscape", "internal/bytealg.MakeNoZero", "math.Float32bits", "internal/reflectlite.ValueOf", "(internal/reflectlite.Value).Type", "(internal/reflectlite.Value).IsNil", "internal/reflectlite.TypeOf", "(internal/reflectlite.Value).Elem", "(internal/reflectlite.Value).Set", "internal/bytealg.IndexByteString", "internal/bytealg.IndexString", "math.Float32frombits", "math.Float64frombits", "math.Float64bits"], unfollowed := true, recurses := true, named := ["errors.errorType", "unicode/utf8.first", "unicode/utf8.acceptRanges", "internal/bytealg.MaxLen"], apart := false, laid := [("unicode/utf8.acceptRanges", laid_unicode_utf8_acceptRanges), ("errors.errorType", laid_errors_errorType), ("unicode/utf8.first", laid_unicode_utf8_first)] }
def XdrWritesSaid : Prop := xdrWritesRow.holds Tryz.pinned (OpenSpec.ofChange xdrWritesSpec)

/-- ITS FALSE NEIGHBOUR: 'it returns false'. Refute it at one input. -/
def xdrWritesWrong : ChangeSpec := { name := "xdrWrites", fn := fun _ => fun
  | [d1, d2, d3] => { results := [.lit (.bool false)], args := [d1, d2, d3] }
  | _ => none }
def XdrWritesWrongFalsely : Prop := xdrWritesRow.holds Tryz.pinned (OpenSpec.ofChange xdrWritesWrong)

/-- 'callboxlaw02.XdrReads': WHATEVER THE INPUT: true; the input reads as it did. -/
def xdrReadsSpec : ChangeSpec := { name := "xdrReads", fn := fun _ => fun
  | [d1, d2, d3] => { results := [.lit (.bool true)], args := [d1, d2, d3] }
  | _ => none }
def xdrReadsRow : OpenClaim := { program := "ytlcjfafmmoncpaagreatdoor", sum := "ca169cdad746de58fd87da5ddb1e11820c76d42d9f30aad1e28e77f5a5b7434b", func := "callbox/callboxlaw02.XdrReads", spec := "xdrReads", inPlace := ["internal/abi.NoEscape", "internal/bytealg.MakeNoZero", "math.Float32bits", "internal/reflectlite.ValueOf", "(internal/reflectlite.Value).Type", "(internal/reflectlite.Value).IsNil", "internal/reflectlite.TypeOf", "(internal/reflectlite.Value).Elem", "(internal/reflectlite.Value).Set", "internal/bytealg.IndexByteString", "internal/bytealg.IndexString", "math.Float32frombits", "math.Float64frombits", "math.Float64bits"], unfollowed := true, recurses := true, named := ["errors.errorType", "unicode/utf8.first", "unicode/utf8.acceptRanges", "internal/bytealg.MaxLen"], apart := false, laid := [("unicode/utf8.acceptRanges", laid_unicode_utf8_acceptRanges), ("errors.errorType", laid_errors_errorType), ("unicode/utf8.first", laid_unicode_utf8_first)] }
def XdrReadsSaid : Prop := xdrReadsRow.holds Tryz.pinned (OpenSpec.ofChange xdrReadsSpec)

/-- ITS FALSE NEIGHBOUR: 'it returns false'. Refute it at one input. -/
def xdrReadsWrong : ChangeSpec := { name := "xdrReads", fn := fun _ => fun
  | [d1, d2, d3] => { results := [.lit (.bool false)], args := [d1, d2, d3] }
  | _ => none }
def XdrReadsWrongFalsely : Prop := xdrReadsRow.holds Tryz.pinned (OpenSpec.ofChange xdrReadsWrong)

/-- 'callboxlaw02.XdrBack': WHATEVER THE INPUT: true; the input reads as it did. -/
def xdrBackSpec : ChangeSpec := { name := "xdrBack", fn := fun _ => fun
  | [d1, d2] => { results := [.lit (.bool true)], args := [d1, d2] }
  | _ => none }
def xdrBackRow : OpenClaim := { program := "ytlcjfafmmoncpaagreatdoor", sum := "ca169cdad746de58fd87da5ddb1e11820c76d42d9f30aad1e28e77f5a5b7434b", func := "callbox/callboxlaw02.XdrBack", spec := "xdrBack", inPlace := ["internal/abi.NoEscape", "internal/bytealg.MakeNoZero", "math.Float32bits", "internal/reflectlite.ValueOf", "(internal/reflectlite.Value).Type", "(internal/reflectlite.Value).IsNil", "internal/reflectlite.TypeOf", "(internal/reflectlite.Value).Elem", "(internal/reflectlite.Value).Set", "internal/bytealg.IndexByteString", "internal/bytealg.IndexString", "math.Float32frombits", "math.Float64frombits", "math.Float64bits"], unfollowed := true, recurses := true, named := ["errors.errorType", "unicode/utf8.first", "unicode/utf8.acceptRanges", "internal/bytealg.MaxLen"], apart := false, laid := [("unicode/utf8.acceptRanges", laid_unicode_utf8_acceptRanges), ("errors.errorType", laid_errors_errorType), ("unicode/utf8.first", laid_unicode_utf8_first)] }
def XdrBackSaid : Prop := xdrBackRow.holds Tryz.pinned (OpenSpec.ofChange xdrBackSpec)

/-- ITS FALSE NEIGHBOUR: 'it returns false'. Refute it at one input. -/
def xdrBackWrong : ChangeSpec := { name := "xdrBack", fn := fun _ => fun
  | [d1, d2] => { results := [.lit (.bool false)], args := [d1, d2] }
  | _ => none }
def XdrBackWrongFalsely : Prop := xdrBackRow.holds Tryz.pinned (OpenSpec.ofChange xdrBackWrong)

/-- 'callboxlaw02.XdrAgain': WHATEVER THE INPUT: true; the input reads as it did. -/
def xdrAgainSpec : ChangeSpec := { name := "xdrAgain", fn := fun _ => fun
  | [d1, d2] => { results := [.lit (.bool true)], args := [d1, d2] }
  | _ => none }
def xdrAgainRow : OpenClaim := { program := "ytlcjfafmmoncpaagreatdoor", sum := "ca169cdad746de58fd87da5ddb1e11820c76d42d9f30aad1e28e77f5a5b7434b", func := "callbox/callboxlaw02.XdrAgain", spec := "xdrAgain", inPlace := ["internal/abi.NoEscape", "internal/bytealg.MakeNoZero", "math.Float32bits", "internal/reflectlite.ValueOf", "(internal/reflectlite.Value).Type", "(internal/reflectlite.Value).IsNil", "internal/reflectlite.TypeOf", "(internal/reflectlite.Value).Elem", "(internal/reflectlite.Value).Set", "internal/bytealg.IndexByteString", "internal/bytealg.IndexString", "math.Float32frombits", "math.Float64frombits", "math.Float64bits"], unfollowed := true, recurses := true, named := ["errors.errorType", "unicode/utf8.first", "unicode/utf8.acceptRanges", "internal/bytealg.MaxLen"], apart := false, laid := [("unicode/utf8.acceptRanges", laid_unicode_utf8_acceptRanges), ("errors.errorType", laid_errors_errorType), ("unicode/utf8.first", laid_unicode_utf8_first)] }
def XdrAgainSaid : Prop := xdrAgainRow.holds Tryz.pinned (OpenSpec.ofChange xdrAgainSpec)

/-- ITS FALSE NEIGHBOUR: 'it returns false'. Refute it at one input. -/
def xdrAgainWrong : ChangeSpec := { name := "xdrAgain", fn := fun _ => fun
  | [d1, d2] => { results := [.lit (.bool false)], args := [d1, d2] }
  | _ => none }
def XdrAgainWrongFalsely : Prop := xdrAgainRow.holds Tryz.pinned (OpenSpec.ofChange xdrAgainWrong)

/- THE SECOND FORM. 'bulk': how many values and letters a reading holds, each counted each time it is reached (what is shared counts as often as it is met; a slice's spare places count too). A statement '..UptoSaid' is the law's where the arguments, and the package variables that the reading takes, are together of bulk at most 1048576: NARROWER than '..Said'. Prove '..Said' where nothing that the law and all that it calls make is longer than what came in: it says more and counts as full. Else prove '..UptoSaid'. A law counts once. -/
mutual
def uptoBulk {H : Type} : DataW H → Nat
  | .lit (.string bytes) => bytes.length + 1
  | .lit _ => 1
  | .nil => 1
  | .ptr d => uptoBulk d + 1
  | .slice elems spare => uptoBulkAll elems + uptoBulkAll spare + 1
  | .agg parts => uptoBulkAll parts + 1
  | .iface _ d => uptoBulk d + 1
  | .map entries => uptoBulkEntries entries + 1
  | .held _ => 1
def uptoBulkAll {H : Type} : List (DataW H) → Nat
  | [] => 0
  | d :: r => uptoBulk d + uptoBulkAll r
def uptoBulkEntries {H : Type} : List (Lit × DataW H) → Nat
  | [] => 0
  | x :: r => uptoBulkEntry x + uptoBulkEntries r
def uptoBulkEntry {H : Type} : Lit × DataW H → Nat
  | (.string bytes, d) => bytes.length + uptoBulk d + 1
  | (_, d) => uptoBulk d + 1
 end
def uptoSmall : (H : Type) → List (DataW H) → Bool := fun _ ds => decide (uptoBulkAll ds ≤ 1048576)
def OpenSpec.upto (s : _root_.Go.ChangeSpec) : _root_.Go.OpenSpec := { _root_.Go.OpenSpec.ofChange s with cond := some uptoSmall }

/-- 'callboxlaw17.ClientNews', WHERE WHAT IT READS IS OF BULK AT MOST 1048576: true; the input reads as it did. -/
def clientNewsUptoRow : OpenClaim := { program := "ytlcjfafmmoncpaagreatdoor", sum := "ca169cdad746de58fd87da5ddb1e11820c76d42d9f30aad1e28e77f5a5b7434b", func := "callbox/callboxlaw17.ClientNews", spec := "clientNews", inPlace := ["internal/abi.NoEscape", "internal/bytealg.MakeNoZero", "internal/reflectlite.ValueOf", "(internal/reflectlite.Value).Type", "(internal/reflectlite.Value).IsNil", "internal/reflectlite.TypeOf", "(internal/reflectlite.Value).Elem", "(internal/reflectlite.Value).Set"], unfollowed := true, recurses := true, named := ["errors.errorType"], apart := false, laid := [("errors.errorType", laid_errors_errorType)], narrowed := true }
def ClientNewsUptoSaid : Prop := clientNewsUptoRow.holds Tryz.pinned (OpenSpec.upto clientNewsSpec)

/-- 'callboxlaw02.XdrWrites', WHERE WHAT IT READS IS OF BULK AT MOST 1048576: true; the input reads as it did. -/
def xdrWritesUptoRow : OpenClaim := { program := "ytlcjfafmmoncpaagreatdoor", sum := "ca169cdad746de58fd87da5ddb1e11820c76d42d9f30aad1e28e77f5a5b7434b", func := "callbox/callboxlaw02.XdrWrites", spec := "xdrWrites", inPlace := ["internal/abi.NoEscape", "internal/bytealg.MakeNoZero", "math.Float32bits", "internal/reflectlite.ValueOf", "(internal/reflectlite.Value).Type", "(internal/reflectlite.Value).IsNil", "internal/reflectlite.TypeOf", "(internal/reflectlite.Value).Elem", "(internal/reflectlite.Value).Set", "internal/bytealg.IndexByteString", "internal/bytealg.IndexString", "math.Float32frombits", "math.Float64frombits", "math.Float64bits"], unfollowed := true, recurses := true, named := ["errors.errorType", "unicode/utf8.first", "unicode/utf8.acceptRanges", "internal/bytealg.MaxLen"], apart := false, laid := [("unicode/utf8.acceptRanges", laid_unicode_utf8_acceptRanges), ("errors.errorType", laid_errors_errorType), ("unicode/utf8.first", laid_unicode_utf8_first)], narrowed := true }
def XdrWritesUptoSaid : Prop := xdrWritesUptoRow.holds Tryz.pinned (OpenSpec.upto xdrWritesSpec)

/-- 'callboxlaw02.XdrReads', WHERE WHAT IT READS IS OF BULK AT MOST 1048576: true; the input reads as it did. -/
def xdrReadsUptoRow : OpenClaim := { program := "ytlcjfafmmoncpaagreatdoor", sum := "ca169cdad746de58fd87da5ddb1e11820c76d42d9f30aad1e28e77f5a5b7434b", func := "callbox/callboxlaw02.XdrReads", spec := "xdrReads", inPlace := ["internal/abi.NoEscape", "internal/bytealg.MakeNoZero", "math.Float32bits", "internal/reflectlite.ValueOf", "(internal/reflectlite.Value).Type", "(internal/reflectlite.Value).IsNil", "internal/reflectlite.TypeOf", "(internal/reflectlite.Value).Elem", "(internal/reflectlite.Value).Set", "internal/bytealg.IndexByteString", "internal/bytealg.IndexString", "math.Float32frombits", "math.Float64frombits", "math.Float64bits"], unfollowed := true, recurses := true, named := ["errors.errorType", "unicode/utf8.first", "unicode/utf8.acceptRanges", "internal/bytealg.MaxLen"], apart := false, laid := [("unicode/utf8.acceptRanges", laid_unicode_utf8_acceptRanges), ("errors.errorType", laid_errors_errorType), ("unicode/utf8.first", laid_unicode_utf8_first)], narrowed := true }
def XdrReadsUptoSaid : Prop := xdrReadsUptoRow.holds Tryz.pinned (OpenSpec.upto xdrReadsSpec)

/-- 'callboxlaw02.XdrBack', WHERE WHAT IT READS IS OF BULK AT MOST 1048576: true; the input reads as it did. -/
def xdrBackUptoRow : OpenClaim := { program := "ytlcjfafmmoncpaagreatdoor", sum := "ca169cdad746de58fd87da5ddb1e11820c76d42d9f30aad1e28e77f5a5b7434b", func := "callbox/callboxlaw02.XdrBack", spec := "xdrBack", inPlace := ["internal/abi.NoEscape", "internal/bytealg.MakeNoZero", "math.Float32bits", "internal/reflectlite.ValueOf", "(internal/reflectlite.Value).Type", "(internal/reflectlite.Value).IsNil", "internal/reflectlite.TypeOf", "(internal/reflectlite.Value).Elem", "(internal/reflectlite.Value).Set", "internal/bytealg.IndexByteString", "internal/bytealg.IndexString", "math.Float32frombits", "math.Float64frombits", "math.Float64bits"], unfollowed := true, recurses := true, named := ["errors.errorType", "unicode/utf8.first", "unicode/utf8.acceptRanges", "internal/bytealg.MaxLen"], apart := false, laid := [("unicode/utf8.acceptRanges", laid_unicode_utf8_acceptRanges), ("errors.errorType", laid_errors_errorType), ("unicode/utf8.first", laid_unicode_utf8_first)], narrowed := true }
def XdrBackUptoSaid : Prop := xdrBackUptoRow.holds Tryz.pinned (OpenSpec.upto xdrBackSpec)

/-- 'callboxlaw02.XdrAgain', WHERE WHAT IT READS IS OF BULK AT MOST 1048576: true; the input reads as it did. -/
def xdrAgainUptoRow : OpenClaim := { program := "ytlcjfafmmoncpaagreatdoor", sum := "ca169cdad746de58fd87da5ddb1e11820c76d42d9f30aad1e28e77f5a5b7434b", func := "callbox/callboxlaw02.XdrAgain", spec := "xdrAgain", inPlace := ["internal/abi.NoEscape", "internal/bytealg.MakeNoZero", "math.Float32bits", "internal/reflectlite.ValueOf", "(internal/reflectlite.Value).Type", "(internal/reflectlite.Value).IsNil", "internal/reflectlite.TypeOf", "(internal/reflectlite.Value).Elem", "(internal/reflectlite.Value).Set", "internal/bytealg.IndexByteString", "internal/bytealg.IndexString", "math.Float32frombits", "math.Float64frombits", "math.Float64bits"], unfollowed := true, recurses := true, named := ["errors.errorType", "unicode/utf8.first", "unicode/utf8.acceptRanges", "internal/bytealg.MaxLen"], apart := false, laid := [("unicode/utf8.acceptRanges", laid_unicode_utf8_acceptRanges), ("errors.errorType", laid_errors_errorType), ("unicode/utf8.first", laid_unicode_utf8_first)], narrowed := true }
def XdrAgainUptoSaid : Prop := xdrAgainUptoRow.holds Tryz.pinned (OpenSpec.upto xdrAgainSpec)

end Rows
end Go.Proofs.YtlcjfafmmoncpaaGreatDoor
