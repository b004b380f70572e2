/-
  NARROWER THAN 'FOR EVERY INPUT', by the rows' own cells (each row's printed sentence says how): ValueWant: loops, laid · NatNames: laid · NatBack: laid · NatReads: laid · NatExact: laid · NatOrder: laid · NatSmall: laid · LitPrints: loops, laid · LitBack: loops, laid · LitBehind: laid.
  DERIVED. THE GIVEN ROWS OF THIS SEAT. 10 by the template 'for every input the law returns true; each argument reads behind the call as it read before'; 0 by the template 'total and deterministic' (their statements: YtcgphlilijeifaaDoorTotals.lean).
  GIVEN WITH THE SEED: the statements are not yours to turn. If you find one false, say at which input.
  Laid BY PROGRAM, IN A SANDBOX (cutbox-rows.mjs): the forced cells as the released guide's own fill.sh prints them over the translation 1e598df626ff3017… (all of the seat's roots in one cut). By AI agents, Wed Nov 11 2026. No macro, syntax, notation, axiom, sorry.
-/
import Derived.Test.YtcgphlilijeifaaDoorChecked
import GoSem.PinnedTables
import GoSem.Claim
import GoSem.ClaimJoined
import GoSem.ClaimMapViews
import Derived.JoinedTies
import Derived.KernelRfl
namespace Go.Proofs.YtcgphlilijeifaaDoor
/- THE CELL 'sum', in the pinned program and in every row, IS THE sha256 OF THE DUMP (.gsa) THAT YtcgphlilijeifaaDoorProg.lean LOADS. Nothing in Lean hashes anything: it is a label: what it is worth is what the hold of that sum in a sandbox is worth. -/
noncomputable def Tryd.pinned : Pinned := { name := "ytcgphlilijeifaadoor", sum := "1e598df626ff3017e1181e0c268208719ff6abbed78986f2c75c50e58718b575", checked := Tryd.checked }
namespace Rows
def none {H : Type} : Left H := { results := [], args := [] }

/- WHAT THE LISTED PACKAGE-LEVEL VARIABLES READ AS WHEN THE CALL BEGINS. Each datum BY PROGRAM (the guide's laid-datum.mjs) off the statement by which the dump's own 'gosem.cut.vars' lays the variable. In a bare row this is a premise. The card (YtcgphlilijeifaaDoorCards.lean) ties it to the program's text. -/
def laid_errors_errorType {H : Type} : DataW H := .iface "internal/reflectlite.rtype" (.agg [.ptr (.lit (.string [101, 114, 114, 111, 114]))])
def laid_unicode_utf8_acceptRanges {H : Type} : DataW H := .agg [.agg [.lit (.int .u8 128), .lit (.int .u8 191)], .agg [.lit (.int .u8 160), .lit (.int .u8 191)], .agg [.lit (.int .u8 128), .lit (.int .u8 159)], .agg [.lit (.int .u8 144), .lit (.int .u8 191)], .agg [.lit (.int .u8 128), .lit (.int .u8 143)], .agg [.lit (.int .u8 0), .lit (.int .u8 0)], .agg [.lit (.int .u8 0), .lit (.int .u8 0)], .agg [.lit (.int .u8 0), .lit (.int .u8 0)], .agg [.lit (.int .u8 0), .lit (.int .u8 0)], .agg [.lit (.int .u8 0), .lit (.int .u8 0)], .agg [.lit (.int .u8 0), .lit (.int .u8 0)], .agg [.lit (.int .u8 0), .lit (.int .u8 0)], .agg [.lit (.int .u8 0), .lit (.int .u8 0)], .agg [.lit (.int .u8 0), .lit (.int .u8 0)], .agg [.lit (.int .u8 0), .lit (.int .u8 0)], .agg [.lit (.int .u8 0), .lit (.int .u8 0)]]
/-- One of Go's own tables, pinned by name: the form's constant. -/
def laid_unicode_utf8_first : DataW Unit := Go.Pinned.utf8First

/-- 'dovetaillaw09.ValueWant': WHATEVER THE INPUT: true; the input reads as it did. -/
def valueWantSpec : ChangeSpec := { name := "valueWant", fn := fun _ => fun
  | [d1, d2] => { results := [.lit (.bool true)], args := [d1, d2] }
  | _ => none }
def valueWantRow : OpenClaim := { program := "ytcgphlilijeifaadoor", sum := "1e598df626ff3017e1181e0c268208719ff6abbed78986f2c75c50e58718b575", func := "dovetail/dovetaillaw09.ValueWant", spec := "valueWant", inPlace := ["internal/reflectlite.ValueOf", "(internal/reflectlite.Value).Type", "(internal/reflectlite.Value).IsNil", "internal/reflectlite.TypeOf", "(internal/reflectlite.Value).Elem", "(internal/reflectlite.Value).Set"], unfollowed := true, recurses := true, named := ["errors.errorType"], loops := true, apart := false, laid := [("errors.errorType", laid_errors_errorType)] }
def ValueWantSaid : Prop := valueWantRow.holds Tryd.pinned (OpenSpec.ofChange valueWantSpec)

/-- ITS FALSE NEIGHBOUR: 'it returns false'. Refute it at one input. -/
def valueWantWrong : ChangeSpec := { name := "valueWant", fn := fun _ => fun
  | [d1, d2] => { results := [.lit (.bool false)], args := [d1, d2] }
  | _ => none }
def ValueWantWrongFalsely : Prop := valueWantRow.holds Tryd.pinned (OpenSpec.ofChange valueWantWrong)

/-- 'dovetaillaw02.NatNames': WHATEVER THE INPUT: true; the input reads as it did. -/
def natNamesSpec : ChangeSpec := { name := "natNames", fn := fun _ => fun
  | [] => { results := [.lit (.bool true)], args := [] }
  | _ => none }
def natNamesRow : OpenClaim := { program := "ytcgphlilijeifaadoor", sum := "1e598df626ff3017e1181e0c268208719ff6abbed78986f2c75c50e58718b575", func := "dovetail/dovetaillaw02.NatNames", spec := "natNames", inPlace := ["internal/bytealg.IndexByteString", "internal/bytealg.IndexString"], unfollowed := true, recurses := true, named := ["unicode/utf8.first", "unicode/utf8.acceptRanges", "internal/bytealg.MaxLen"], apart := false, laid := [("unicode/utf8.acceptRanges", laid_unicode_utf8_acceptRanges), ("unicode/utf8.first", laid_unicode_utf8_first)] }
def NatNamesSaid : Prop := natNamesRow.holds Tryd.pinned (OpenSpec.ofChange natNamesSpec)

/-- ITS FALSE NEIGHBOUR: 'it returns false'. Refute it at one input. -/
def natNamesWrong : ChangeSpec := { name := "natNames", fn := fun _ => fun
  | [] => { results := [.lit (.bool false)], args := [] }
  | _ => none }
def NatNamesWrongFalsely : Prop := natNamesRow.holds Tryd.pinned (OpenSpec.ofChange natNamesWrong)

/-- 'dovetaillaw02.NatBack': WHATEVER THE INPUT: true; the input reads as it did. -/
def natBackSpec : ChangeSpec := { name := "natBack", fn := fun _ => fun
  | [d1, d2, d3] => { results := [.lit (.bool true)], args := [d1, d2, d3] }
  | _ => none }
def natBackRow : OpenClaim := { program := "ytcgphlilijeifaadoor", sum := "1e598df626ff3017e1181e0c268208719ff6abbed78986f2c75c50e58718b575", func := "dovetail/dovetaillaw02.NatBack", spec := "natBack", inPlace := ["internal/bytealg.IndexByteString", "internal/bytealg.IndexString"], unfollowed := true, recurses := true, named := ["unicode/utf8.first", "unicode/utf8.acceptRanges", "internal/bytealg.MaxLen"], apart := false, laid := [("unicode/utf8.acceptRanges", laid_unicode_utf8_acceptRanges), ("unicode/utf8.first", laid_unicode_utf8_first)] }
def NatBackSaid : Prop := natBackRow.holds Tryd.pinned (OpenSpec.ofChange natBackSpec)

/-- ITS FALSE NEIGHBOUR: 'it returns false'. Refute it at one input. -/
def natBackWrong : ChangeSpec := { name := "natBack", fn := fun _ => fun
  | [d1, d2, d3] => { results := [.lit (.bool false)], args := [d1, d2, d3] }
  | _ => none }
def NatBackWrongFalsely : Prop := natBackRow.holds Tryd.pinned (OpenSpec.ofChange natBackWrong)

/-- 'dovetaillaw02.NatReads': WHATEVER THE INPUT: true; the input reads as it did. -/
def natReadsSpec : ChangeSpec := { name := "natReads", fn := fun _ => fun
  | [d1, d2] => { results := [.lit (.bool true)], args := [d1, d2] }
  | _ => none }
def natReadsRow : OpenClaim := { program := "ytcgphlilijeifaadoor", sum := "1e598df626ff3017e1181e0c268208719ff6abbed78986f2c75c50e58718b575", func := "dovetail/dovetaillaw02.NatReads", spec := "natReads", inPlace := ["internal/bytealg.IndexByteString", "internal/bytealg.IndexString"], unfollowed := true, recurses := true, named := ["unicode/utf8.first", "unicode/utf8.acceptRanges", "internal/bytealg.MaxLen"], apart := false, laid := [("unicode/utf8.acceptRanges", laid_unicode_utf8_acceptRanges), ("unicode/utf8.first", laid_unicode_utf8_first)] }
def NatReadsSaid : Prop := natReadsRow.holds Tryd.pinned (OpenSpec.ofChange natReadsSpec)

/-- ITS FALSE NEIGHBOUR: 'it returns false'. Refute it at one input. -/
def natReadsWrong : ChangeSpec := { name := "natReads", fn := fun _ => fun
  | [d1, d2] => { results := [.lit (.bool false)], args := [d1, d2] }
  | _ => none }
def NatReadsWrongFalsely : Prop := natReadsRow.holds Tryd.pinned (OpenSpec.ofChange natReadsWrong)

/-- 'dovetaillaw02.NatExact': WHATEVER THE INPUT: true; the input reads as it did. -/
def natExactSpec : ChangeSpec := { name := "natExact", fn := fun _ => fun
  | [d] => { results := [.lit (.bool true)], args := [d] }
  | _ => none }
def natExactRow : OpenClaim := { program := "ytcgphlilijeifaadoor", sum := "1e598df626ff3017e1181e0c268208719ff6abbed78986f2c75c50e58718b575", func := "dovetail/dovetaillaw02.NatExact", spec := "natExact", inPlace := ["internal/bytealg.IndexByteString", "internal/bytealg.IndexString"], unfollowed := true, recurses := true, named := ["unicode/utf8.first", "unicode/utf8.acceptRanges", "internal/bytealg.MaxLen"], apart := false, laid := [("unicode/utf8.acceptRanges", laid_unicode_utf8_acceptRanges), ("unicode/utf8.first", laid_unicode_utf8_first)] }
def NatExactSaid : Prop := natExactRow.holds Tryd.pinned (OpenSpec.ofChange natExactSpec)

/-- ITS FALSE NEIGHBOUR: 'it returns false'. Refute it at one input. -/
def natExactWrong : ChangeSpec := { name := "natExact", fn := fun _ => fun
  | [d] => { results := [.lit (.bool false)], args := [d] }
  | _ => none }
def NatExactWrongFalsely : Prop := natExactRow.holds Tryd.pinned (OpenSpec.ofChange natExactWrong)

/-- 'dovetaillaw02.NatOrder': WHATEVER THE INPUT: true; the input reads as it did. -/
def natOrderSpec : ChangeSpec := { name := "natOrder", fn := fun _ => fun
  | [d1, d2, d3, d4] => { results := [.lit (.bool true)], args := [d1, d2, d3, d4] }
  | _ => none }
def natOrderRow : OpenClaim := { program := "ytcgphlilijeifaadoor", sum := "1e598df626ff3017e1181e0c268208719ff6abbed78986f2c75c50e58718b575", func := "dovetail/dovetaillaw02.NatOrder", spec := "natOrder", inPlace := ["internal/bytealg.IndexByteString", "internal/bytealg.IndexString"], unfollowed := true, recurses := true, named := ["unicode/utf8.first", "unicode/utf8.acceptRanges", "internal/bytealg.MaxLen"], apart := false, laid := [("unicode/utf8.acceptRanges", laid_unicode_utf8_acceptRanges), ("unicode/utf8.first", laid_unicode_utf8_first)] }
def NatOrderSaid : Prop := natOrderRow.holds Tryd.pinned (OpenSpec.ofChange natOrderSpec)

/-- ITS FALSE NEIGHBOUR: 'it returns false'. Refute it at one input. -/
def natOrderWrong : ChangeSpec := { name := "natOrder", fn := fun _ => fun
  | [d1, d2, d3, d4] => { results := [.lit (.bool false)], args := [d1, d2, d3, d4] }
  | _ => none }
def NatOrderWrongFalsely : Prop := natOrderRow.holds Tryd.pinned (OpenSpec.ofChange natOrderWrong)

/-- 'dovetaillaw02.NatSmall': WHATEVER THE INPUT: true; the input reads as it did. -/
def natSmallSpec : ChangeSpec := { name := "natSmall", fn := fun _ => fun
  | [d1, d2] => { results := [.lit (.bool true)], args := [d1, d2] }
  | _ => none }
def natSmallRow : OpenClaim := { program := "ytcgphlilijeifaadoor", sum := "1e598df626ff3017e1181e0c268208719ff6abbed78986f2c75c50e58718b575", func := "dovetail/dovetaillaw02.NatSmall", spec := "natSmall", inPlace := ["internal/bytealg.IndexByteString", "internal/bytealg.IndexString"], unfollowed := true, recurses := true, named := ["unicode/utf8.first", "unicode/utf8.acceptRanges", "internal/bytealg.MaxLen"], apart := false, laid := [("unicode/utf8.acceptRanges", laid_unicode_utf8_acceptRanges), ("unicode/utf8.first", laid_unicode_utf8_first)] }
def NatSmallSaid : Prop := natSmallRow.holds Tryd.pinned (OpenSpec.ofChange natSmallSpec)

/-- ITS FALSE NEIGHBOUR: 'it returns false'. Refute it at one input. -/
def natSmallWrong : ChangeSpec := { name := "natSmall", fn := fun _ => fun
  | [d1, d2] => { results := [.lit (.bool false)], args := [d1, d2] }
  | _ => none }
def NatSmallWrongFalsely : Prop := natSmallRow.holds Tryd.pinned (OpenSpec.ofChange natSmallWrong)

/-- 'dovetaillaw10.LitPrints': WHATEVER THE INPUT: true; the input reads as it did. -/
def litPrintsSpec : ChangeSpec := { name := "litPrints", fn := fun _ => fun
  | [d] => { results := [.lit (.bool true)], args := [d] }
  | _ => none }
def litPrintsRow : OpenClaim := { program := "ytcgphlilijeifaadoor", sum := "1e598df626ff3017e1181e0c268208719ff6abbed78986f2c75c50e58718b575", func := "dovetail/dovetaillaw10.LitPrints", spec := "litPrints", inPlace := ["internal/bytealg.IndexByteString", "internal/bytealg.IndexString"], unfollowed := true, recurses := true, named := ["unicode/utf8.first", "unicode/utf8.acceptRanges", "internal/bytealg.MaxLen"], loops := true, apart := false, laid := [("unicode/utf8.acceptRanges", laid_unicode_utf8_acceptRanges), ("unicode/utf8.first", laid_unicode_utf8_first)] }
def LitPrintsSaid : Prop := litPrintsRow.holds Tryd.pinned (OpenSpec.ofChange litPrintsSpec)

/-- ITS FALSE NEIGHBOUR: 'it returns false'. Refute it at one input. -/
def litPrintsWrong : ChangeSpec := { name := "litPrints", fn := fun _ => fun
  | [d] => { results := [.lit (.bool false)], args := [d] }
  | _ => none }
def LitPrintsWrongFalsely : Prop := litPrintsRow.holds Tryd.pinned (OpenSpec.ofChange litPrintsWrong)

/-- 'dovetaillaw10.LitBack': WHATEVER THE INPUT: true; the input reads as it did. -/
def litBackSpec : ChangeSpec := { name := "litBack", fn := fun _ => fun
  | [d1, d2, d3] => { results := [.lit (.bool true)], args := [d1, d2, d3] }
  | _ => none }
def litBackRow : OpenClaim := { program := "ytcgphlilijeifaadoor", sum := "1e598df626ff3017e1181e0c268208719ff6abbed78986f2c75c50e58718b575", func := "dovetail/dovetaillaw10.LitBack", spec := "litBack", inPlace := ["internal/bytealg.IndexByteString", "internal/bytealg.IndexString"], unfollowed := true, recurses := true, named := ["unicode/utf8.first", "unicode/utf8.acceptRanges", "internal/bytealg.MaxLen"], loops := true, apart := false, laid := [("unicode/utf8.acceptRanges", laid_unicode_utf8_acceptRanges), ("unicode/utf8.first", laid_unicode_utf8_first)] }
def LitBackSaid : Prop := litBackRow.holds Tryd.pinned (OpenSpec.ofChange litBackSpec)

/-- ITS FALSE NEIGHBOUR: 'it returns false'. Refute it at one input. -/
def litBackWrong : ChangeSpec := { name := "litBack", fn := fun _ => fun
  | [d1, d2, d3] => { results := [.lit (.bool false)], args := [d1, d2, d3] }
  | _ => none }
def LitBackWrongFalsely : Prop := litBackRow.holds Tryd.pinned (OpenSpec.ofChange litBackWrong)

/-- 'dovetaillaw10.LitBehind': WHATEVER THE INPUT: true; the input reads as it did. -/
def litBehindSpec : ChangeSpec := { name := "litBehind", fn := fun _ => fun
  | [d1, d2] => { results := [.lit (.bool true)], args := [d1, d2] }
  | _ => none }
def litBehindRow : OpenClaim := { program := "ytcgphlilijeifaadoor", sum := "1e598df626ff3017e1181e0c268208719ff6abbed78986f2c75c50e58718b575", func := "dovetail/dovetaillaw10.LitBehind", spec := "litBehind", inPlace := ["internal/bytealg.IndexByteString", "internal/bytealg.IndexString"], unfollowed := true, recurses := true, named := ["unicode/utf8.first", "unicode/utf8.acceptRanges", "internal/bytealg.MaxLen"], apart := false, laid := [("unicode/utf8.acceptRanges", laid_unicode_utf8_acceptRanges), ("unicode/utf8.first", laid_unicode_utf8_first)] }
def LitBehindSaid : Prop := litBehindRow.holds Tryd.pinned (OpenSpec.ofChange litBehindSpec)

/-- ITS FALSE NEIGHBOUR: 'it returns false'. Refute it at one input. -/
def litBehindWrong : ChangeSpec := { name := "litBehind", fn := fun _ => fun
  | [d1, d2] => { results := [.lit (.bool false)], args := [d1, d2] }
  | _ => none }
def LitBehindWrongFalsely : Prop := litBehindRow.holds Tryd.pinned (OpenSpec.ofChange litBehindWrong)

/- THE SECOND FORM. 'bulk': how many values and letters a reading holds, each counted each time it is reached (what is shared counts as often as it is met; a slice's spare places count too). A statement '..UptoSaid' is the law's where the arguments, and the package variables that the reading takes, are together of bulk at most 1048576: NARROWER than '..Said'. Prove '..Said' where nothing that the law and all that it calls make is longer than what came in: it says more and counts as full. Else prove '..UptoSaid'. A law counts once. -/
mutual
def uptoBulk {H : Type} : DataW H → Nat
  | .lit (.string bytes) => bytes.length + 1
  | .lit _ => 1
  | .nil => 1
  | .ptr d => uptoBulk d + 1
  | .slice elems spare => uptoBulkAll elems + uptoBulkAll spare + 1
  | .agg parts => uptoBulkAll parts + 1
  | .iface _ d => uptoBulk d + 1
  | .map entries => uptoBulkEntries entries + 1
  | .held _ => 1
def uptoBulkAll {H : Type} : List (DataW H) → Nat
  | [] => 0
  | d :: r => uptoBulk d + uptoBulkAll r
def uptoBulkEntries {H : Type} : List (Lit × DataW H) → Nat
  | [] => 0
  | x :: r => uptoBulkEntry x + uptoBulkEntries r
def uptoBulkEntry {H : Type} : Lit × DataW H → Nat
  | (.string bytes, d) => bytes.length + uptoBulk d + 1
  | (_, d) => uptoBulk d + 1
 end
def uptoSmall : (H : Type) → List (DataW H) → Bool := fun _ ds => decide (uptoBulkAll ds ≤ 1048576)
def OpenSpec.upto (s : _root_.Go.ChangeSpec) : _root_.Go.OpenSpec := { _root_.Go.OpenSpec.ofChange s with cond := some uptoSmall }

/-- 'dovetaillaw09.ValueWant', WHERE WHAT IT READS IS OF BULK AT MOST 1048576: true; the input reads as it did. -/
def valueWantUptoRow : OpenClaim := { program := "ytcgphlilijeifaadoor", sum := "1e598df626ff3017e1181e0c268208719ff6abbed78986f2c75c50e58718b575", func := "dovetail/dovetaillaw09.ValueWant", spec := "valueWant", inPlace := ["internal/reflectlite.ValueOf", "(internal/reflectlite.Value).Type", "(internal/reflectlite.Value).IsNil", "internal/reflectlite.TypeOf", "(internal/reflectlite.Value).Elem", "(internal/reflectlite.Value).Set"], unfollowed := true, recurses := true, named := ["errors.errorType"], loops := true, apart := false, laid := [("errors.errorType", laid_errors_errorType)], narrowed := true }
def ValueWantUptoSaid : Prop := valueWantUptoRow.holds Tryd.pinned (OpenSpec.upto valueWantSpec)

/-- 'dovetaillaw02.NatNames', WHERE WHAT IT READS IS OF BULK AT MOST 1048576: true; the input reads as it did. -/
def natNamesUptoRow : OpenClaim := { program := "ytcgphlilijeifaadoor", sum := "1e598df626ff3017e1181e0c268208719ff6abbed78986f2c75c50e58718b575", func := "dovetail/dovetaillaw02.NatNames", spec := "natNames", inPlace := ["internal/bytealg.IndexByteString", "internal/bytealg.IndexString"], unfollowed := true, recurses := true, named := ["unicode/utf8.first", "unicode/utf8.acceptRanges", "internal/bytealg.MaxLen"], apart := false, laid := [("unicode/utf8.acceptRanges", laid_unicode_utf8_acceptRanges), ("unicode/utf8.first", laid_unicode_utf8_first)], narrowed := true }
def NatNamesUptoSaid : Prop := natNamesUptoRow.holds Tryd.pinned (OpenSpec.upto natNamesSpec)

/-- 'dovetaillaw02.NatBack', WHERE WHAT IT READS IS OF BULK AT MOST 1048576: true; the input reads as it did. -/
def natBackUptoRow : OpenClaim := { program := "ytcgphlilijeifaadoor", sum := "1e598df626ff3017e1181e0c268208719ff6abbed78986f2c75c50e58718b575", func := "dovetail/dovetaillaw02.NatBack", spec := "natBack", inPlace := ["internal/bytealg.IndexByteString", "internal/bytealg.IndexString"], unfollowed := true, recurses := true, named := ["unicode/utf8.first", "unicode/utf8.acceptRanges", "internal/bytealg.MaxLen"], apart := false, laid := [("unicode/utf8.acceptRanges", laid_unicode_utf8_acceptRanges), ("unicode/utf8.first", laid_unicode_utf8_first)], narrowed := true }
def NatBackUptoSaid : Prop := natBackUptoRow.holds Tryd.pinned (OpenSpec.upto natBackSpec)

/-- 'dovetaillaw02.NatReads', WHERE WHAT IT READS IS OF BULK AT MOST 1048576: true; the input reads as it did. -/
def natReadsUptoRow : OpenClaim := { program := "ytcgphlilijeifaadoor", sum := "1e598df626ff3017e1181e0c268208719ff6abbed78986f2c75c50e58718b575", func := "dovetail/dovetaillaw02.NatReads", spec := "natReads", inPlace := ["internal/bytealg.IndexByteString", "internal/bytealg.IndexString"], unfollowed := true, recurses := true, named := ["unicode/utf8.first", "unicode/utf8.acceptRanges", "internal/bytealg.MaxLen"], apart := false, laid := [("unicode/utf8.acceptRanges", laid_unicode_utf8_acceptRanges), ("unicode/utf8.first", laid_unicode_utf8_first)], narrowed := true }
def NatReadsUptoSaid : Prop := natReadsUptoRow.holds Tryd.pinned (OpenSpec.upto natReadsSpec)

/-- 'dovetaillaw02.NatExact', WHERE WHAT IT READS IS OF BULK AT MOST 1048576: true; the input reads as it did. -/
def natExactUptoRow : OpenClaim := { program := "ytcgphlilijeifaadoor", sum := "1e598df626ff3017e1181e0c268208719ff6abbed78986f2c75c50e58718b575", func := "dovetail/dovetaillaw02.NatExact", spec := "natExact", inPlace := ["internal/bytealg.IndexByteString", "internal/bytealg.IndexString"], unfollowed := true, recurses := true, named := ["unicode/utf8.first", "unicode/utf8.acceptRanges", "internal/bytealg.MaxLen"], apart := false, laid := [("unicode/utf8.acceptRanges", laid_unicode_utf8_acceptRanges), ("unicode/utf8.first", laid_unicode_utf8_first)], narrowed := true }
def NatExactUptoSaid : Prop := natExactUptoRow.holds Tryd.pinned (OpenSpec.upto natExactSpec)

/-- 'dovetaillaw02.NatOrder', WHERE WHAT IT READS IS OF BULK AT MOST 1048576: true; the input reads as it did. -/
def natOrderUptoRow : OpenClaim := { program := "ytcgphlilijeifaadoor", sum := "1e598df626ff3017e1181e0c268208719ff6abbed78986f2c75c50e58718b575", func := "dovetail/dovetaillaw02.NatOrder", spec := "natOrder", inPlace := ["internal/bytealg.IndexByteString", "internal/bytealg.IndexString"], unfollowed := true, recurses := true, named := ["unicode/utf8.first", "unicode/utf8.acceptRanges", "internal/bytealg.MaxLen"], apart := false, laid := [("unicode/utf8.acceptRanges", laid_unicode_utf8_acceptRanges), ("unicode/utf8.first", laid_unicode_utf8_first)], narrowed := true }
def NatOrderUptoSaid : Prop := natOrderUptoRow.holds Tryd.pinned (OpenSpec.upto natOrderSpec)

/-- 'dovetaillaw02.NatSmall', WHERE WHAT IT READS IS OF BULK AT MOST 1048576: true; the input reads as it did. -/
def natSmallUptoRow : OpenClaim := { program := "ytcgphlilijeifaadoor", sum := "1e598df626ff3017e1181e0c268208719ff6abbed78986f2c75c50e58718b575", func := "dovetail/dovetaillaw02.NatSmall", spec := "natSmall", inPlace := ["internal/bytealg.IndexByteString", "internal/bytealg.IndexString"], unfollowed := true, recurses := true, named := ["unicode/utf8.first", "unicode/utf8.acceptRanges", "internal/bytealg.MaxLen"], apart := false, laid := [("unicode/utf8.acceptRanges", laid_unicode_utf8_acceptRanges), ("unicode/utf8.first", laid_unicode_utf8_first)], narrowed := true }
def NatSmallUptoSaid : Prop := natSmallUptoRow.holds Tryd.pinned (OpenSpec.upto natSmallSpec)

/-- 'dovetaillaw10.LitPrints', WHERE WHAT IT READS IS OF BULK AT MOST 1048576: true; the input reads as it did. -/
def litPrintsUptoRow : OpenClaim := { program := "ytcgphlilijeifaadoor", sum := "1e598df626ff3017e1181e0c268208719ff6abbed78986f2c75c50e58718b575", func := "dovetail/dovetaillaw10.LitPrints", spec := "litPrints", inPlace := ["internal/bytealg.IndexByteString", "internal/bytealg.IndexString"], unfollowed := true, recurses := true, named := ["unicode/utf8.first", "unicode/utf8.acceptRanges", "internal/bytealg.MaxLen"], loops := true, apart := false, laid := [("unicode/utf8.acceptRanges", laid_unicode_utf8_acceptRanges), ("unicode/utf8.first", laid_unicode_utf8_first)], narrowed := true }
def LitPrintsUptoSaid : Prop := litPrintsUptoRow.holds Tryd.pinned (OpenSpec.upto litPrintsSpec)

/-- 'dovetaillaw10.LitBack', WHERE WHAT IT READS IS OF BULK AT MOST 1048576: true; the input reads as it did. -/
def litBackUptoRow : OpenClaim := { program := "ytcgphlilijeifaadoor", sum := "1e598df626ff3017e1181e0c268208719ff6abbed78986f2c75c50e58718b575", func := "dovetail/dovetaillaw10.LitBack", spec := "litBack", inPlace := ["internal/bytealg.IndexByteString", "internal/bytealg.IndexString"], unfollowed := true, recurses := true, named := ["unicode/utf8.first", "unicode/utf8.acceptRanges", "internal/bytealg.MaxLen"], loops := true, apart := false, laid := [("unicode/utf8.acceptRanges", laid_unicode_utf8_acceptRanges), ("unicode/utf8.first", laid_unicode_utf8_first)], narrowed := true }
def LitBackUptoSaid : Prop := litBackUptoRow.holds Tryd.pinned (OpenSpec.upto litBackSpec)

/-- 'dovetaillaw10.LitBehind', WHERE WHAT IT READS IS OF BULK AT MOST 1048576: true; the input reads as it did. -/
def litBehindUptoRow : OpenClaim := { program := "ytcgphlilijeifaadoor", sum := "1e598df626ff3017e1181e0c268208719ff6abbed78986f2c75c50e58718b575", func := "dovetail/dovetaillaw10.LitBehind", spec := "litBehind", inPlace := ["internal/bytealg.IndexByteString", "internal/bytealg.IndexString"], unfollowed := true, recurses := true, named := ["unicode/utf8.first", "unicode/utf8.acceptRanges", "internal/bytealg.MaxLen"], apart := false, laid := [("unicode/utf8.acceptRanges", laid_unicode_utf8_acceptRanges), ("unicode/utf8.first", laid_unicode_utf8_first)], narrowed := true }
def LitBehindUptoSaid : Prop := litBehindUptoRow.holds Tryd.pinned (OpenSpec.upto litBehindSpec)

end Rows
end Go.Proofs.YtcgphlilijeifaaDoor
