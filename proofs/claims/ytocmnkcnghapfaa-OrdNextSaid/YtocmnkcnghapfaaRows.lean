/-
  No cell of these rows narrows 'for every input' (looked for: loops, veiled, ifaces, maps, wideKeys, modest, calm, conditions, laid).
  DERIVED. THE GIVEN ROWS OF THIS SEAT. 6 by the template 'for every input the law returns true; each argument reads behind the call as it read before'; 0 by the template 'total and deterministic' (their statements: YtocmnkcnghapfaaTotals.lean).
  GIVEN WITH THE SEED: the statements are not yours to turn. If you find one false, say at which input.
  Laid BY PROGRAM, IN A SANDBOX (cutbox-rows.mjs): the forced cells as the released guide's own fill.sh prints them over the translation c6c731af3ac20223… (all of the seat's roots in one cut). By AI agents, Wed Nov 11 2026. No macro, syntax, notation, axiom, sorry.
-/
import Derived.Test.YtocmnkcnghapfaaChecked
import GoSem.Claim
import GoSem.ClaimJoined
import GoSem.ClaimMapViews
import Derived.JoinedTies
import Derived.KernelRfl
namespace Go.Proofs.Ytocmnkcnghapfaa
/- THE CELL 'sum', in the pinned program and in every row, IS THE sha256 OF THE DUMP (.gsa) THAT YtocmnkcnghapfaaProg.lean LOADS. Nothing in Lean hashes anything: it is a label: what it is worth is what the hold of that sum in a sandbox is worth. -/
noncomputable def Try.pinned : Pinned := { name := "ytocmnkcnghapfaa", sum := "c6c731af3ac2022334a9cbbe4c2e55f0e9c9c1542faac0b22bd658d92fc700f1", checked := Try.checked }
namespace Rows
def none {H : Type} : Left H := { results := [], args := [] }

/-- 'dovetaillaw10.LitNames': WHATEVER THE INPUT: true; the input reads as it did. -/
def litNamesSpec : ChangeSpec := { name := "litNames", fn := fun _ => fun
  | [] => { results := [.lit (.bool true)], args := [] }
  | _ => none }
def litNamesRow : OpenClaim := { program := "ytocmnkcnghapfaa", sum := "c6c731af3ac2022334a9cbbe4c2e55f0e9c9c1542faac0b22bd658d92fc700f1", func := "dovetail/dovetaillaw10.LitNames", spec := "litNames", apart := false }
def LitNamesSaid : Prop := litNamesRow.holds Try.pinned (OpenSpec.ofChange litNamesSpec)

/-- ITS FALSE NEIGHBOUR: 'it returns false'. Refute it at one input. -/
def litNamesWrong : ChangeSpec := { name := "litNames", fn := fun _ => fun
  | [] => { results := [.lit (.bool false)], args := [] }
  | _ => none }
def LitNamesWrongFalsely : Prop := litNamesRow.holds Try.pinned (OpenSpec.ofChange litNamesWrong)

/-- 'dovetaillaw09.ValueNames': WHATEVER THE INPUT: true; the input reads as it did. -/
def valueNamesSpec : ChangeSpec := { name := "valueNames", fn := fun _ => fun
  | [] => { results := [.lit (.bool true)], args := [] }
  | _ => none }
def valueNamesRow : OpenClaim := { program := "ytocmnkcnghapfaa", sum := "c6c731af3ac2022334a9cbbe4c2e55f0e9c9c1542faac0b22bd658d92fc700f1", func := "dovetail/dovetaillaw09.ValueNames", spec := "valueNames", apart := false }
def ValueNamesSaid : Prop := valueNamesRow.holds Try.pinned (OpenSpec.ofChange valueNamesSpec)

/-- ITS FALSE NEIGHBOUR: 'it returns false'. Refute it at one input. -/
def valueNamesWrong : ChangeSpec := { name := "valueNames", fn := fun _ => fun
  | [] => { results := [.lit (.bool false)], args := [] }
  | _ => none }
def ValueNamesWrongFalsely : Prop := valueNamesRow.holds Try.pinned (OpenSpec.ofChange valueNamesWrong)

/-- 'dovetaillaw01.OrdNames': WHATEVER THE INPUT: true; the input reads as it did. -/
def ordNamesSpec : ChangeSpec := { name := "ordNames", fn := fun _ => fun
  | [] => { results := [.lit (.bool true)], args := [] }
  | _ => none }
def ordNamesRow : OpenClaim := { program := "ytocmnkcnghapfaa", sum := "c6c731af3ac2022334a9cbbe4c2e55f0e9c9c1542faac0b22bd658d92fc700f1", func := "dovetail/dovetaillaw01.OrdNames", spec := "ordNames", apart := false }
def OrdNamesSaid : Prop := ordNamesRow.holds Try.pinned (OpenSpec.ofChange ordNamesSpec)

/-- ITS FALSE NEIGHBOUR: 'it returns false'. Refute it at one input. -/
def ordNamesWrong : ChangeSpec := { name := "ordNames", fn := fun _ => fun
  | [] => { results := [.lit (.bool false)], args := [] }
  | _ => none }
def OrdNamesWrongFalsely : Prop := ordNamesRow.holds Try.pinned (OpenSpec.ofChange ordNamesWrong)

/-- 'dovetaillaw01.OrdEscapes': WHATEVER THE INPUT: true; the input reads as it did. -/
def ordEscapesSpec : ChangeSpec := { name := "ordEscapes", fn := fun _ => fun
  | [d1, d2, d3, d4] => { results := [.lit (.bool true)], args := [d1, d2, d3, d4] }
  | _ => none }
def ordEscapesRow : OpenClaim := { program := "ytocmnkcnghapfaa", sum := "c6c731af3ac2022334a9cbbe4c2e55f0e9c9c1542faac0b22bd658d92fc700f1", func := "dovetail/dovetaillaw01.OrdEscapes", spec := "ordEscapes", apart := false }
def OrdEscapesSaid : Prop := ordEscapesRow.holds Try.pinned (OpenSpec.ofChange ordEscapesSpec)

/-- ITS FALSE NEIGHBOUR: 'it returns false'. Refute it at one input. -/
def ordEscapesWrong : ChangeSpec := { name := "ordEscapes", fn := fun _ => fun
  | [d1, d2, d3, d4] => { results := [.lit (.bool false)], args := [d1, d2, d3, d4] }
  | _ => none }
def OrdEscapesWrongFalsely : Prop := ordEscapesRow.holds Try.pinned (OpenSpec.ofChange ordEscapesWrong)

/-- 'dovetaillaw01.OrdReads': WHATEVER THE INPUT: true; the input reads as it did. -/
def ordReadsSpec : ChangeSpec := { name := "ordReads", fn := fun _ => fun
  | [d1, d2] => { results := [.lit (.bool true)], args := [d1, d2] }
  | _ => none }
def ordReadsRow : OpenClaim := { program := "ytocmnkcnghapfaa", sum := "c6c731af3ac2022334a9cbbe4c2e55f0e9c9c1542faac0b22bd658d92fc700f1", func := "dovetail/dovetaillaw01.OrdReads", spec := "ordReads", apart := false }
def OrdReadsSaid : Prop := ordReadsRow.holds Try.pinned (OpenSpec.ofChange ordReadsSpec)

/-- ITS FALSE NEIGHBOUR: 'it returns false'. Refute it at one input. -/
def ordReadsWrong : ChangeSpec := { name := "ordReads", fn := fun _ => fun
  | [d1, d2] => { results := [.lit (.bool false)], args := [d1, d2] }
  | _ => none }
def OrdReadsWrongFalsely : Prop := ordReadsRow.holds Try.pinned (OpenSpec.ofChange ordReadsWrong)

/-- 'dovetaillaw01.OrdNext': WHATEVER THE INPUT: true; the input reads as it did. -/
def ordNextSpec : ChangeSpec := { name := "ordNext", fn := fun _ => fun
  | [d1, d2] => { results := [.lit (.bool true)], args := [d1, d2] }
  | _ => none }
def ordNextRow : OpenClaim := { program := "ytocmnkcnghapfaa", sum := "c6c731af3ac2022334a9cbbe4c2e55f0e9c9c1542faac0b22bd658d92fc700f1", func := "dovetail/dovetaillaw01.OrdNext", spec := "ordNext", apart := false }
def OrdNextSaid : Prop := ordNextRow.holds Try.pinned (OpenSpec.ofChange ordNextSpec)

/-- ITS FALSE NEIGHBOUR: 'it returns false'. Refute it at one input. -/
def ordNextWrong : ChangeSpec := { name := "ordNext", fn := fun _ => fun
  | [d1, d2] => { results := [.lit (.bool false)], args := [d1, d2] }
  | _ => none }
def OrdNextWrongFalsely : Prop := ordNextRow.holds Try.pinned (OpenSpec.ofChange ordNextWrong)

/- THE SECOND FORM. 'bulk': how many values and letters a reading holds, each counted each time it is reached (what is shared counts as often as it is met; a slice's spare places count too). A statement '..UptoSaid' is the law's where the arguments, and the package variables that the reading takes, are together of bulk at most 1048576: NARROWER than '..Said'. Prove '..Said' where nothing that the law and all that it calls make is longer than what came in: it says more and counts as full. Else prove '..UptoSaid'. A law counts once. -/
mutual
def uptoBulk {H : Type} : DataW H → Nat
  | .lit (.string bytes) => bytes.length + 1
  | .lit _ => 1
  | .nil => 1
  | .ptr d => uptoBulk d + 1
  | .slice elems spare => uptoBulkAll elems + uptoBulkAll spare + 1
  | .agg parts => uptoBulkAll parts + 1
  | .iface _ d => uptoBulk d + 1
  | .map entries => uptoBulkEntries entries + 1
  | .held _ => 1
def uptoBulkAll {H : Type} : List (DataW H) → Nat
  | [] => 0
  | d :: r => uptoBulk d + uptoBulkAll r
def uptoBulkEntries {H : Type} : List (Lit × DataW H) → Nat
  | [] => 0
  | x :: r => uptoBulkEntry x + uptoBulkEntries r
def uptoBulkEntry {H : Type} : Lit × DataW H → Nat
  | (.string bytes, d) => bytes.length + uptoBulk d + 1
  | (_, d) => uptoBulk d + 1
 end
def uptoSmall : (H : Type) → List (DataW H) → Bool := fun _ ds => decide (uptoBulkAll ds ≤ 1048576)
def OpenSpec.upto (s : _root_.Go.ChangeSpec) : _root_.Go.OpenSpec := { _root_.Go.OpenSpec.ofChange s with cond := some uptoSmall }

/-- 'dovetaillaw10.LitNames', WHERE WHAT IT READS IS OF BULK AT MOST 1048576: true; the input reads as it did. -/
def litNamesUptoRow : OpenClaim := { program := "ytocmnkcnghapfaa", sum := "c6c731af3ac2022334a9cbbe4c2e55f0e9c9c1542faac0b22bd658d92fc700f1", func := "dovetail/dovetaillaw10.LitNames", spec := "litNames", apart := false, narrowed := true }
def LitNamesUptoSaid : Prop := litNamesUptoRow.holds Try.pinned (OpenSpec.upto litNamesSpec)

/-- 'dovetaillaw09.ValueNames', WHERE WHAT IT READS IS OF BULK AT MOST 1048576: true; the input reads as it did. -/
def valueNamesUptoRow : OpenClaim := { program := "ytocmnkcnghapfaa", sum := "c6c731af3ac2022334a9cbbe4c2e55f0e9c9c1542faac0b22bd658d92fc700f1", func := "dovetail/dovetaillaw09.ValueNames", spec := "valueNames", apart := false, narrowed := true }
def ValueNamesUptoSaid : Prop := valueNamesUptoRow.holds Try.pinned (OpenSpec.upto valueNamesSpec)

/-- 'dovetaillaw01.OrdNames', WHERE WHAT IT READS IS OF BULK AT MOST 1048576: true; the input reads as it did. -/
def ordNamesUptoRow : OpenClaim := { program := "ytocmnkcnghapfaa", sum := "c6c731af3ac2022334a9cbbe4c2e55f0e9c9c1542faac0b22bd658d92fc700f1", func := "dovetail/dovetaillaw01.OrdNames", spec := "ordNames", apart := false, narrowed := true }
def OrdNamesUptoSaid : Prop := ordNamesUptoRow.holds Try.pinned (OpenSpec.upto ordNamesSpec)

/-- 'dovetaillaw01.OrdEscapes', WHERE WHAT IT READS IS OF BULK AT MOST 1048576: true; the input reads as it did. -/
def ordEscapesUptoRow : OpenClaim := { program := "ytocmnkcnghapfaa", sum := "c6c731af3ac2022334a9cbbe4c2e55f0e9c9c1542faac0b22bd658d92fc700f1", func := "dovetail/dovetaillaw01.OrdEscapes", spec := "ordEscapes", apart := false, narrowed := true }
def OrdEscapesUptoSaid : Prop := ordEscapesUptoRow.holds Try.pinned (OpenSpec.upto ordEscapesSpec)

/-- 'dovetaillaw01.OrdReads', WHERE WHAT IT READS IS OF BULK AT MOST 1048576: true; the input reads as it did. -/
def ordReadsUptoRow : OpenClaim := { program := "ytocmnkcnghapfaa", sum := "c6c731af3ac2022334a9cbbe4c2e55f0e9c9c1542faac0b22bd658d92fc700f1", func := "dovetail/dovetaillaw01.OrdReads", spec := "ordReads", apart := false, narrowed := true }
def OrdReadsUptoSaid : Prop := ordReadsUptoRow.holds Try.pinned (OpenSpec.upto ordReadsSpec)

/-- 'dovetaillaw01.OrdNext', WHERE WHAT IT READS IS OF BULK AT MOST 1048576: true; the input reads as it did. -/
def ordNextUptoRow : OpenClaim := { program := "ytocmnkcnghapfaa", sum := "c6c731af3ac2022334a9cbbe4c2e55f0e9c9c1542faac0b22bd658d92fc700f1", func := "dovetail/dovetaillaw01.OrdNext", spec := "ordNext", apart := false, narrowed := true }
def OrdNextUptoSaid : Prop := ordNextUptoRow.holds Try.pinned (OpenSpec.upto ordNextSpec)

end Rows
end Go.Proofs.Ytocmnkcnghapfaa
