/-
  NARROWER THAN 'FOR EVERY INPUT', by the rows' own cells (each row's printed sentence says how): ValueMakes: loops · ValueOf: loops · ValueSame: loops · ValueBack: loops.
  DERIVED. THE GIVEN ROWS OF THIS SEAT. 4 by the template 'for every input the law returns true; each argument reads behind the call as it read before'; 0 by the template 'total and deterministic' (their statements: YtcgphlilijeifaaTotals.lean).
  GIVEN WITH THE SEED: the statements are not yours to turn. If you find one false, say at which input.
  Laid BY PROGRAM, IN A SANDBOX (cutbox-rows.mjs): the forced cells as the released guide's own fill.sh prints them over the translation 3c0bde862dc89551… (all of the seat's roots in one cut). By AI agents, Wed Nov 11 2026. No macro, syntax, notation, axiom, sorry.
-/
import Derived.Test.YtcgphlilijeifaaChecked
import GoSem.Claim
import GoSem.ClaimJoined
import GoSem.ClaimMapViews
import Derived.JoinedTies
import Derived.KernelRfl
namespace Go.Proofs.Ytcgphlilijeifaa
/- THE CELL 'sum', in the pinned program and in every row, IS THE sha256 OF THE DUMP (.gsa) THAT YtcgphlilijeifaaProg.lean LOADS. Nothing in Lean hashes anything: it is a label: what it is worth is what the hold of that sum in a sandbox is worth. -/
noncomputable def Try.pinned : Pinned := { name := "ytcgphlilijeifaa", sum := "3c0bde862dc8955172deac90cd0b1512f16158009d17e84385b7c2fe19adeb37", checked := Try.checked }
namespace Rows
def none {H : Type} : Left H := { results := [], args := [] }

/-- 'dovetaillaw09.ValueMakes': WHATEVER THE INPUT: true; the input reads as it did. -/
def valueMakesSpec : ChangeSpec := { name := "valueMakes", fn := fun _ => fun
  | [d1, d2] => { results := [.lit (.bool true)], args := [d1, d2] }
  | _ => none }
def valueMakesRow : OpenClaim := { program := "ytcgphlilijeifaa", sum := "3c0bde862dc8955172deac90cd0b1512f16158009d17e84385b7c2fe19adeb37", func := "dovetail/dovetaillaw09.ValueMakes", spec := "valueMakes", unfollowed := true, recurses := true, loops := true, apart := false }
def ValueMakesSaid : Prop := valueMakesRow.holds Try.pinned (OpenSpec.ofChange valueMakesSpec)

/-- ITS FALSE NEIGHBOUR: 'it returns false'. Refute it at one input. -/
def valueMakesWrong : ChangeSpec := { name := "valueMakes", fn := fun _ => fun
  | [d1, d2] => { results := [.lit (.bool false)], args := [d1, d2] }
  | _ => none }
def ValueMakesWrongFalsely : Prop := valueMakesRow.holds Try.pinned (OpenSpec.ofChange valueMakesWrong)

/-- 'dovetaillaw09.ValueOf': WHATEVER THE INPUT: true; the input reads as it did. -/
def valueOfSpec : ChangeSpec := { name := "valueOf", fn := fun _ => fun
  | [d] => { results := [.lit (.bool true)], args := [d] }
  | _ => none }
def valueOfRow : OpenClaim := { program := "ytcgphlilijeifaa", sum := "3c0bde862dc8955172deac90cd0b1512f16158009d17e84385b7c2fe19adeb37", func := "dovetail/dovetaillaw09.ValueOf", spec := "valueOf", unfollowed := true, recurses := true, loops := true, apart := false }
def ValueOfSaid : Prop := valueOfRow.holds Try.pinned (OpenSpec.ofChange valueOfSpec)

/-- ITS FALSE NEIGHBOUR: 'it returns false'. Refute it at one input. -/
def valueOfWrong : ChangeSpec := { name := "valueOf", fn := fun _ => fun
  | [d] => { results := [.lit (.bool false)], args := [d] }
  | _ => none }
def ValueOfWrongFalsely : Prop := valueOfRow.holds Try.pinned (OpenSpec.ofChange valueOfWrong)

/-- 'dovetaillaw09.ValueSame': WHATEVER THE INPUT: true; the input reads as it did. -/
def valueSameSpec : ChangeSpec := { name := "valueSame", fn := fun _ => fun
  | [d1, d2] => { results := [.lit (.bool true)], args := [d1, d2] }
  | _ => none }
def valueSameRow : OpenClaim := { program := "ytcgphlilijeifaa", sum := "3c0bde862dc8955172deac90cd0b1512f16158009d17e84385b7c2fe19adeb37", func := "dovetail/dovetaillaw09.ValueSame", spec := "valueSame", unfollowed := true, recurses := true, loops := true, apart := false }
def ValueSameSaid : Prop := valueSameRow.holds Try.pinned (OpenSpec.ofChange valueSameSpec)

/-- ITS FALSE NEIGHBOUR: 'it returns false'. Refute it at one input. -/
def valueSameWrong : ChangeSpec := { name := "valueSame", fn := fun _ => fun
  | [d1, d2] => { results := [.lit (.bool false)], args := [d1, d2] }
  | _ => none }
def ValueSameWrongFalsely : Prop := valueSameRow.holds Try.pinned (OpenSpec.ofChange valueSameWrong)

/-- 'dovetaillaw09.ValueBack': WHATEVER THE INPUT: true; the input reads as it did. -/
def valueBackSpec : ChangeSpec := { name := "valueBack", fn := fun _ => fun
  | [d] => { results := [.lit (.bool true)], args := [d] }
  | _ => none }
def valueBackRow : OpenClaim := { program := "ytcgphlilijeifaa", sum := "3c0bde862dc8955172deac90cd0b1512f16158009d17e84385b7c2fe19adeb37", func := "dovetail/dovetaillaw09.ValueBack", spec := "valueBack", unfollowed := true, recurses := true, loops := true, apart := false }
def ValueBackSaid : Prop := valueBackRow.holds Try.pinned (OpenSpec.ofChange valueBackSpec)

/-- ITS FALSE NEIGHBOUR: 'it returns false'. Refute it at one input. -/
def valueBackWrong : ChangeSpec := { name := "valueBack", fn := fun _ => fun
  | [d] => { results := [.lit (.bool false)], args := [d] }
  | _ => none }
def ValueBackWrongFalsely : Prop := valueBackRow.holds Try.pinned (OpenSpec.ofChange valueBackWrong)

/- THE SECOND FORM. 'bulk': how many values and letters a reading holds, each counted each time it is reached (what is shared counts as often as it is met; a slice's spare places count too). A statement '..UptoSaid' is the law's where the arguments, and the package variables that the reading takes, are together of bulk at most 1048576: NARROWER than '..Said'. Prove '..Said' where nothing that the law and all that it calls make is longer than what came in: it says more and counts as full. Else prove '..UptoSaid'. A law counts once. -/
mutual
def uptoBulk {H : Type} : DataW H → Nat
  | .lit (.string bytes) => bytes.length + 1
  | .lit _ => 1
  | .nil => 1
  | .ptr d => uptoBulk d + 1
  | .slice elems spare => uptoBulkAll elems + uptoBulkAll spare + 1
  | .agg parts => uptoBulkAll parts + 1
  | .iface _ d => uptoBulk d + 1
  | .map entries => uptoBulkEntries entries + 1
  | .held _ => 1
def uptoBulkAll {H : Type} : List (DataW H) → Nat
  | [] => 0
  | d :: r => uptoBulk d + uptoBulkAll r
def uptoBulkEntries {H : Type} : List (Lit × DataW H) → Nat
  | [] => 0
  | x :: r => uptoBulkEntry x + uptoBulkEntries r
def uptoBulkEntry {H : Type} : Lit × DataW H → Nat
  | (.string bytes, d) => bytes.length + uptoBulk d + 1
  | (_, d) => uptoBulk d + 1
 end
def uptoSmall : (H : Type) → List (DataW H) → Bool := fun _ ds => decide (uptoBulkAll ds ≤ 1048576)
def OpenSpec.upto (s : _root_.Go.ChangeSpec) : _root_.Go.OpenSpec := { _root_.Go.OpenSpec.ofChange s with cond := some uptoSmall }

/-- 'dovetaillaw09.ValueMakes', WHERE WHAT IT READS IS OF BULK AT MOST 1048576: true; the input reads as it did. -/
def valueMakesUptoRow : OpenClaim := { program := "ytcgphlilijeifaa", sum := "3c0bde862dc8955172deac90cd0b1512f16158009d17e84385b7c2fe19adeb37", func := "dovetail/dovetaillaw09.ValueMakes", spec := "valueMakes", unfollowed := true, recurses := true, loops := true, apart := false, narrowed := true }
def ValueMakesUptoSaid : Prop := valueMakesUptoRow.holds Try.pinned (OpenSpec.upto valueMakesSpec)

/-- 'dovetaillaw09.ValueOf', WHERE WHAT IT READS IS OF BULK AT MOST 1048576: true; the input reads as it did. -/
def valueOfUptoRow : OpenClaim := { program := "ytcgphlilijeifaa", sum := "3c0bde862dc8955172deac90cd0b1512f16158009d17e84385b7c2fe19adeb37", func := "dovetail/dovetaillaw09.ValueOf", spec := "valueOf", unfollowed := true, recurses := true, loops := true, apart := false, narrowed := true }
def ValueOfUptoSaid : Prop := valueOfUptoRow.holds Try.pinned (OpenSpec.upto valueOfSpec)

/-- 'dovetaillaw09.ValueSame', WHERE WHAT IT READS IS OF BULK AT MOST 1048576: true; the input reads as it did. -/
def valueSameUptoRow : OpenClaim := { program := "ytcgphlilijeifaa", sum := "3c0bde862dc8955172deac90cd0b1512f16158009d17e84385b7c2fe19adeb37", func := "dovetail/dovetaillaw09.ValueSame", spec := "valueSame", unfollowed := true, recurses := true, loops := true, apart := false, narrowed := true }
def ValueSameUptoSaid : Prop := valueSameUptoRow.holds Try.pinned (OpenSpec.upto valueSameSpec)

/-- 'dovetaillaw09.ValueBack', WHERE WHAT IT READS IS OF BULK AT MOST 1048576: true; the input reads as it did. -/
def valueBackUptoRow : OpenClaim := { program := "ytcgphlilijeifaa", sum := "3c0bde862dc8955172deac90cd0b1512f16158009d17e84385b7c2fe19adeb37", func := "dovetail/dovetaillaw09.ValueBack", spec := "valueBack", unfollowed := true, recurses := true, loops := true, apart := false, narrowed := true }
def ValueBackUptoSaid : Prop := valueBackUptoRow.holds Try.pinned (OpenSpec.upto valueBackSpec)

end Rows
end Go.Proofs.Ytcgphlilijeifaa
