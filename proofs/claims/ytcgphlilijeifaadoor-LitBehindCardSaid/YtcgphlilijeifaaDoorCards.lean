/-
  DERIVED. GIVEN WITH THE SEED: THE CARDS: each row of YtcgphlilijeifaaDoorRows.lean that lists a variable, with what it lists TIED to the program's text (the seventh form; the later family's looks); each row that meets fmt, with fmt's text TOLD by the authors' own Lean function (tested against real Go, not proved from fmt's source: count such statements apart). THE CARD IS WHAT COUNTS. Prove the row's statement (the work); the ties are given (YtcgphlilijeifaaDoorTie.lean); close each card by the builder's one call (the guide's Derived/Test/ToyasCard.lean, 'card_holds'). Laid BY PROGRAM, IN A SANDBOX (cutbox-door.mjs). By AI agents, Wed Nov 11 2026. No macro, syntax, notation, axiom, sorry.
-/
import Derived.Test.YtcgphlilijeifaaDoorRows
import GoSem.ClaimSeven
namespace Go.Proofs.YtcgphlilijeifaaDoor
namespace Rows

/-- THE TIED CARD OF 'dovetaillaw09.ValueWant'. -/
def valueWantCard : Claim7 := { stood := { row := valueWantRow, standIns := [], harness := (true, "1491fe2576b24e875237908c66aec4daa40fb3b2c81792a316eebafdc06b9df4"), looks := true }, kinds := [], alts := [], laidByText := true, laidKinds := [.handle], laidTests := true, laidLooks := .later }
def ValueWantCardSaid : Prop := Claim7.holds Tryd.pinned (.plain (OpenSpec.ofChange valueWantSpec)) valueWantCard

/-- THE TIED CARD OF 'dovetaillaw02.NatNames'. -/
def natNamesCard : Claim7 := { stood := { row := natNamesRow, standIns := [], harness := (true, "1491fe2576b24e875237908c66aec4daa40fb3b2c81792a316eebafdc06b9df4"), looks := true }, kinds := [], alts := [], laidByText := true, laidKinds := [.data, .pinned], laidTests := true, laidLooks := .later }
def NatNamesCardSaid : Prop := Claim7.holds Tryd.pinned (.plain (OpenSpec.ofChange natNamesSpec)) natNamesCard

/-- THE TIED CARD OF 'dovetaillaw02.NatBack'. -/
def natBackCard : Claim7 := { stood := { row := natBackRow, standIns := [], harness := (true, "1491fe2576b24e875237908c66aec4daa40fb3b2c81792a316eebafdc06b9df4"), looks := true }, kinds := [], alts := [], laidByText := true, laidKinds := [.data, .pinned], laidTests := true, laidLooks := .later }
def NatBackCardSaid : Prop := Claim7.holds Tryd.pinned (.plain (OpenSpec.ofChange natBackSpec)) natBackCard

/-- THE TIED CARD OF 'dovetaillaw02.NatReads'. -/
def natReadsCard : Claim7 := { stood := { row := natReadsRow, standIns := [], harness := (true, "1491fe2576b24e875237908c66aec4daa40fb3b2c81792a316eebafdc06b9df4"), looks := true }, kinds := [], alts := [], laidByText := true, laidKinds := [.data, .pinned], laidTests := true, laidLooks := .later }
def NatReadsCardSaid : Prop := Claim7.holds Tryd.pinned (.plain (OpenSpec.ofChange natReadsSpec)) natReadsCard

/-- THE TIED CARD OF 'dovetaillaw02.NatExact'. -/
def natExactCard : Claim7 := { stood := { row := natExactRow, standIns := [], harness := (true, "1491fe2576b24e875237908c66aec4daa40fb3b2c81792a316eebafdc06b9df4"), looks := true }, kinds := [], alts := [], laidByText := true, laidKinds := [.data, .pinned], laidTests := true, laidLooks := .later }
def NatExactCardSaid : Prop := Claim7.holds Tryd.pinned (.plain (OpenSpec.ofChange natExactSpec)) natExactCard

/-- THE TIED CARD OF 'dovetaillaw02.NatOrder'. -/
def natOrderCard : Claim7 := { stood := { row := natOrderRow, standIns := [], harness := (true, "1491fe2576b24e875237908c66aec4daa40fb3b2c81792a316eebafdc06b9df4"), looks := true }, kinds := [], alts := [], laidByText := true, laidKinds := [.data, .pinned], laidTests := true, laidLooks := .later }
def NatOrderCardSaid : Prop := Claim7.holds Tryd.pinned (.plain (OpenSpec.ofChange natOrderSpec)) natOrderCard

/-- THE TIED CARD OF 'dovetaillaw02.NatSmall'. -/
def natSmallCard : Claim7 := { stood := { row := natSmallRow, standIns := [], harness := (true, "1491fe2576b24e875237908c66aec4daa40fb3b2c81792a316eebafdc06b9df4"), looks := true }, kinds := [], alts := [], laidByText := true, laidKinds := [.data, .pinned], laidTests := true, laidLooks := .later }
def NatSmallCardSaid : Prop := Claim7.holds Tryd.pinned (.plain (OpenSpec.ofChange natSmallSpec)) natSmallCard

/-- THE TIED CARD OF 'dovetaillaw10.LitPrints'. -/
def litPrintsCard : Claim7 := { stood := { row := litPrintsRow, standIns := [], harness := (true, "1491fe2576b24e875237908c66aec4daa40fb3b2c81792a316eebafdc06b9df4"), looks := true }, kinds := [], alts := [], laidByText := true, laidKinds := [.data, .pinned], laidTests := true, laidLooks := .later }
def LitPrintsCardSaid : Prop := Claim7.holds Tryd.pinned (.plain (OpenSpec.ofChange litPrintsSpec)) litPrintsCard

/-- THE TIED CARD OF 'dovetaillaw10.LitBack'. -/
def litBackCard : Claim7 := { stood := { row := litBackRow, standIns := [], harness := (true, "1491fe2576b24e875237908c66aec4daa40fb3b2c81792a316eebafdc06b9df4"), looks := true }, kinds := [], alts := [], laidByText := true, laidKinds := [.data, .pinned], laidTests := true, laidLooks := .later }
def LitBackCardSaid : Prop := Claim7.holds Tryd.pinned (.plain (OpenSpec.ofChange litBackSpec)) litBackCard

/-- THE TIED CARD OF 'dovetaillaw10.LitBehind'. -/
def litBehindCard : Claim7 := { stood := { row := litBehindRow, standIns := [], harness := (true, "1491fe2576b24e875237908c66aec4daa40fb3b2c81792a316eebafdc06b9df4"), looks := true }, kinds := [], alts := [], laidByText := true, laidKinds := [.data, .pinned], laidTests := true, laidLooks := .later }
def LitBehindCardSaid : Prop := Claim7.holds Tryd.pinned (.plain (OpenSpec.ofChange litBehindSpec)) litBehindCard

/-- THE SECOND FORM's CARD OF 'dovetaillaw09.ValueWant'. -/
def valueWantUptoCard : Claim7 := { stood := { row := valueWantUptoRow, standIns := [], harness := (true, "1491fe2576b24e875237908c66aec4daa40fb3b2c81792a316eebafdc06b9df4"), looks := true }, kinds := [], alts := [], laidByText := true, laidKinds := [.handle], laidTests := true, laidLooks := .later }
def ValueWantUptoCardSaid : Prop := Claim7.holds Tryd.pinned (.plain (OpenSpec.upto valueWantSpec)) valueWantUptoCard

/-- THE SECOND FORM's CARD OF 'dovetaillaw02.NatNames'. -/
def natNamesUptoCard : Claim7 := { stood := { row := natNamesUptoRow, standIns := [], harness := (true, "1491fe2576b24e875237908c66aec4daa40fb3b2c81792a316eebafdc06b9df4"), looks := true }, kinds := [], alts := [], laidByText := true, laidKinds := [.data, .pinned], laidTests := true, laidLooks := .later }
def NatNamesUptoCardSaid : Prop := Claim7.holds Tryd.pinned (.plain (OpenSpec.upto natNamesSpec)) natNamesUptoCard

/-- THE SECOND FORM's CARD OF 'dovetaillaw02.NatBack'. -/
def natBackUptoCard : Claim7 := { stood := { row := natBackUptoRow, standIns := [], harness := (true, "1491fe2576b24e875237908c66aec4daa40fb3b2c81792a316eebafdc06b9df4"), looks := true }, kinds := [], alts := [], laidByText := true, laidKinds := [.data, .pinned], laidTests := true, laidLooks := .later }
def NatBackUptoCardSaid : Prop := Claim7.holds Tryd.pinned (.plain (OpenSpec.upto natBackSpec)) natBackUptoCard

/-- THE SECOND FORM's CARD OF 'dovetaillaw02.NatReads'. -/
def natReadsUptoCard : Claim7 := { stood := { row := natReadsUptoRow, standIns := [], harness := (true, "1491fe2576b24e875237908c66aec4daa40fb3b2c81792a316eebafdc06b9df4"), looks := true }, kinds := [], alts := [], laidByText := true, laidKinds := [.data, .pinned], laidTests := true, laidLooks := .later }
def NatReadsUptoCardSaid : Prop := Claim7.holds Tryd.pinned (.plain (OpenSpec.upto natReadsSpec)) natReadsUptoCard

/-- THE SECOND FORM's CARD OF 'dovetaillaw02.NatExact'. -/
def natExactUptoCard : Claim7 := { stood := { row := natExactUptoRow, standIns := [], harness := (true, "1491fe2576b24e875237908c66aec4daa40fb3b2c81792a316eebafdc06b9df4"), looks := true }, kinds := [], alts := [], laidByText := true, laidKinds := [.data, .pinned], laidTests := true, laidLooks := .later }
def NatExactUptoCardSaid : Prop := Claim7.holds Tryd.pinned (.plain (OpenSpec.upto natExactSpec)) natExactUptoCard

/-- THE SECOND FORM's CARD OF 'dovetaillaw02.NatOrder'. -/
def natOrderUptoCard : Claim7 := { stood := { row := natOrderUptoRow, standIns := [], harness := (true, "1491fe2576b24e875237908c66aec4daa40fb3b2c81792a316eebafdc06b9df4"), looks := true }, kinds := [], alts := [], laidByText := true, laidKinds := [.data, .pinned], laidTests := true, laidLooks := .later }
def NatOrderUptoCardSaid : Prop := Claim7.holds Tryd.pinned (.plain (OpenSpec.upto natOrderSpec)) natOrderUptoCard

/-- THE SECOND FORM's CARD OF 'dovetaillaw02.NatSmall'. -/
def natSmallUptoCard : Claim7 := { stood := { row := natSmallUptoRow, standIns := [], harness := (true, "1491fe2576b24e875237908c66aec4daa40fb3b2c81792a316eebafdc06b9df4"), looks := true }, kinds := [], alts := [], laidByText := true, laidKinds := [.data, .pinned], laidTests := true, laidLooks := .later }
def NatSmallUptoCardSaid : Prop := Claim7.holds Tryd.pinned (.plain (OpenSpec.upto natSmallSpec)) natSmallUptoCard

/-- THE SECOND FORM's CARD OF 'dovetaillaw10.LitPrints'. -/
def litPrintsUptoCard : Claim7 := { stood := { row := litPrintsUptoRow, standIns := [], harness := (true, "1491fe2576b24e875237908c66aec4daa40fb3b2c81792a316eebafdc06b9df4"), looks := true }, kinds := [], alts := [], laidByText := true, laidKinds := [.data, .pinned], laidTests := true, laidLooks := .later }
def LitPrintsUptoCardSaid : Prop := Claim7.holds Tryd.pinned (.plain (OpenSpec.upto litPrintsSpec)) litPrintsUptoCard

/-- THE SECOND FORM's CARD OF 'dovetaillaw10.LitBack'. -/
def litBackUptoCard : Claim7 := { stood := { row := litBackUptoRow, standIns := [], harness := (true, "1491fe2576b24e875237908c66aec4daa40fb3b2c81792a316eebafdc06b9df4"), looks := true }, kinds := [], alts := [], laidByText := true, laidKinds := [.data, .pinned], laidTests := true, laidLooks := .later }
def LitBackUptoCardSaid : Prop := Claim7.holds Tryd.pinned (.plain (OpenSpec.upto litBackSpec)) litBackUptoCard

/-- THE SECOND FORM's CARD OF 'dovetaillaw10.LitBehind'. -/
def litBehindUptoCard : Claim7 := { stood := { row := litBehindUptoRow, standIns := [], harness := (true, "1491fe2576b24e875237908c66aec4daa40fb3b2c81792a316eebafdc06b9df4"), looks := true }, kinds := [], alts := [], laidByText := true, laidKinds := [.data, .pinned], laidTests := true, laidLooks := .later }
def LitBehindUptoCardSaid : Prop := Claim7.holds Tryd.pinned (.plain (OpenSpec.upto litBehindSpec)) litBehindUptoCard
end Rows
end Go.Proofs.YtcgphlilijeifaaDoor
