/-
  DERIVED. GIVEN WITH THE SEED: THE CARDS: each row of YtcgnajeenflfaaaGreatDoorRows.lean that lists a variable, with what it lists TIED to the program's text (the seventh form; the later family's looks); each row that meets fmt, with fmt's text TOLD by the authors' own Lean function (tested against real Go, not proved from fmt's source: count such statements apart). THE CARD IS WHAT COUNTS. Prove the row's statement (the work); the ties are given (YtcgnajeenflfaaaGreatDoorTie.lean); close each card by the builder's one call (the guide's Derived/Test/ToyasCard.lean, 'card_holds'). Laid BY PROGRAM, IN A SANDBOX (cutbox-door.mjs). By AI agents, Wed Nov 11 2026. No macro, syntax, notation, axiom, sorry.
-/
import Derived.Test.YtcgnajeenflfaaaGreatDoorRows
import GoSem.ClaimSeven
namespace Go.Proofs.YtcgnajeenflfaaaGreatDoor
namespace Rows

/-- THE TIED CARD OF 'dovetailtop.TopBytes'. -/
def topBytesCard : Claim7 := { stood := { row := topBytesRow, standIns := [], harness := (true, "8b1f583de6fd4028691ac25381a7038230e6af7d948ad6fd58f37f6bf1fac66a"), looks := true }, kinds := [], alts := [], laidByText := true, laidKinds := [.data, .data, .data, .data, .handle, .sentinel, .sentinel, .pinned, .pinned], laidTests := true, laidLooks := .later }
def TopBytesCardSaid : Prop := Claim7.holds Tryz.pinned (.plain (OpenSpec.ofChange topBytesSpec)) topBytesCard

/-- THE TIED CARD OF 'dovetailtop.TopRekeys'. -/
def topRekeysCard : Claim7 := { stood := { row := topRekeysRow, standIns := [], harness := (true, "8b1f583de6fd4028691ac25381a7038230e6af7d948ad6fd58f37f6bf1fac66a"), looks := true }, kinds := [], alts := [], laidByText := true, laidKinds := [.data, .data, .data, .data, .handle, .sentinel, .sentinel, .sentinel, .pinned, .pinned], laidTests := true, laidLooks := .later }
def TopRekeysCardSaid : Prop := Claim7.holds Tryz.pinned (.plain (OpenSpec.ofChange topRekeysSpec)) topRekeysCard

/-- THE SECOND FORM's CARD OF 'dovetailtop.TopBytes'. -/
def topBytesUptoCard : Claim7 := { stood := { row := topBytesUptoRow, standIns := [], harness := (true, "8b1f583de6fd4028691ac25381a7038230e6af7d948ad6fd58f37f6bf1fac66a"), looks := true }, kinds := [], alts := [], laidByText := true, laidKinds := [.data, .data, .data, .data, .handle, .sentinel, .sentinel, .pinned, .pinned], laidTests := true, laidLooks := .later }
def TopBytesUptoCardSaid : Prop := Claim7.holds Tryz.pinned (.plain (OpenSpec.upto topBytesSpec)) topBytesUptoCard

/-- THE SECOND FORM's CARD OF 'dovetailtop.TopRekeys'. -/
def topRekeysUptoCard : Claim7 := { stood := { row := topRekeysUptoRow, standIns := [], harness := (true, "8b1f583de6fd4028691ac25381a7038230e6af7d948ad6fd58f37f6bf1fac66a"), looks := true }, kinds := [], alts := [], laidByText := true, laidKinds := [.data, .data, .data, .data, .handle, .sentinel, .sentinel, .sentinel, .pinned, .pinned], laidTests := true, laidLooks := .later }
def TopRekeysUptoCardSaid : Prop := Claim7.holds Tryz.pinned (.plain (OpenSpec.upto topRekeysSpec)) topRekeysUptoCard
end Rows
end Go.Proofs.YtcgnajeenflfaaaGreatDoor
