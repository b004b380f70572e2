/-
  The walk of the law NatNames.
-/
import Derived.Test.YtcgphlilijeifaaDoorAwake
namespace Go.Proofs.YtcgphlilijeifaaDoor
open Go.RowKit

theorem natNames_walk (w : World) : Calls Tryd.prog 4 #[] w fun e w' => e = .returned (.bool true) ∧ Below w.heap.size w w' := by
  go_enter Tryd.func4, Tryd.ntmps4
  go_wp2_with fail
  refine (awake_ok _).mono ?_
  rintro e w1 ⟨rfl, hb1⟩
  go_wp2
  go_ret
  exact ⟨rfl, hb1⟩
end Go.Proofs.YtcgphlilijeifaaDoor
