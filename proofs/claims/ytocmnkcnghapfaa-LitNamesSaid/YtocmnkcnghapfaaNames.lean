/-
  The walks of the two closed laws LitNames and ValueNames: each returns true.
-/
import Derived.Test.YtocmnkcnghapfaaRows
import Derived.WalkKit
namespace Go.Proofs.Ytocmnkcnghapfaa
open Go.RowKit
theorem litNames_walk (w : World) : Calls Try.prog 3 #[] w fun e w' => e = .returned (.bool true) ∧ Below w.heap.size w w' := by
  go_enter Try.func3, Try.ntmps3
  go_wp2
  go_ret
  exact ⟨rfl, Below.refl _ _⟩
theorem valueNames_walk (w : World) : Calls Try.prog 4 #[] w fun e w' => e = .returned (.bool true) ∧ Below w.heap.size w w' := by
  go_enter Try.func4, Try.ntmps4
  go_wp2
  go_ret
  exact ⟨rfl, Below.refl _ _⟩
end Go.Proofs.Ytocmnkcnghapfaa
