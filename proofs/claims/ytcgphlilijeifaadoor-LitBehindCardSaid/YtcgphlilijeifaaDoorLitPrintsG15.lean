import Derived.WalkKit
import Derived.Lib.SmallJoins
import Derived.ChangeMaps5
import Derived.Test.YtcgphlilijeifaaDoorLitPrintsG12
/-
  A number among the arguments, opened.
-/
namespace Go.Proofs.YtcgphlilijeifaaDoor
open Go.ChangeShapes Go.WideShapes Go.ChangeAt Go.RowKit Go.Joins

set_option maxRecDepth 100000 in
theorem open_num {H : Type} {enc : TypeId × Value → H} {w : World} {base b0 : Nat} {sp : Nat → Bool} {held : Bool} {r : Reach} {v : Value} {d : DataW H} {ps : List MemPlace}
    (hval : Value.okWide Tryd.prog w r b0 24 v) (h : DataW.Trod enc Tryd.prog w base sp held 24 v d ps) : ∃ (b : Bool) (s : ByteArray), v = .agg #[.bool b, .string s] ∧ s.size ≤ maxLen := by
  obtain ⟨v0, v1, y0, y1, n, rfl, _, _, h0, h1⟩ := open_agg2 Tryd.underlying24 (by kernel_rfl) (by kernel_rfl) hval h
  obtain ⟨b, hb, _⟩ := DataW.trod_bool Tryd.underlying4 h0
  obtain ⟨s, hs, _, hm⟩ := DataW.trod_string Tryd.underlying9 h1
  obtain rfl : v0 = .bool b := by simpa using hb
  obtain rfl : v1 = .string s := by simpa using hs
  exact ⟨b, s, rfl, hm⟩
end Go.Proofs.YtcgphlilijeifaaDoor
