/-
  The order of two numbers as plain data.
-/
import Derived.Test.YtcgphlilijeifaaDoorCmp
import Derived.Test.YtcgphlilijeifaaDoorNum
namespace Go.Proofs.YtcgphlilijeifaaDoor

/-- The order of two magnitudes. -/
def mcmp (a b : List UInt8) : Int := if a.length < b.length then -1 else if b.length < a.length then 1 else cmp a b
/-- The order of two numbers. -/
def ncmp (x : Bool) (a : List UInt8) (y : Bool) (b : List UInt8) : Int :=
  if x then (if y then mcmp b a else -1) else (if y then 1 else mcmp a b)
theorem mcmp_swap (a b : List UInt8) : mcmp b a = - mcmp a b := by
  unfold mcmp
  by_cases h1 : a.length < b.length
  · rw [if_neg (by omega), if_pos h1, if_pos h1]; rfl
  · by_cases h2 : b.length < a.length
    · rw [if_pos h2, if_neg h1, if_pos h2]
    · rw [if_neg h2, if_neg h1, if_neg h1, if_neg h2, cmp_swap]
theorem mcmp_self (a : List UInt8) : mcmp a a = 0 := by simp [mcmp, cmp_self]
theorem mcmp_zero {a b : List UInt8} (h : mcmp a b = 0) : a = b := by
  unfold mcmp at h
  split at h
  · simp at h
  · split at h
    · simp at h
    · exact cmp_zero h
theorem mcmp_three (a b : List UInt8) : mcmp a b = -1 ∨ mcmp a b = 0 ∨ mcmp a b = 1 := by
  unfold mcmp
  split
  · simp
  · split
    · simp
    · exact cmp_three a b
theorem ncmp_swap (x y : Bool) (a b : List UInt8) : ncmp y b x a = - ncmp x a y b := by
  cases x <;> cases y <;> simp [ncmp] <;> exact mcmp_swap _ _
theorem ncmp_three (x y : Bool) (a b : List UInt8) : ncmp x a y b = -1 ∨ ncmp x a y b = 0 ∨ ncmp x a y b = 1 := by
  cases x <;> cases y <;> simp [ncmp] <;> exact mcmp_three _ _
theorem ncmp_zero {x y : Bool} {a b : List UInt8} (h : ncmp x a y b = 0) : x = y ∧ a = b := by
  cases x <;> cases y <;> simp [ncmp] at h
  · exact ⟨rfl, mcmp_zero h⟩
  · exact ⟨rfl, (mcmp_zero h).symm⟩
theorem ncmp_self (x : Bool) (a : List UInt8) : ncmp x a x a = 0 := by cases x <;> simp [ncmp, mcmp_self]
end Go.Proofs.YtcgphlilijeifaaDoor
