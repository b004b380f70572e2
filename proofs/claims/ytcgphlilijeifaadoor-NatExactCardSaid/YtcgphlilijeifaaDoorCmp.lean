/-
  The order of two lists of bytes, and how Go's comparison of strings tells it.
-/
import GoSem.Op.String
namespace Go.Proofs.YtcgphlilijeifaaDoor

/-- -1, 0 or 1: a stands ahead of b, is b, stands behind it. -/
def cmp : List UInt8 → List UInt8 → Int
  | [], [] => 0
  | [], _ :: _ => -1
  | _ :: _, [] => 1
  | c :: r, d :: q => if c < d then -1 else if d < c then 1 else cmp r q

theorem cmp_swap (a b : List UInt8) : cmp b a = - cmp a b := by
  induction a generalizing b with
  | nil => cases b <;> simp [cmp]
  | cons c r ih =>
    cases b with
    | nil => simp [cmp]
    | cons d q =>
      simp only [cmp]
      have := ih q
      split <;> rename_i h1
      · rw [if_neg (by simp only [UInt8.not_lt]; exact UInt8.le_of_lt h1)]
      · split
        · rfl
        · exact this
theorem cmp_self (a : List UInt8) : cmp a a = 0 := by
  induction a with
  | nil => rfl
  | cons c r ih => simp [cmp, ih]
theorem cmp_zero {a b : List UInt8} (h : cmp a b = 0) : a = b := by
  induction a generalizing b with
  | nil => cases b <;> simp_all [cmp]
  | cons c r ih =>
    cases b with
    | nil => simp [cmp] at h
    | cons d q =>
      simp only [cmp] at h
      split at h
      · simp at h
      · split at h
        · simp at h
        · rename_i h1 h2
          rw [UInt8.le_antisymm (UInt8.not_lt.1 h2) (UInt8.not_lt.1 h1), ih h]
theorem cmp_three (a b : List UInt8) : cmp a b = -1 ∨ cmp a b = 0 ∨ cmp a b = 1 := by
  induction a generalizing b with
  | nil => cases b <;> simp [cmp]
  | cons c r ih =>
    cases b with
    | nil => simp [cmp]
    | cons d q =>
      simp only [cmp]
      split
      · simp
      · split
        · simp
        · exact ih q
theorem less_iff (a b : List UInt8) : Op.bytesLess a b = decide (cmp a b = -1) := by
  induction a generalizing b with
  | nil => cases b <;> simp [cmp, Op.bytesLess]
  | cons c r ih =>
    cases b with
    | nil => simp [cmp, Op.bytesLess]
    | cons d q =>
      simp only [cmp, Op.bytesLess, ih]
      by_cases h1 : c < d
      · simp [h1]
      · by_cases h2 : d < c
        · have : ¬ c = d := fun e => by subst e; exact absurd h2 (by simp)
          simp [h1, h2, this]
        · have : c = d := UInt8.le_antisymm (UInt8.not_lt.1 h2) (UInt8.not_lt.1 h1)
          simp [this]
theorem eq_iff (a b : List UInt8) : (a == b) = decide (cmp a b = 0) := by
  rw [Bool.eq_iff_iff, beq_iff_eq, decide_eq_true_iff]
  exact ⟨fun h => by rw [h, cmp_self], cmp_zero⟩
/-- What stands behind counts where neither begins the other. -/
theorem cmp_append (a b x y : List UInt8) (h : cmp a b ≠ 0) (h1 : ¬ a <+: b) (h2 : ¬ b <+: a) : cmp (a ++ x) (b ++ y) = cmp a b := by
  induction a generalizing b with
  | nil => exact absurd (List.nil_prefix) h1
  | cons c r ih =>
    cases b with
    | nil => exact absurd (List.nil_prefix) h2
    | cons d q =>
      simp only [List.cons_append, cmp] at h ⊢
      by_cases e1 : c < d
      · simp [e1]
      · by_cases e2 : d < c
        · simp [e1, e2]
        · have : c = d := UInt8.le_antisymm (UInt8.not_lt.1 e2) (UInt8.not_lt.1 e1)
          subst this
          simp only [e1, if_false] at h ⊢
          exact ih q h (fun hp => h1 (by simpa using hp)) (fun hp => h2 (by simpa using hp))
end Go.Proofs.YtcgphlilijeifaaDoor
