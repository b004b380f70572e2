/-
  Escaped texts stand as the texts do, whatever stands behind; turned, the other way round; none begins another one.
-/
import Derived.Test.YtocmnkcnghapfaaPlain
import Derived.Test.YtocmnkcnghapfaaCmp
namespace Go.Proofs.Ytocmnkcnghapfaa

theorem esc_inj {a b z : List UInt8} (h : esc a ++ 0 :: 1 :: z = esc b ++ [0, 1]) : a = b := by
  have h1 := un_esc a z
  rw [h, un_esc b []] at h1
  exact (Prod.mk.inj h1).1.symm
theorem esc_no_prefix {a b : List UInt8} (h : a ≠ b) : ¬ (esc a ++ [0, 1]) <+: (esc b ++ [0, 1]) := by
  rintro ⟨z, hz⟩
  exact h (esc_inj (z := z) (by simpa using hz))
theorem pos_of_ne (d : UInt8) (h : ¬ d = 0) : 0 < d := by
  rw [UInt8.lt_iff_toNat_lt]
  have : ¬ d.toNat = 0 := fun e => h (UInt8.toNat_inj.1 (by simpa using e))
  simp; omega
theorem cmp_esc (a b x y : List UInt8) (h : a ≠ b) : cmp (esc a ++ 0 :: 1 :: x) (esc b ++ 0 :: 1 :: y) = cmp a b := by
  induction a generalizing b with
  | nil =>
    cases b with
    | nil => exact absurd rfl h
    | cons d q =>
      by_cases hd : d = 0
      · subst hd; simp [esc, cmp]
      · simp [esc, cmp, hd, pos_of_ne d hd]
  | cons c r ih =>
    cases b with
    | nil =>
      by_cases hc : c = 0
      · subst hc; simp [esc, cmp]
      · simp [esc, cmp, hc, pos_of_ne c hc]
    | cons d q =>
      by_cases e1 : c < d
      · have hd : ¬ d = 0 := fun e => by subst e; simp at e1
        by_cases hc : c = 0
        · subst hc; simp [esc, cmp, hd, pos_of_ne d hd]
        · simp [esc, cmp, hd, hc, e1]
      · by_cases e2 : d < c
        · have hc : ¬ c = 0 := fun e => by subst e; simp at e2
          by_cases hd : d = 0
          · subst hd; simp [esc, cmp, hc, pos_of_ne c hc]
          · simp [esc, cmp, hd, hc, e1, e2]
        · have : c = d := UInt8.le_antisymm (UInt8.not_lt.1 e2) (UInt8.not_lt.1 e1)
          subst this
          have hr := ih q (fun e => h (by rw [e]))
          by_cases hc : c = 0
          · subst hc; simp [esc, cmp, hr]
          · simp [esc, cmp, hc, hr]
theorem sub_lt_sub (c d : UInt8) (h : c < d) : (255 - d) < (255 - c) := by
  rw [UInt8.lt_iff_toNat_lt] at h ⊢
  have h255 : (255 : UInt8).toNat = 255 := rfl
  have := c.toNat_lt
  have := d.toNat_lt
  rw [UInt8.toNat_sub, UInt8.toNat_sub, h255]
  omega
/-- Turned texts stand the other way round, where neither begins the other. -/
theorem cmp_flip (a b x y : List UInt8) (h1 : ¬ a <+: b) (h2 : ¬ b <+: a) : cmp (a.map (255 - ·) ++ x) (b.map (255 - ·) ++ y) = - cmp a b := by
  induction a generalizing b with
  | nil => exact absurd (List.nil_prefix) h1
  | cons c r ih =>
    cases b with
    | nil => exact absurd (List.nil_prefix) h2
    | cons d q =>
      simp only [List.map_cons, List.cons_append, cmp]
      by_cases e1 : c < d
      · have e3 : ¬ 255 - c < 255 - d := UInt8.not_lt.2 (UInt8.le_of_lt (sub_lt_sub c d e1))
        rw [if_neg e3, if_pos (sub_lt_sub c d e1), if_pos e1]
        rfl
      · by_cases e2 : d < c
        · rw [if_pos (sub_lt_sub d c e2), if_neg e1, if_pos e2]
        · have : c = d := UInt8.le_antisymm (UInt8.not_lt.1 e2) (UInt8.not_lt.1 e1)
          subst this
          have hx : ¬ 255 - c < 255 - c := by simp
          rw [if_neg hx, if_neg hx, if_neg e1, if_neg e1]
          exact ih q (fun hp => h1 (by simpa using hp)) (fun hp => h2 (by simpa using hp))
end Go.Proofs.Ytocmnkcnghapfaa
