/-
  Numbers as rows of bytes, the lowest one first: by ten, and a digit; plain data. When digits are as a number has them, said as the document says it.
-/
import Derived.Test.YtcgphlilijeifaaDoorRefDigits
namespace Go.Proofs.YtcgphlilijeifaaDoor

def mulLow : List UInt8 → Nat → List UInt8 × Nat
  | [], d => ([], d)
  | x :: r, d => (UInt8.ofNat (10 * x.toNat + d) :: (mulLow r ((10 * x.toNat + d) / 256)).1, (mulLow r ((10 * x.toNat + d) / 256)).2)
def lv (l : List UInt8) : Nat := nv l.reverse
theorem lv_nil : lv [] = 0 := rfl
theorem lv_cons (x : UInt8) (r : List UInt8) : lv (x :: r) = 256 * lv r + x.toNat := by simp [lv, nv_snoc]
theorem lv_snoc (l : List UInt8) (x : UInt8) : lv (l ++ [x]) = x.toNat * 256 ^ l.length + lv l := by
  simp only [lv, List.reverse_append, List.reverse_cons, List.reverse_nil, List.nil_append, List.singleton_append]
  rw [nv_cons, List.length_reverse]
theorem mulLow_length (l : List UInt8) (d : Nat) : (mulLow l d).1.length = l.length := by
  induction l generalizing d with
  | nil => rfl
  | cons x r ih => simp [mulLow, ih]
theorem mulLow_carry (l : List UInt8) (d : Nat) (h : d ≤ 9) : (mulLow l d).2 ≤ 9 := by
  induction l generalizing d with
  | nil => exact h
  | cons x r ih =>
    have := x.toNat_lt
    exact ih _ (by omega)
theorem mulLow_val (l : List UInt8) (d : Nat) : lv (mulLow l d).1 + (mulLow l d).2 * 256 ^ l.length = 10 * lv l + d := by
  induction l generalizing d with
  | nil => simp [mulLow, lv_nil]
  | cons x r ih =>
    have h := ih ((10 * x.toNat + d) / 256)
    simp only [mulLow, lv_cons, List.length_cons, pow256]
    rw [UInt8.toNat_ofNat']
    have e : (mulLow r ((10 * x.toNat + d) / 256)).2 * (256 ^ r.length * 256) = 256 * ((mulLow r ((10 * x.toNat + d) / 256)).2 * 256 ^ r.length) := by
      rw [← Nat.mul_assoc, Nat.mul_comm]
    rw [e]
    generalize (mulLow r ((10 * x.toNat + d) / 256)).2 * 256 ^ r.length = t at h ⊢
    omega
theorem mulLow_snoc (l : List UInt8) (x : UInt8) (d : Nat) :
    mulLow (l ++ [x]) d = ((mulLow l d).1 ++ [UInt8.ofNat (10 * x.toNat + (mulLow l d).2)], (10 * x.toNat + (mulLow l d).2) / 256) := by
  induction l generalizing d with
  | nil => simp [mulLow]
  | cons y r ih => simp [mulLow, ih]
/-- After k places. -/
def mlTo (l : List UInt8) (d k : Nat) : List UInt8 := (mulLow (l.take k) d).1 ++ l.drop k
theorem mlTo_length (l : List UInt8) (d k : Nat) (h : k ≤ l.length) : (mlTo l d k).length = l.length := by simp [mlTo, mulLow_length]; omega
theorem mlTo_zero (l : List UInt8) (d : Nat) : mlTo l d 0 = l := by simp [mlTo, mulLow]
theorem mlTo_end (l : List UInt8) (d k : Nat) (h : l.length ≤ k) : mlTo l d k = (mulLow l d).1 := by simp [mlTo, List.take_of_length_le h, List.drop_of_length_le h]
theorem mlTo_get (l : List UInt8) (d k : Nat) (h : k < l.length) (h2 : k < (mlTo l d k).length) : (mlTo l d k)[k] = l[k] := by
  simp only [mlTo]
  rw [List.getElem_append_right (by rw [mulLow_length, List.length_take]; omega)]
  simp [mulLow_length, Nat.min_eq_left (Nat.le_of_lt h)]
theorem mlTo_step (l : List UInt8) (d k : Nat) (h : k < l.length) :
    (mlTo l d k).set k (UInt8.ofNat (10 * l[k].toNat + (mulLow (l.take k) d).2)) = mlTo l d (k + 1) ∧ (mulLow (l.take (k + 1)) d).2 = (10 * l[k].toNat + (mulLow (l.take k) d).2) / 256 := by
  have hs : l.take (k + 1) = l.take k ++ [l[k]] := List.take_succ_eq_append_getElem h
  refine ⟨?_, by rw [hs, mulLow_snoc]⟩
  have hd : l.drop k = l[k] :: l.drop (k + 1) := List.drop_eq_getElem_cons h
  have hl : (mulLow (l.take k) d).1.length = k := by rw [mulLow_length, List.length_take]; omega
  unfold mlTo
  rw [hs, mulLow_snoc, hd, List.set_append_right _ _ (by omega), hl, Nat.sub_self, List.set_cons_zero, List.append_assoc]
  rfl
/-- A row by ten, and a digit. -/
def mulNext (l : List UInt8) (d : Nat) : List UInt8 := if 0 < (mulLow l d).2 then (mulLow l d).1 ++ [UInt8.ofNat (mulLow l d).2] else (mulLow l d).1
theorem mulNext_lv (l : List UInt8) (d : Nat) (hd : d ≤ 9) : lv (mulNext l d) = 10 * lv l + d := by
  have h := mulLow_val l d
  have hc := mulLow_carry l d hd
  unfold mulNext
  split
  · rename_i h0
    rw [lv_snoc, UInt8.toNat_ofNat', mulLow_length, Nat.mod_eq_of_lt (by omega)]
    omega
  · rename_i h0
    have : (mulLow l d).2 = 0 := by omega
    rw [this] at h
    omega
theorem rev_head_ne (l : List UInt8) (h : 256 ^ (l.length - 1) ≤ lv l) : l.reverse.head? ≠ some 0 := by
  intro e
  cases hr : l.reverse with
  | nil => rw [hr] at e; cases e
  | cons c r =>
    rw [hr] at e
    have hc : c = 0 := by simpa using e
    have hl : l.length = r.length + 1 := by
      have := congrArg List.length hr
      simpa using this
    unfold lv at h
    rw [hr, nv_cons, hc, hl] at h
    have h2 := nv_lt r
    have h3 : (0 : UInt8).toNat = 0 := rfl
    rw [h3, Nat.zero_mul] at h
    simp only [Nat.add_sub_cancel] at h
    omega
theorem mulNext_head (l : List UInt8) (d : Nat) (hd : d ≤ 9) (h : l.reverse.head? ≠ some 0) : (mulNext l d).reverse.head? ≠ some 0 := by
  have hc := mulLow_carry l d hd
  have hv := mulNext_lv l d hd
  unfold mulNext at hv ⊢
  split
  · simp only [List.reverse_append, List.reverse_cons, List.reverse_nil, List.nil_append, List.singleton_append, List.head?_cons]
    intro e
    have := congrArg UInt8.toNat (Option.some.inj e)
    rw [UInt8.toNat_ofNat'] at this
    have h3 : (0 : UInt8).toNat = 0 := rfl
    omega
  · rename_i h0
    rw [if_neg h0] at hv
    by_cases hn : l = []
    · subst hn
      simp [mulLow]
    · refine rev_head_ne _ ?_
      rw [hv, mulLow_length]
      have := nv_ge h (by simpa using hn)
      rw [List.length_reverse] at this
      have e : lv l = nv l.reverse := rfl
      omega
theorem mulNext_mag (l : List UInt8) (d n : Nat) (hd : d ≤ 9) (h : l.reverse = magN n) : (mulNext l d).reverse = magN (10 * n + d) := by
  refine nv_inj (mulNext_head l d hd (by rw [h]; exact magN_head n)) (magN_head _) ?_
  have := mulNext_lv l d hd
  unfold lv at this
  rw [this, h, magN_nv, magN_nv]
theorem mulNext_length (l : List UInt8) (d : Nat) : (mulNext l d).length ≤ l.length + 1 := by
  unfold mulNext
  split <;> simp [mulLow_length]

/-- As the document says it. -/
theorem good_digitsB (s : List UInt8) : good s = (digitsB (ds s) && !(s == [45, 48])) := by
  by_cases hn : ds s = []
  · rw [hn]; simp [good, hn, digitsB]
  · have e1 : (ds s).isEmpty = false := by cases h : ds s with
      | nil => exact absurd h hn
      | cons _ _ => rfl
    by_cases h48 : (ds s).head? = some 48
    · obtain ⟨r, hr⟩ : ∃ r, ds s = 48 :: r := by
        cases h : ds s with
        | nil => exact absurd h hn
        | cons c r => rw [h] at h48; simp at h48; exact ⟨r, by rw [h48]⟩
      have hs : s = 48 :: r ∨ s = 45 :: 48 :: r := by
        cases s with
        | nil => simp [ds, neg] at hr
        | cons c t =>
          by_cases hc : c = 45
          · subst hc
            exact .inr (by rw [show ds (45 :: t) = t from rfl] at hr; rw [hr])
          · exact .inl (by simpa [ds, neg, hc] using hr)
      cases r with
      | nil =>
        rcases hs with rfl | rfl
        · decide
        · decide
      | cons x t =>
        rcases hs with rfl | rfl <;> simp [good, hr, digitsB]
    · have hne : s ≠ [45, 48] := by
        intro e
        subst e
        exact h48 (by decide)
      have e2 : ((ds s).head? == some 48) = false := by simpa using h48
      have e3 : (s == [45, 48]) = false := by simpa using hne
      simp [good, e1, e2, e3, digitsB]

theorem pow51 : 256 ^ 51 ≤ 10 ^ 123 := by decide
theorem pow_five (a b : Nat) (h : 256 ^ a ≤ 10 ^ b) (k n : Nat) (hk : k = a * 5) (hn : b * 5 ≤ n) : 256 ^ k ≤ 10 ^ n := by
  have h1 : (256 ^ a) ^ 5 ≤ (10 ^ b) ^ 5 := Nat.pow_le_pow_left h 5
  rw [← Nat.pow_mul, ← Nat.pow_mul] at h1
  rw [hk]
  exact Nat.le_trans h1 (Nat.pow_le_pow_right (by decide) hn)
theorem pow_long (n : Nat) (hn : n = 620) : 256 ^ 255 ≤ 10 ^ n := pow_five 51 123 pow51 255 n rfl (by omega)
end Go.Proofs.YtcgphlilijeifaaDoor
