/-
  What a magnitude's bytes are worth; the one magnitude of a number; its order.
-/
import Derived.Test.YtcgphlilijeifaaDoorNumCmp
namespace Go.Proofs.YtcgphlilijeifaaDoor

/-- Without noughts ahead. -/
def strip (l : List UInt8) : List UInt8 := l.dropWhile (· == 0)
/-- What the bytes are worth, the highest one first. -/
def nv (l : List UInt8) : Nat := l.foldl (fun a c => 256 * a + c.toNat) 0
theorem nv_nil : nv [] = 0 := rfl
theorem nv_snoc (l : List UInt8) (c : UInt8) : nv (l ++ [c]) = 256 * nv l + c.toNat := by simp [nv]
theorem foldl_nv (l : List UInt8) (a : Nat) : l.foldl (fun a c => 256 * a + c.toNat) a = a * 256 ^ l.length + nv l := by
  induction l generalizing a with
  | nil => simp [nv]
  | cons c r ih =>
    simp only [List.foldl_cons, nv, List.length_cons]
    rw [ih, ih (256 * 0 + c.toNat), Nat.pow_succ, Nat.add_mul, Nat.add_mul]
    rw [show 256 * a * 256 ^ r.length = a * (256 ^ r.length * 256) by rw [Nat.mul_comm 256 a, Nat.mul_assoc, Nat.mul_comm 256]]
    omega
theorem nv_cons (c : UInt8) (l : List UInt8) : nv (c :: l) = c.toNat * 256 ^ l.length + nv l := by
  have := foldl_nv l c.toNat
  simp only [nv, List.foldl_cons] at *
  simpa using this
theorem nv_lt (l : List UInt8) : nv l < 256 ^ l.length := by
  induction l with
  | nil => simp [nv]
  | cons c r ih =>
    rw [nv_cons, List.length_cons, Nat.pow_succ]
    have := c.toNat_lt
    have h2 : c.toNat * 256 ^ r.length ≤ 255 * 256 ^ r.length := Nat.mul_le_mul_right _ (by omega)
    omega
theorem nv_strip (l : List UInt8) : nv (strip l) = nv l := by
  induction l with
  | nil => rfl
  | cons c r ih =>
    by_cases h : c = 0
    · subst h
      simp only [strip, List.dropWhile_cons, beq_self_eq_true, if_true]
      rw [nv_cons]
      simpa [strip] using ih
    · have : (c == 0) = false := by simpa using h
      simp [strip, this]
theorem strip_head (l : List UInt8) : (strip l).head? ≠ some 0 := by
  induction l with
  | nil => simp [strip]
  | cons c r ih =>
    by_cases h : c = 0
    · subst h; simpa [strip, List.dropWhile_cons] using ih
    · have : (c == 0) = false := by simpa using h
      simpa [strip, List.dropWhile_cons, this] using h
theorem strip_id {l : List UInt8} (h : l.head? ≠ some 0) : strip l = l := by
  cases l with
  | nil => rfl
  | cons c r =>
    have : (c == 0) = false := by simpa using h
    simp [strip, this]
theorem strip_length (l : List UInt8) : (strip l).length ≤ l.length := (List.dropWhile_suffix _).length_le
theorem pow_pos (n : Nat) : 0 < 256 ^ n := Nat.pow_pos (by decide)
theorem nv_ge {l : List UInt8} (h : l.head? ≠ some 0) (hn : l ≠ []) : 256 ^ (l.length - 1) ≤ nv l := by
  cases l with
  | nil => exact absurd rfl hn
  | cons c r =>
    rw [nv_cons, List.length_cons, Nat.add_sub_cancel]
    have : c.toNat ≠ 0 := fun e => h (by have : c = 0 := UInt8.toNat_inj.1 (by simpa using e); simp [this])
    have h2 : 1 * 256 ^ r.length ≤ c.toNat * 256 ^ r.length := Nat.mul_le_mul_right _ (by omega)
    omega
theorem nv_cmp (a b : List UInt8) (h : a.length = b.length) : cmp a b = if nv a < nv b then -1 else if nv b < nv a then 1 else 0 := by
  induction a generalizing b with
  | nil => cases b with
    | nil => simp [cmp]
    | cons _ _ => simp at h
  | cons c r ih =>
    cases b with
    | nil => simp at h
    | cons d q =>
      have hl : r.length = q.length := by simpa using h
      rw [nv_cons, nv_cons, cmp, hl]
      have h1 := nv_lt r
      have h2 := nv_lt q
      rw [hl] at h1
      by_cases e1 : c < d
      · rw [if_pos e1]
        rw [UInt8.lt_iff_toNat_lt] at e1
        have h3 : (c.toNat + 1) * 256 ^ q.length ≤ d.toNat * 256 ^ q.length := Nat.mul_le_mul_right _ e1
        rw [Nat.add_mul] at h3
        rw [if_pos (by omega)]
      · rw [if_neg e1]
        by_cases e2 : d < c
        · rw [if_pos e2]
          rw [UInt8.lt_iff_toNat_lt] at e2
          have h3 : (d.toNat + 1) * 256 ^ q.length ≤ c.toNat * 256 ^ q.length := Nat.mul_le_mul_right _ e2
          rw [Nat.add_mul] at h3
          rw [if_neg (by omega), if_pos (by omega)]
        · have : c = d := UInt8.le_antisymm (UInt8.not_lt.1 e2) (UInt8.not_lt.1 e1)
          subst this
          rw [if_neg e2, ih q hl]
          by_cases f1 : nv r < nv q
          · rw [if_pos f1, if_pos (by omega)]
          · rw [if_neg f1]
            by_cases f2 : nv q < nv r
            · rw [if_pos f2, if_neg (by omega), if_pos (by omega)]
            · rw [if_neg f2, if_neg (by omega), if_neg (by omega)]
theorem pow_mono {a b : Nat} (h : a ≤ b) : 256 ^ a ≤ 256 ^ b := Nat.pow_le_pow_right (by decide) h
theorem nv_len_lt {a b : List UInt8} (hb : b.head? ≠ some 0) (h : a.length < b.length) : nv a < nv b := by
  have h1 := nv_lt a
  have h2 := nv_ge hb (by intro e; subst e; simp at h)
  have h3 : 256 ^ a.length ≤ 256 ^ (b.length - 1) := pow_mono (by omega)
  omega
/-- The order of two magnitudes is that of what they are worth. -/
theorem mcmp_nv {a b : List UInt8} (ha : a.head? ≠ some 0) (hb : b.head? ≠ some 0) : mcmp a b = if nv a < nv b then -1 else if nv b < nv a then 1 else 0 := by
  unfold mcmp
  by_cases h1 : a.length < b.length
  · have := nv_len_lt hb h1
    rw [if_pos h1, if_pos this]
  · by_cases h2 : b.length < a.length
    · have := nv_len_lt ha h2
      rw [if_neg h1, if_pos h2, if_neg (by omega), if_pos this]
    · rw [if_neg h1, if_neg h2, nv_cmp a b (by omega)]
theorem nv_inj {a b : List UInt8} (ha : a.head? ≠ some 0) (hb : b.head? ≠ some 0) (h : nv a = nv b) : a = b := by
  refine mcmp_zero ?_
  rw [mcmp_nv ha hb, h]
  simp
theorem nv_zero {a : List UInt8} (ha : a.head? ≠ some 0) (h : nv a = 0) : a = [] := nv_inj ha (by simp) (by rw [h]; rfl)

/-- The magnitude of at most 64 bits, eight bytes long; after k rounds. -/
def beTo (n k : Nat) : List UInt8 := (List.range 8).map fun j => if 7 - j < k then UInt8.ofNat (n / 2 ^ (8 * (7 - j))) else 0
theorem beTo_length (n k : Nat) : (beTo n k).length = 8 := by simp [beTo]
theorem beTo_zero (n : Nat) : beTo n 0 = [0, 0, 0, 0, 0, 0, 0, 0] := by simp [beTo]; decide
theorem beTo_get (n k j : Nat) (hj : j < 8) : (beTo n k)[j]? = some (if 7 - j < k then UInt8.ofNat (n / 2 ^ (8 * (7 - j))) else 0) := by
  simp [beTo, hj]
theorem beTo_set (n k : Nat) (hk : k < 8) : (beTo n k).set (7 - k) (UInt8.ofNat (n / 2 ^ (8 * k))) = beTo n (k + 1) := by
  apply List.ext_getElem?
  intro j
  by_cases hj : j < 8
  · rw [List.getElem?_set, beTo_get n (k + 1) j hj]
    by_cases e : 7 - k = j
    · subst e
      rw [if_pos rfl, if_pos (by rw [beTo_length]; omega), if_pos (by omega), show 7 - (7 - k) = k by omega]
    · rw [if_neg e, beTo_get n k j hj]
      by_cases f : 7 - j < k
      · rw [if_pos f, if_pos (by omega)]
      · rw [if_neg f, if_neg (by omega)]
  · rw [List.getElem?_eq_none (by simp [beTo_length]; omega), List.getElem?_eq_none (by simp [beTo_length]; omega)]
theorem nv_beTo (n : Nat) (h : n < 18446744073709551616) : nv (beTo n 8) = n := by
  have e : beTo n 8 = [UInt8.ofNat (n / 2 ^ 56), UInt8.ofNat (n / 2 ^ 48), UInt8.ofNat (n / 2 ^ 40), UInt8.ofNat (n / 2 ^ 32), UInt8.ofNat (n / 2 ^ 24), UInt8.ofNat (n / 2 ^ 16), UInt8.ofNat (n / 2 ^ 8), UInt8.ofNat n] := by
    simp [beTo, List.range_succ]
  rw [e]
  simp only [nv, List.foldl_cons, List.foldl_nil, UInt8.toNat_ofNat']
  omega
/-- The magnitude of a number of at most 64 bits. -/
def mag8 (n : Nat) : List UInt8 := strip (beTo n 8)
theorem mag8_nv (n : Nat) (h : n < 18446744073709551616) : nv (mag8 n) = n := by rw [mag8, nv_strip, nv_beTo n h]
theorem mag8_head (n : Nat) : (mag8 n).head? ≠ some 0 := strip_head _
theorem mag8_length (n : Nat) : (mag8 n).length ≤ 8 := by
  have := strip_length (beTo n 8)
  rw [beTo_length] at this
  exact this
end Go.Proofs.YtcgphlilijeifaaDoor
