import GoSem.Op.String
import Derived.Test.YtcgphlilijeifaaDoorLitPrintsG0
section
/-
  The order of two lists of bytes, and how Go's comparison of strings tells it.
-/
namespace Go.Proofs.YtcgphlilijeifaaDoor

/-- -1, 0 or 1: a stands ahead of b, is b, stands behind it. -/
def cmp : List UInt8 → List UInt8 → Int
  | [], [] => 0
  | [], _ :: _ => -1
  | _ :: _, [] => 1
  | c :: r, d :: q => if c < d then -1 else if d < c then 1 else cmp r q

theorem cmp_swap (a b : List UInt8) : cmp b a = - cmp a b := by
  induction a generalizing b with
  | nil => cases b <;> simp [cmp]
  | cons c r ih =>
    cases b with
    | nil => simp [cmp]
    | cons d q =>
      simp only [cmp]
      have := ih q
      split <;> rename_i h1
      · rw [if_neg (by simp only [UInt8.not_lt]; exact UInt8.le_of_lt h1)]
      · split
        · rfl
        · exact this
theorem cmp_self (a : List UInt8) : cmp a a = 0 := by
  induction a with
  | nil => rfl
  | cons c r ih => simp [cmp, ih]
theorem cmp_zero {a b : List UInt8} (h : cmp a b = 0) : a = b := by
  induction a generalizing b with
  | nil => cases b <;> simp_all [cmp]
  | cons c r ih =>
    cases b with
    | nil => simp [cmp] at h
    | cons d q =>
      simp only [cmp] at h
      split at h
      · simp at h
      · split at h
        · simp at h
        · rename_i h1 h2
          rw [UInt8.le_antisymm (UInt8.not_lt.1 h2) (UInt8.not_lt.1 h1), ih h]
theorem cmp_three (a b : List UInt8) : cmp a b = -1 ∨ cmp a b = 0 ∨ cmp a b = 1 := by
  induction a generalizing b with
  | nil => cases b <;> simp [cmp]
  | cons c r ih =>
    cases b with
    | nil => simp [cmp]
    | cons d q =>
      simp only [cmp]
      split
      · simp
      · split
        · simp
        · exact ih q
theorem less_iff (a b : List UInt8) : Op.bytesLess a b = decide (cmp a b = -1) := by
  induction a generalizing b with
  | nil => cases b <;> simp [cmp, Op.bytesLess]
  | cons c r ih =>
    cases b with
    | nil => simp [cmp, Op.bytesLess]
    | cons d q =>
      simp only [cmp, Op.bytesLess, ih]
      by_cases h1 : c < d
      · simp [h1]
      · by_cases h2 : d < c
        · have : ¬ c = d := fun e => by subst e; exact absurd h2 (by simp)
          simp [h1, h2, this]
        · have : c = d := UInt8.le_antisymm (UInt8.not_lt.1 h2) (UInt8.not_lt.1 h1)
          simp [this]
theorem eq_iff (a b : List UInt8) : (a == b) = decide (cmp a b = 0) := by
  rw [Bool.eq_iff_iff, beq_iff_eq, decide_eq_true_iff]
  exact ⟨fun h => by rw [h, cmp_self], cmp_zero⟩
/-- What stands behind counts where neither begins the other. -/
theorem cmp_append (a b x y : List UInt8) (h : cmp a b ≠ 0) (h1 : ¬ a <+: b) (h2 : ¬ b <+: a) : cmp (a ++ x) (b ++ y) = cmp a b := by
  induction a generalizing b with
  | nil => exact absurd (List.nil_prefix) h1
  | cons c r ih =>
    cases b with
    | nil => exact absurd (List.nil_prefix) h2
    | cons d q =>
      simp only [List.cons_append, cmp] at h ⊢
      by_cases e1 : c < d
      · simp [e1]
      · by_cases e2 : d < c
        · simp [e1, e2]
        · have : c = d := UInt8.le_antisymm (UInt8.not_lt.1 e2) (UInt8.not_lt.1 e1)
          subst this
          simp only [e1, if_false] at h ⊢
          exact ih q h (fun hp => h1 (by simpa using hp)) (fun hp => h2 (by simpa using hp))
end Go.Proofs.YtcgphlilijeifaaDoor
end
section
/-
  The order of two numbers as plain data.
-/
namespace Go.Proofs.YtcgphlilijeifaaDoor

/-- The order of two magnitudes. -/
def mcmp (a b : List UInt8) : Int := if a.length < b.length then -1 else if b.length < a.length then 1 else cmp a b
/-- The order of two numbers. -/
def ncmp (x : Bool) (a : List UInt8) (y : Bool) (b : List UInt8) : Int :=
  if x then (if y then mcmp b a else -1) else (if y then 1 else mcmp a b)
theorem mcmp_swap (a b : List UInt8) : mcmp b a = - mcmp a b := by
  unfold mcmp
  by_cases h1 : a.length < b.length
  · rw [if_neg (by omega), if_pos h1, if_pos h1]; rfl
  · by_cases h2 : b.length < a.length
    · rw [if_pos h2, if_neg h1, if_pos h2]
    · rw [if_neg h2, if_neg h1, if_neg h1, if_neg h2, cmp_swap]
theorem mcmp_self (a : List UInt8) : mcmp a a = 0 := by simp [mcmp, cmp_self]
theorem mcmp_zero {a b : List UInt8} (h : mcmp a b = 0) : a = b := by
  unfold mcmp at h
  split at h
  · simp at h
  · split at h
    · simp at h
    · exact cmp_zero h
theorem mcmp_three (a b : List UInt8) : mcmp a b = -1 ∨ mcmp a b = 0 ∨ mcmp a b = 1 := by
  unfold mcmp
  split
  · simp
  · split
    · simp
    · exact cmp_three a b
theorem ncmp_swap (x y : Bool) (a b : List UInt8) : ncmp y b x a = - ncmp x a y b := by
  cases x <;> cases y <;> simp [ncmp] <;> exact mcmp_swap _ _
theorem ncmp_three (x y : Bool) (a b : List UInt8) : ncmp x a y b = -1 ∨ ncmp x a y b = 0 ∨ ncmp x a y b = 1 := by
  cases x <;> cases y <;> simp [ncmp] <;> exact mcmp_three _ _
theorem ncmp_zero {x y : Bool} {a b : List UInt8} (h : ncmp x a y b = 0) : x = y ∧ a = b := by
  cases x <;> cases y <;> simp [ncmp] at h
  · exact ⟨rfl, mcmp_zero h⟩
  · exact ⟨rfl, (mcmp_zero h).symm⟩
theorem ncmp_self (x : Bool) (a : List UInt8) : ncmp x a x a = 0 := by cases x <;> simp [ncmp, mcmp_self]
end Go.Proofs.YtcgphlilijeifaaDoor
end
section
/-
  What a magnitude's bytes are worth; the one magnitude of a number; its order.
-/
namespace Go.Proofs.YtcgphlilijeifaaDoor

/-- Without noughts ahead. -/
def strip (l : List UInt8) : List UInt8 := l.dropWhile (· == 0)
/-- What the bytes are worth, the highest one first. -/
def nv (l : List UInt8) : Nat := l.foldl (fun a c => 256 * a + c.toNat) 0
theorem nv_nil : nv [] = 0 := rfl
theorem nv_snoc (l : List UInt8) (c : UInt8) : nv (l ++ [c]) = 256 * nv l + c.toNat := by simp [nv]
theorem foldl_nv (l : List UInt8) (a : Nat) : l.foldl (fun a c => 256 * a + c.toNat) a = a * 256 ^ l.length + nv l := by
  induction l generalizing a with
  | nil => simp [nv]
  | cons c r ih =>
    simp only [List.foldl_cons, nv, List.length_cons]
    rw [ih, ih (256 * 0 + c.toNat), Nat.pow_succ, Nat.add_mul, Nat.add_mul]
    rw [show 256 * a * 256 ^ r.length = a * (256 ^ r.length * 256) by rw [Nat.mul_comm 256 a, Nat.mul_assoc, Nat.mul_comm 256]]
    omega
theorem nv_cons (c : UInt8) (l : List UInt8) : nv (c :: l) = c.toNat * 256 ^ l.length + nv l := by
  have := foldl_nv l c.toNat
  simp only [nv, List.foldl_cons] at *
  simpa using this
theorem nv_lt (l : List UInt8) : nv l < 256 ^ l.length := by
  induction l with
  | nil => simp [nv]
  | cons c r ih =>
    rw [nv_cons, List.length_cons, Nat.pow_succ]
    have := c.toNat_lt
    have h2 : c.toNat * 256 ^ r.length ≤ 255 * 256 ^ r.length := Nat.mul_le_mul_right _ (by omega)
    omega
theorem nv_strip (l : List UInt8) : nv (strip l) = nv l := by
  induction l with
  | nil => rfl
  | cons c r ih =>
    by_cases h : c = 0
    · subst h
      simp only [strip, List.dropWhile_cons, beq_self_eq_true, if_true]
      rw [nv_cons]
      simpa [strip] using ih
    · have : (c == 0) = false := by simpa using h
      simp [strip, this]
theorem strip_head (l : List UInt8) : (strip l).head? ≠ some 0 := by
  induction l with
  | nil => simp [strip]
  | cons c r ih =>
    by_cases h : c = 0
    · subst h; simpa [strip, List.dropWhile_cons] using ih
    · have : (c == 0) = false := by simpa using h
      simpa [strip, List.dropWhile_cons, this] using h
theorem strip_id {l : List UInt8} (h : l.head? ≠ some 0) : strip l = l := by
  cases l with
  | nil => rfl
  | cons c r =>
    have : (c == 0) = false := by simpa using h
    simp [strip, this]
theorem strip_length (l : List UInt8) : (strip l).length ≤ l.length := (List.dropWhile_suffix _).length_le
theorem pow_pos (n : Nat) : 0 < 256 ^ n := Nat.pow_pos (by decide)
theorem nv_ge {l : List UInt8} (h : l.head? ≠ some 0) (hn : l ≠ []) : 256 ^ (l.length - 1) ≤ nv l := by
  cases l with
  | nil => exact absurd rfl hn
  | cons c r =>
    rw [nv_cons, List.length_cons, Nat.add_sub_cancel]
    have : c.toNat ≠ 0 := fun e => h (by have : c = 0 := UInt8.toNat_inj.1 (by simpa using e); simp [this])
    have h2 : 1 * 256 ^ r.length ≤ c.toNat * 256 ^ r.length := Nat.mul_le_mul_right _ (by omega)
    omega
theorem nv_cmp (a b : List UInt8) (h : a.length = b.length) : cmp a b = if nv a < nv b then -1 else if nv b < nv a then 1 else 0 := by
  induction a generalizing b with
  | nil => cases b with
    | nil => simp [cmp]
    | cons _ _ => simp at h
  | cons c r ih =>
    cases b with
    | nil => simp at h
    | cons d q =>
      have hl : r.length = q.length := by simpa using h
      rw [nv_cons, nv_cons, cmp, hl]
      have h1 := nv_lt r
      have h2 := nv_lt q
      rw [hl] at h1
      by_cases e1 : c < d
      · rw [if_pos e1]
        rw [UInt8.lt_iff_toNat_lt] at e1
        have h3 : (c.toNat + 1) * 256 ^ q.length ≤ d.toNat * 256 ^ q.length := Nat.mul_le_mul_right _ e1
        rw [Nat.add_mul] at h3
        rw [if_pos (by omega)]
      · rw [if_neg e1]
        by_cases e2 : d < c
        · rw [if_pos e2]
          rw [UInt8.lt_iff_toNat_lt] at e2
          have h3 : (d.toNat + 1) * 256 ^ q.length ≤ c.toNat * 256 ^ q.length := Nat.mul_le_mul_right _ e2
          rw [Nat.add_mul] at h3
          rw [if_neg (by omega), if_pos (by omega)]
        · have : c = d := UInt8.le_antisymm (UInt8.not_lt.1 e2) (UInt8.not_lt.1 e1)
          subst this
          rw [if_neg e2, ih q hl]
          by_cases f1 : nv r < nv q
          · rw [if_pos f1, if_pos (by omega)]
          · rw [if_neg f1]
            by_cases f2 : nv q < nv r
            · rw [if_pos f2, if_neg (by omega), if_pos (by omega)]
            · rw [if_neg f2, if_neg (by omega), if_neg (by omega)]
theorem pow_mono {a b : Nat} (h : a ≤ b) : 256 ^ a ≤ 256 ^ b := Nat.pow_le_pow_right (by decide) h
theorem nv_len_lt {a b : List UInt8} (hb : b.head? ≠ some 0) (h : a.length < b.length) : nv a < nv b := by
  have h1 := nv_lt a
  have h2 := nv_ge hb (by intro e; subst e; simp at h)
  have h3 : 256 ^ a.length ≤ 256 ^ (b.length - 1) := pow_mono (by omega)
  omega
/-- The order of two magnitudes is that of what they are worth. -/
theorem mcmp_nv {a b : List UInt8} (ha : a.head? ≠ some 0) (hb : b.head? ≠ some 0) : mcmp a b = if nv a < nv b then -1 else if nv b < nv a then 1 else 0 := by
  unfold mcmp
  by_cases h1 : a.length < b.length
  · have := nv_len_lt hb h1
    rw [if_pos h1, if_pos this]
  · by_cases h2 : b.length < a.length
    · have := nv_len_lt ha h2
      rw [if_neg h1, if_pos h2, if_neg (by omega), if_pos this]
    · rw [if_neg h1, if_neg h2, nv_cmp a b (by omega)]
theorem nv_inj {a b : List UInt8} (ha : a.head? ≠ some 0) (hb : b.head? ≠ some 0) (h : nv a = nv b) : a = b := by
  refine mcmp_zero ?_
  rw [mcmp_nv ha hb, h]
  simp
theorem nv_zero {a : List UInt8} (ha : a.head? ≠ some 0) (h : nv a = 0) : a = [] := nv_inj ha (by simp) (by rw [h]; rfl)

/-- The magnitude of at most 64 bits, eight bytes long; after k rounds. -/
def beTo (n k : Nat) : List UInt8 := (List.range 8).map fun j => if 7 - j < k then UInt8.ofNat (n / 2 ^ (8 * (7 - j))) else 0
theorem beTo_length (n k : Nat) : (beTo n k).length = 8 := by simp [beTo]
theorem beTo_zero (n : Nat) : beTo n 0 = [0, 0, 0, 0, 0, 0, 0, 0] := by simp [beTo]; decide
theorem beTo_get (n k j : Nat) (hj : j < 8) : (beTo n k)[j]? = some (if 7 - j < k then UInt8.ofNat (n / 2 ^ (8 * (7 - j))) else 0) := by
  simp [beTo, hj]
theorem beTo_set (n k : Nat) (hk : k < 8) : (beTo n k).set (7 - k) (UInt8.ofNat (n / 2 ^ (8 * k))) = beTo n (k + 1) := by
  apply List.ext_getElem?
  intro j
  by_cases hj : j < 8
  · rw [List.getElem?_set, beTo_get n (k + 1) j hj]
    by_cases e : 7 - k = j
    · subst e
      rw [if_pos rfl, if_pos (by rw [beTo_length]; omega), if_pos (by omega), show 7 - (7 - k) = k by omega]
    · rw [if_neg e, beTo_get n k j hj]
      by_cases f : 7 - j < k
      · rw [if_pos f, if_pos (by omega)]
      · rw [if_neg f, if_neg (by omega)]
  · rw [List.getElem?_eq_none (by simp [beTo_length]; omega), List.getElem?_eq_none (by simp [beTo_length]; omega)]
theorem nv_beTo (n : Nat) (h : n < 18446744073709551616) : nv (beTo n 8) = n := by
  have e : beTo n 8 = [UInt8.ofNat (n / 2 ^ 56), UInt8.ofNat (n / 2 ^ 48), UInt8.ofNat (n / 2 ^ 40), UInt8.ofNat (n / 2 ^ 32), UInt8.ofNat (n / 2 ^ 24), UInt8.ofNat (n / 2 ^ 16), UInt8.ofNat (n / 2 ^ 8), UInt8.ofNat n] := by
    simp [beTo, List.range_succ]
  rw [e]
  simp only [nv, List.foldl_cons, List.foldl_nil, UInt8.toNat_ofNat']
  omega
/-- The magnitude of a number of at most 64 bits. -/
def mag8 (n : Nat) : List UInt8 := strip (beTo n 8)
theorem mag8_nv (n : Nat) (h : n < 18446744073709551616) : nv (mag8 n) = n := by rw [mag8, nv_strip, nv_beTo n h]
theorem mag8_head (n : Nat) : (mag8 n).head? ≠ some 0 := strip_head _
theorem mag8_length (n : Nat) : (mag8 n).length ≤ 8 := by
  have := strip_length (beTo n 8)
  rw [beTo_length] at this
  exact this
end Go.Proofs.YtcgphlilijeifaaDoor
end
section
/-
  Decimal digits: what they are worth, the digits of a number; the magnitude of any number; long multiplication and division by ten.
-/
namespace Go.Proofs.YtcgphlilijeifaaDoor

theorem pow256 (n : Nat) : 256 ^ (n + 1) = 256 ^ n * 256 := Nat.pow_succ 256 n
/-- n to the base 256, L bytes long. -/
def rep : Nat → Nat → List UInt8
  | 0, _ => []
  | L + 1, n => rep L (n / 256) ++ [UInt8.ofNat n]
theorem rep_nv (L n : Nat) : nv (rep L n) = n % 256 ^ L := by
  induction L generalizing n with
  | zero => simp [rep, nv, Nat.mod_one]
  | succ L ih =>
    rw [rep, nv_snoc, ih, UInt8.toNat_ofNat', pow256, Nat.mul_comm (256 ^ L) 256, Nat.mod_mul]
    omega
theorem lt_pow (n : Nat) : n < 256 ^ n := Nat.lt_pow_self (by decide)
/-- The magnitude of a number. -/
def magN (n : Nat) : List UInt8 := strip (rep n n)
theorem magN_nv (n : Nat) : nv (magN n) = n := by rw [magN, nv_strip, rep_nv, Nat.mod_eq_of_lt (lt_pow n)]
theorem magN_head (n : Nat) : (magN n).head? ≠ some 0 := strip_head _
theorem magN_of (m : List UInt8) (h : m.head? ≠ some 0) : magN (nv m) = m := nv_inj (magN_head _) h (magN_nv _)
theorem magN_len (n k : Nat) : (magN n).length ≤ k ↔ n < 256 ^ k := by
  constructor
  · intro h
    have h1 := nv_lt (magN n)
    rw [magN_nv] at h1
    exact Nat.lt_of_lt_of_le h1 (pow_mono h)
  · intro h
    rcases Nat.lt_or_ge k (magN n).length with h2 | h2
    · have h1 := nv_ge (magN_head n) (by intro e; rw [e] at h2; simp at h2)
      rw [magN_nv] at h1
      have := pow_mono (show k ≤ (magN n).length - 1 by omega)
      omega
    · exact h2

/-- What decimal digits are worth. -/
def dv (l : List UInt8) : Nat := l.foldl (fun a c => 10 * a + (c.toNat - 48)) 0
theorem dv_snoc (l : List UInt8) (c : UInt8) : dv (l ++ [c]) = 10 * dv l + (c.toNat - 48) := by simp [dv]
def isDigit (c : UInt8) : Bool := decide (48 ≤ c.toNat) && decide (c.toNat ≤ 57)
theorem dv_lt (l : List UInt8) (h : l.all isDigit = true) : dv l < 10 ^ l.length := by
  induction hn : l.length generalizing l with
  | zero => have := List.eq_nil_of_length_eq_zero hn; subst this; simp [dv]
  | succ n ih =>
    have hne : l ≠ [] := by intro e; subst e; simp at hn
    have e := List.dropLast_concat_getLast hne
    rw [← e] at h ⊢
    rw [dv_snoc, Nat.pow_succ]
    simp only [List.all_append, List.all_cons, List.all_nil, Bool.and_true, Bool.and_eq_true] at h
    have h1 := ih l.dropLast h.1 (by rw [List.length_dropLast, hn]; rfl)
    have h2 := h.2
    simp only [isDigit, Bool.and_eq_true, decide_eq_true_eq] at h2
    omega

/-- The decimal digits of a number, none of nought. -/
def decF : Nat → Nat → List UInt8
  | 0, _ => []
  | f + 1, n => if n = 0 then [] else decF f (n / 10) ++ [UInt8.ofNat (48 + n % 10)]
theorem decF_more (f n : Nat) (h : n ≤ f) : decF (f + 1) n = decF f n := by
  induction f generalizing n with
  | zero => have : n = 0 := by omega
            subst this; simp [decF]
  | succ f ih =>
    show (if n = 0 then [] else decF (f + 1) (n / 10) ++ [UInt8.ofNat (48 + n % 10)]) = (if n = 0 then [] else decF f (n / 10) ++ [UInt8.ofNat (48 + n % 10)])
    by_cases h0 : n = 0
    · simp [h0]
    · rw [if_neg h0, if_neg h0, ih (n / 10) (by omega)]
theorem decF_any (f g n : Nat) (h : n ≤ f) (hg : f ≤ g) : decF g n = decF f n := by
  induction g with
  | zero => have : f = 0 := by omega
            subst this; rfl
  | succ g ih =>
    by_cases e : f = g + 1
    · subst e; rfl
    · rw [decF_more g n (by omega), ih (by omega)]
def dec (n : Nat) : List UInt8 := decF n n
theorem dec_zero : dec 0 = [] := rfl
theorem dec_pos (n : Nat) (h : n ≠ 0) : dec n = dec (n / 10) ++ [UInt8.ofNat (48 + n % 10)] := by
  unfold dec
  obtain ⟨f, rfl⟩ : ∃ f, n = f + 1 := ⟨n - 1, by omega⟩
  rw [decF, if_neg h, decF_any ((f + 1) / 10) f _ (Nat.le_refl _) (by omega)]
theorem ofNat48 (d : Nat) (h : d < 10) : (UInt8.ofNat (48 + d)).toNat = 48 + d := by rw [UInt8.toNat_ofNat']; omega
theorem dv_dec (n : Nat) : dv (dec n) = n := by
  induction n using Nat.strongRecOn with
  | _ n ih =>
    by_cases h : n = 0
    · subst h; rfl
    · rw [dec_pos n h, dv_snoc, ih (n / 10) (by omega), ofNat48 _ (by omega)]
      omega
theorem dec_digits (n : Nat) : (dec n).all isDigit = true := by
  induction n using Nat.strongRecOn with
  | _ n ih =>
    by_cases h : n = 0
    · subst h; rfl
    · rw [dec_pos n h, List.all_append, ih (n / 10) (by omega)]
      simp only [List.all_cons, List.all_nil, isDigit, ofNat48 _ (show n % 10 < 10 by omega)]
      simp; omega
theorem dec_head (n : Nat) (h : n ≠ 0) : ∃ c r, dec n = c :: r ∧ c ≠ 48 := by
  induction n using Nat.strongRecOn with
  | _ n ih =>
    rw [dec_pos n h]
    by_cases h2 : n / 10 = 0
    · rw [h2, dec_zero]
      refine ⟨_, [], rfl, ?_⟩
      intro e
      have := congrArg UInt8.toNat e
      rw [ofNat48 _ (by omega)] at this
      have h48 : (48 : UInt8).toNat = 48 := rfl
      rw [h48] at this
      omega
    · obtain ⟨c, r, e, hc⟩ := ih (n / 10) (by omega) h2
      rw [e]
      exact ⟨c, r ++ _, rfl, hc⟩
/-- Digits of which the first is no nought are those of what they are worth. -/
theorem dec_dv (l : List UInt8) (hd : l.all isDigit = true) (h : l.head? ≠ some 48) : dec (dv l) = l := by
  induction hn : l.length generalizing l with
  | zero => have := List.eq_nil_of_length_eq_zero hn; subst this; rfl
  | succ n ih =>
    have hne : l ≠ [] := by intro e; subst e; simp at hn
    have e := List.dropLast_concat_getLast hne
    have hl : l.dropLast.length = n := by rw [List.length_dropLast, hn]; rfl
    generalize l.dropLast = q at e hl
    generalize l.getLast hne = c at e
    subst e
    simp only [List.all_append, List.all_cons, List.all_nil, Bool.and_true, Bool.and_eq_true] at hd
    have hc := hd.2
    simp only [isDigit, Bool.and_eq_true, decide_eq_true_eq] at hc
    have hq : q.head? ≠ some 48 := by
      cases q with
      | nil => simp
      | cons x r => simpa using h
    have iq := ih q hd.1 hq hl
    have hv : dv (q ++ [c]) ≠ 0 := by
      rw [dv_snoc]
      cases q with
      | nil =>
        intro e0
        have : c.toNat = 48 := by simp [dv] at e0; omega
        exact h (by simp; exact UInt8.toNat_inj.1 (by simpa using this))
      | cons x r =>
        intro e0
        have : dv (x :: r) = 0 := by omega
        rw [this, dec_zero] at iq
        cases iq
    rw [dec_pos _ hv, dv_snoc, show (10 * dv q + (c.toNat - 48)) / 10 = dv q by omega, iq, show 48 + (10 * dv q + (c.toNat - 48)) % 10 = c.toNat by omega]
    simp

theorem dec_len (n k : Nat) (h : n < 10 ^ k) : (dec n).length ≤ k := by
  induction k generalizing n with
  | zero => have : n = 0 := by omega
            subst this; simp [dec_zero]
  | succ k ih =>
    by_cases h0 : n = 0
    · subst h0; simp [dec_zero]
    · rw [dec_pos n h0, List.length_append]
      have := ih (n / 10) (by rw [Nat.pow_succ] at h; omega)
      simp; omega
theorem dec_nv_len (m : List UInt8) : (dec (nv m)).length ≤ 3 * m.length := by
  refine dec_len _ _ ?_
  have h := nv_lt m
  have h2 : 256 ^ m.length ≤ 1000 ^ m.length := Nat.pow_le_pow_left (by decide) _
  have h3 : 10 ^ (3 * m.length) = 1000 ^ m.length := by rw [Nat.pow_mul]
  omega

/-- Ten times a row of bytes, and a carry: the row, and what is carried out. -/
def mulAdd : List UInt8 → Nat → List UInt8 × Nat
  | [], d => ([], d)
  | x :: r, d => (UInt8.ofNat ((mulAdd r d).2 + 10 * x.toNat) :: (mulAdd r d).1, ((mulAdd r d).2 + 10 * x.toNat) / 256)
theorem mulAdd_length (l : List UInt8) (d : Nat) : (mulAdd l d).1.length = l.length := by
  induction l with
  | nil => rfl
  | cons x r ih => simp [mulAdd, ih]
theorem mulAdd_carry (l : List UInt8) (d : Nat) (h : d ≤ 9) : (mulAdd l d).2 ≤ 9 := by
  induction l with
  | nil => exact h
  | cons x r ih =>
    have := x.toNat_lt
    simp only [mulAdd]; omega
theorem mulAdd_nv (l : List UInt8) (d : Nat) : nv (mulAdd l d).1 + (mulAdd l d).2 * 256 ^ l.length = 10 * nv l + d := by
  induction l with
  | nil => simp [mulAdd, nv]
  | cons x r ih =>
    simp only [mulAdd, List.length_cons]
    rw [nv_cons, nv_cons, mulAdd_length, UInt8.toNat_ofNat', pow256]
    generalize (mulAdd r d).2 = c at *
    generalize nv (mulAdd r d).1 = a at *
    generalize 256 ^ r.length = p at *
    have h : (c + 10 * x.toNat) % 2 ^ 8 * p + (c + 10 * x.toNat) / 256 * (p * 256) = (c + 10 * x.toNat) * p := by
      rw [Nat.mul_comm p 256, ← Nat.mul_assoc, ← Nat.add_mul]
      congr 1
      omega
    have h2 : (c + 10 * x.toNat) * p = c * p + 10 * (x.toNat * p) := by rw [Nat.add_mul, Nat.mul_assoc]
    omega
theorem mulAdd_fits (l : List UInt8) (d : Nat) (h : 10 * nv l + d < 256 ^ l.length) : nv (mulAdd l d).1 = 10 * nv l + d := by
  have h1 := mulAdd_nv l d
  have h2 : (mulAdd l d).2 = 0 := by
    rcases Nat.eq_zero_or_pos (mulAdd l d).2 with e | e
    · exact e
    · have : 1 * 256 ^ l.length ≤ (mulAdd l d).2 * 256 ^ l.length := Nat.mul_le_mul_right _ e
      omega
  rw [h2] at h1
  omega

/-- A row of bytes by ten, a rest ahead: the row, and the rest. -/
def divMod : List UInt8 → Nat → List UInt8 × Nat
  | [], r => ([], r)
  | x :: t, r => (UInt8.ofNat ((r * 256 + x.toNat) / 10) :: (divMod t ((r * 256 + x.toNat) % 10)).1, (divMod t ((r * 256 + x.toNat) % 10)).2)
theorem divMod_length (l : List UInt8) (r : Nat) : (divMod l r).1.length = l.length := by
  induction l generalizing r with
  | nil => rfl
  | cons x t ih => simp [divMod, ih]
theorem divMod_rest (l : List UInt8) (r : Nat) (h : r ≤ 9) : (divMod l r).2 ≤ 9 := by
  induction l generalizing r with
  | nil => exact h
  | cons x t ih => exact ih _ (by omega)
theorem divMod_snoc (l : List UInt8) (x : UInt8) (r : Nat) :
    divMod (l ++ [x]) r = ((divMod l r).1 ++ [UInt8.ofNat (((divMod l r).2 * 256 + x.toNat) / 10)], ((divMod l r).2 * 256 + x.toNat) % 10) := by
  induction l generalizing r with
  | nil => simp [divMod]
  | cons y t ih => simp [divMod, ih]
theorem divMod_nv (l : List UInt8) (r : Nat) (h : r ≤ 9) : 10 * nv (divMod l r).1 + (divMod l r).2 = r * 256 ^ l.length + nv l := by
  induction l generalizing r with
  | nil => simp [divMod, nv]
  | cons x t ih =>
    have hx := x.toNat_lt
    have h1 := ih ((r * 256 + x.toNat) % 10) (by omega)
    simp only [divMod, List.length_cons]
    rw [nv_cons, nv_cons, divMod_length, UInt8.toNat_ofNat', pow256]
    have h2 : (r * 256 + x.toNat) / 10 < 256 := by omega
    rw [Nat.mod_eq_of_lt (by simpa using h2)]
    generalize (divMod t ((r * 256 + x.toNat) % 10)).2 = c at *
    generalize nv (divMod t ((r * 256 + x.toNat) % 10)).1 = a at *
    generalize 256 ^ t.length = p at *
    have e : (r * 256 + x.toNat) * p = 10 * ((r * 256 + x.toNat) / 10 * p) + (r * 256 + x.toNat) % 10 * p := by
      rw [← Nat.mul_assoc, ← Nat.add_mul]
      congr 1
      omega
    have e2 : (r * 256 + x.toNat) * p = r * (p * 256) + x.toNat * p := by rw [Nat.add_mul, Nat.mul_assoc, Nat.mul_comm p 256]
    omega
theorem divMod_ten (l : List UInt8) : nv (divMod l 0).1 = nv l / 10 ∧ (divMod l 0).2 = nv l % 10 := by
  have h := divMod_nv l 0 (by decide)
  have h2 := divMod_rest l 0 (by decide)
  omega
/-- After k bytes were divided. -/
def divTo (l : List UInt8) (k : Nat) : List UInt8 := (divMod (l.take k) 0).1 ++ l.drop k
theorem divTo_length (l : List UInt8) (k : Nat) (h : k ≤ l.length) : (divTo l k).length = l.length := by simp [divTo, divMod_length]; omega
theorem divTo_zero (l : List UInt8) : divTo l 0 = l := by simp [divTo, divMod]
theorem divTo_end (l : List UInt8) (k : Nat) (h : l.length ≤ k) : divTo l k = (divMod l 0).1 := by simp [divTo, List.take_of_length_le h, List.drop_of_length_le h]
theorem divTo_get (l : List UInt8) (k : Nat) (h : k < l.length) (h2 : k < (divTo l k).length) : (divTo l k)[k] = l[k] := by
  simp only [divTo]
  rw [List.getElem_append_right (by rw [divMod_length, List.length_take]; omega)]
  simp [divMod_length, Nat.min_eq_left (Nat.le_of_lt h)]
theorem divTo_step (l : List UInt8) (k : Nat) (h : k < l.length) :
    (divTo l k).set k (UInt8.ofNat (((divMod (l.take k) 0).2 * 256 + l[k].toNat) / 10)) = divTo l (k + 1) ∧ (divMod (l.take (k + 1)) 0).2 = ((divMod (l.take k) 0).2 * 256 + l[k].toNat) % 10 := by
  have hs : l.take (k + 1) = l.take k ++ [l[k]] := List.take_succ_eq_append_getElem h
  refine ⟨?_, by rw [hs, divMod_snoc]⟩
  unfold divTo
  rw [hs, divMod_snoc, List.set_append, if_neg (by rw [divMod_length, List.length_take]; omega), divMod_length, List.length_take, Nat.min_eq_left (Nat.le_of_lt h), Nat.sub_self, List.drop_eq_getElem_cons h, List.set_cons_zero, List.append_assoc]
  rfl
end Go.Proofs.YtcgphlilijeifaaDoor
end
