/-
  Decimal digits: what they are worth, the digits of a number; the magnitude of any number; long multiplication and division by ten.
-/
import Derived.Test.YtcgphlilijeifaaDoorVal
namespace Go.Proofs.YtcgphlilijeifaaDoor

theorem pow256 (n : Nat) : 256 ^ (n + 1) = 256 ^ n * 256 := Nat.pow_succ 256 n
/-- n to the base 256, L bytes long. -/
def rep : Nat → Nat → List UInt8
  | 0, _ => []
  | L + 1, n => rep L (n / 256) ++ [UInt8.ofNat n]
theorem rep_nv (L n : Nat) : nv (rep L n) = n % 256 ^ L := by
  induction L generalizing n with
  | zero => simp [rep, nv, Nat.mod_one]
  | succ L ih =>
    rw [rep, nv_snoc, ih, UInt8.toNat_ofNat', pow256, Nat.mul_comm (256 ^ L) 256, Nat.mod_mul]
    omega
theorem lt_pow (n : Nat) : n < 256 ^ n := Nat.lt_pow_self (by decide)
/-- The magnitude of a number. -/
def magN (n : Nat) : List UInt8 := strip (rep n n)
theorem magN_nv (n : Nat) : nv (magN n) = n := by rw [magN, nv_strip, rep_nv, Nat.mod_eq_of_lt (lt_pow n)]
theorem magN_head (n : Nat) : (magN n).head? ≠ some 0 := strip_head _
theorem magN_of (m : List UInt8) (h : m.head? ≠ some 0) : magN (nv m) = m := nv_inj (magN_head _) h (magN_nv _)
theorem magN_len (n k : Nat) : (magN n).length ≤ k ↔ n < 256 ^ k := by
  constructor
  · intro h
    have h1 := nv_lt (magN n)
    rw [magN_nv] at h1
    exact Nat.lt_of_lt_of_le h1 (pow_mono h)
  · intro h
    rcases Nat.lt_or_ge k (magN n).length with h2 | h2
    · have h1 := nv_ge (magN_head n) (by intro e; rw [e] at h2; simp at h2)
      rw [magN_nv] at h1
      have := pow_mono (show k ≤ (magN n).length - 1 by omega)
      omega
    · exact h2

/-- What decimal digits are worth. -/
def dv (l : List UInt8) : Nat := l.foldl (fun a c => 10 * a + (c.toNat - 48)) 0
theorem dv_snoc (l : List UInt8) (c : UInt8) : dv (l ++ [c]) = 10 * dv l + (c.toNat - 48) := by simp [dv]
def isDigit (c : UInt8) : Bool := decide (48 ≤ c.toNat) && decide (c.toNat ≤ 57)
theorem dv_lt (l : List UInt8) (h : l.all isDigit = true) : dv l < 10 ^ l.length := by
  induction hn : l.length generalizing l with
  | zero => have := List.eq_nil_of_length_eq_zero hn; subst this; simp [dv]
  | succ n ih =>
    have hne : l ≠ [] := by intro e; subst e; simp at hn
    have e := List.dropLast_concat_getLast hne
    rw [← e] at h ⊢
    rw [dv_snoc, Nat.pow_succ]
    simp only [List.all_append, List.all_cons, List.all_nil, Bool.and_true, Bool.and_eq_true] at h
    have h1 := ih l.dropLast h.1 (by rw [List.length_dropLast, hn]; rfl)
    have h2 := h.2
    simp only [isDigit, Bool.and_eq_true, decide_eq_true_eq] at h2
    omega

/-- The decimal digits of a number, none of nought. -/
def decF : Nat → Nat → List UInt8
  | 0, _ => []
  | f + 1, n => if n = 0 then [] else decF f (n / 10) ++ [UInt8.ofNat (48 + n % 10)]
theorem decF_more (f n : Nat) (h : n ≤ f) : decF (f + 1) n = decF f n := by
  induction f generalizing n with
  | zero => have : n = 0 := by omega
            subst this; simp [decF]
  | succ f ih =>
    show (if n = 0 then [] else decF (f + 1) (n / 10) ++ [UInt8.ofNat (48 + n % 10)]) = (if n = 0 then [] else decF f (n / 10) ++ [UInt8.ofNat (48 + n % 10)])
    by_cases h0 : n = 0
    · simp [h0]
    · rw [if_neg h0, if_neg h0, ih (n / 10) (by omega)]
theorem decF_any (f g n : Nat) (h : n ≤ f) (hg : f ≤ g) : decF g n = decF f n := by
  induction g with
  | zero => have : f = 0 := by omega
            subst this; rfl
  | succ g ih =>
    by_cases e : f = g + 1
    · subst e; rfl
    · rw [decF_more g n (by omega), ih (by omega)]
def dec (n : Nat) : List UInt8 := decF n n
theorem dec_zero : dec 0 = [] := rfl
theorem dec_pos (n : Nat) (h : n ≠ 0) : dec n = dec (n / 10) ++ [UInt8.ofNat (48 + n % 10)] := by
  unfold dec
  obtain ⟨f, rfl⟩ : ∃ f, n = f + 1 := ⟨n - 1, by omega⟩
  rw [decF, if_neg h, decF_any ((f + 1) / 10) f _ (Nat.le_refl _) (by omega)]
theorem ofNat48 (d : Nat) (h : d < 10) : (UInt8.ofNat (48 + d)).toNat = 48 + d := by rw [UInt8.toNat_ofNat']; omega
theorem dv_dec (n : Nat) : dv (dec n) = n := by
  induction n using Nat.strongRecOn with
  | _ n ih =>
    by_cases h : n = 0
    · subst h; rfl
    · rw [dec_pos n h, dv_snoc, ih (n / 10) (by omega), ofNat48 _ (by omega)]
      omega
theorem dec_digits (n : Nat) : (dec n).all isDigit = true := by
  induction n using Nat.strongRecOn with
  | _ n ih =>
    by_cases h : n = 0
    · subst h; rfl
    · rw [dec_pos n h, List.all_append, ih (n / 10) (by omega)]
      simp only [List.all_cons, List.all_nil, isDigit, ofNat48 _ (show n % 10 < 10 by omega)]
      simp; omega
theorem dec_head (n : Nat) (h : n ≠ 0) : ∃ c r, dec n = c :: r ∧ c ≠ 48 := by
  induction n using Nat.strongRecOn with
  | _ n ih =>
    rw [dec_pos n h]
    by_cases h2 : n / 10 = 0
    · rw [h2, dec_zero]
      refine ⟨_, [], rfl, ?_⟩
      intro e
      have := congrArg UInt8.toNat e
      rw [ofNat48 _ (by omega)] at this
      have h48 : (48 : UInt8).toNat = 48 := rfl
      rw [h48] at this
      omega
    · obtain ⟨c, r, e, hc⟩ := ih (n / 10) (by omega) h2
      rw [e]
      exact ⟨c, r ++ _, rfl, hc⟩
/-- Digits of which the first is no nought are those of what they are worth. -/
theorem dec_dv (l : List UInt8) (hd : l.all isDigit = true) (h : l.head? ≠ some 48) : dec (dv l) = l := by
  induction hn : l.length generalizing l with
  | zero => have := List.eq_nil_of_length_eq_zero hn; subst this; rfl
  | succ n ih =>
    have hne : l ≠ [] := by intro e; subst e; simp at hn
    have e := List.dropLast_concat_getLast hne
    have hl : l.dropLast.length = n := by rw [List.length_dropLast, hn]; rfl
    generalize l.dropLast = q at e hl
    generalize l.getLast hne = c at e
    subst e
    simp only [List.all_append, List.all_cons, List.all_nil, Bool.and_true, Bool.and_eq_true] at hd
    have hc := hd.2
    simp only [isDigit, Bool.and_eq_true, decide_eq_true_eq] at hc
    have hq : q.head? ≠ some 48 := by
      cases q with
      | nil => simp
      | cons x r => simpa using h
    have iq := ih q hd.1 hq hl
    have hv : dv (q ++ [c]) ≠ 0 := by
      rw [dv_snoc]
      cases q with
      | nil =>
        intro e0
        have : c.toNat = 48 := by simp [dv] at e0; omega
        exact h (by simp; exact UInt8.toNat_inj.1 (by simpa using this))
      | cons x r =>
        intro e0
        have : dv (x :: r) = 0 := by omega
        rw [this, dec_zero] at iq
        cases iq
    rw [dec_pos _ hv, dv_snoc, show (10 * dv q + (c.toNat - 48)) / 10 = dv q by omega, iq, show 48 + (10 * dv q + (c.toNat - 48)) % 10 = c.toNat by omega]
    simp

theorem dec_len (n k : Nat) (h : n < 10 ^ k) : (dec n).length ≤ k := by
  induction k generalizing n with
  | zero => have : n = 0 := by omega
            subst this; simp [dec_zero]
  | succ k ih =>
    by_cases h0 : n = 0
    · subst h0; simp [dec_zero]
    · rw [dec_pos n h0, List.length_append]
      have := ih (n / 10) (by rw [Nat.pow_succ] at h; omega)
      simp; omega
theorem dec_nv_len (m : List UInt8) : (dec (nv m)).length ≤ 3 * m.length := by
  refine dec_len _ _ ?_
  have h := nv_lt m
  have h2 : 256 ^ m.length ≤ 1000 ^ m.length := Nat.pow_le_pow_left (by decide) _
  have h3 : 10 ^ (3 * m.length) = 1000 ^ m.length := by rw [Nat.pow_mul]
  omega

/-- Ten times a row of bytes, and a carry: the row, and what is carried out. -/
def mulAdd : List UInt8 → Nat → List UInt8 × Nat
  | [], d => ([], d)
  | x :: r, d => (UInt8.ofNat ((mulAdd r d).2 + 10 * x.toNat) :: (mulAdd r d).1, ((mulAdd r d).2 + 10 * x.toNat) / 256)
theorem mulAdd_length (l : List UInt8) (d : Nat) : (mulAdd l d).1.length = l.length := by
  induction l with
  | nil => rfl
  | cons x r ih => simp [mulAdd, ih]
theorem mulAdd_carry (l : List UInt8) (d : Nat) (h : d ≤ 9) : (mulAdd l d).2 ≤ 9 := by
  induction l with
  | nil => exact h
  | cons x r ih =>
    have := x.toNat_lt
    simp only [mulAdd]; omega
theorem mulAdd_nv (l : List UInt8) (d : Nat) : nv (mulAdd l d).1 + (mulAdd l d).2 * 256 ^ l.length = 10 * nv l + d := by
  induction l with
  | nil => simp [mulAdd, nv]
  | cons x r ih =>
    simp only [mulAdd, List.length_cons]
    rw [nv_cons, nv_cons, mulAdd_length, UInt8.toNat_ofNat', pow256]
    generalize (mulAdd r d).2 = c at *
    generalize nv (mulAdd r d).1 = a at *
    generalize 256 ^ r.length = p at *
    have h : (c + 10 * x.toNat) % 2 ^ 8 * p + (c + 10 * x.toNat) / 256 * (p * 256) = (c + 10 * x.toNat) * p := by
      rw [Nat.mul_comm p 256, ← Nat.mul_assoc, ← Nat.add_mul]
      congr 1
      omega
    have h2 : (c + 10 * x.toNat) * p = c * p + 10 * (x.toNat * p) := by rw [Nat.add_mul, Nat.mul_assoc]
    omega
theorem mulAdd_fits (l : List UInt8) (d : Nat) (h : 10 * nv l + d < 256 ^ l.length) : nv (mulAdd l d).1 = 10 * nv l + d := by
  have h1 := mulAdd_nv l d
  have h2 : (mulAdd l d).2 = 0 := by
    rcases Nat.eq_zero_or_pos (mulAdd l d).2 with e | e
    · exact e
    · have : 1 * 256 ^ l.length ≤ (mulAdd l d).2 * 256 ^ l.length := Nat.mul_le_mul_right _ e
      omega
  rw [h2] at h1
  omega

/-- A row of bytes by ten, a rest ahead: the row, and the rest. -/
def divMod : List UInt8 → Nat → List UInt8 × Nat
  | [], r => ([], r)
  | x :: t, r => (UInt8.ofNat ((r * 256 + x.toNat) / 10) :: (divMod t ((r * 256 + x.toNat) % 10)).1, (divMod t ((r * 256 + x.toNat) % 10)).2)
theorem divMod_length (l : List UInt8) (r : Nat) : (divMod l r).1.length = l.length := by
  induction l generalizing r with
  | nil => rfl
  | cons x t ih => simp [divMod, ih]
theorem divMod_rest (l : List UInt8) (r : Nat) (h : r ≤ 9) : (divMod l r).2 ≤ 9 := by
  induction l generalizing r with
  | nil => exact h
  | cons x t ih => exact ih _ (by omega)
theorem divMod_snoc (l : List UInt8) (x : UInt8) (r : Nat) :
    divMod (l ++ [x]) r = ((divMod l r).1 ++ [UInt8.ofNat (((divMod l r).2 * 256 + x.toNat) / 10)], ((divMod l r).2 * 256 + x.toNat) % 10) := by
  induction l generalizing r with
  | nil => simp [divMod]
  | cons y t ih => simp [divMod, ih]
theorem divMod_nv (l : List UInt8) (r : Nat) (h : r ≤ 9) : 10 * nv (divMod l r).1 + (divMod l r).2 = r * 256 ^ l.length + nv l := by
  induction l generalizing r with
  | nil => simp [divMod, nv]
  | cons x t ih =>
    have hx := x.toNat_lt
    have h1 := ih ((r * 256 + x.toNat) % 10) (by omega)
    simp only [divMod, List.length_cons]
    rw [nv_cons, nv_cons, divMod_length, UInt8.toNat_ofNat', pow256]
    have h2 : (r * 256 + x.toNat) / 10 < 256 := by omega
    rw [Nat.mod_eq_of_lt (by simpa using h2)]
    generalize (divMod t ((r * 256 + x.toNat) % 10)).2 = c at *
    generalize nv (divMod t ((r * 256 + x.toNat) % 10)).1 = a at *
    generalize 256 ^ t.length = p at *
    have e : (r * 256 + x.toNat) * p = 10 * ((r * 256 + x.toNat) / 10 * p) + (r * 256 + x.toNat) % 10 * p := by
      rw [← Nat.mul_assoc, ← Nat.add_mul]
      congr 1
      omega
    have e2 : (r * 256 + x.toNat) * p = r * (p * 256) + x.toNat * p := by rw [Nat.add_mul, Nat.mul_assoc, Nat.mul_comm p 256]
    omega
theorem divMod_ten (l : List UInt8) : nv (divMod l 0).1 = nv l / 10 ∧ (divMod l 0).2 = nv l % 10 := by
  have h := divMod_nv l 0 (by decide)
  have h2 := divMod_rest l 0 (by decide)
  omega
/-- After k bytes were divided. -/
def divTo (l : List UInt8) (k : Nat) : List UInt8 := (divMod (l.take k) 0).1 ++ l.drop k
theorem divTo_length (l : List UInt8) (k : Nat) (h : k ≤ l.length) : (divTo l k).length = l.length := by simp [divTo, divMod_length]; omega
theorem divTo_zero (l : List UInt8) : divTo l 0 = l := by simp [divTo, divMod]
theorem divTo_end (l : List UInt8) (k : Nat) (h : l.length ≤ k) : divTo l k = (divMod l 0).1 := by simp [divTo, List.take_of_length_le h, List.drop_of_length_le h]
theorem divTo_get (l : List UInt8) (k : Nat) (h : k < l.length) (h2 : k < (divTo l k).length) : (divTo l k)[k] = l[k] := by
  simp only [divTo]
  rw [List.getElem_append_right (by rw [divMod_length, List.length_take]; omega)]
  simp [divMod_length, Nat.min_eq_left (Nat.le_of_lt h)]
theorem divTo_step (l : List UInt8) (k : Nat) (h : k < l.length) :
    (divTo l k).set k (UInt8.ofNat (((divMod (l.take k) 0).2 * 256 + l[k].toNat) / 10)) = divTo l (k + 1) ∧ (divMod (l.take (k + 1)) 0).2 = ((divMod (l.take k) 0).2 * 256 + l[k].toNat) % 10 := by
  have hs : l.take (k + 1) = l.take k ++ [l[k]] := List.take_succ_eq_append_getElem h
  refine ⟨?_, by rw [hs, divMod_snoc]⟩
  unfold divTo
  rw [hs, divMod_snoc, List.set_append, if_neg (by rw [divMod_length, List.length_take]; omega), divMod_length, List.length_take, Nat.min_eq_left (Nat.le_of_lt h), Nat.sub_self, List.drop_eq_getElem_cons h, List.set_cons_zero, List.append_assoc]
  rfl
end Go.Proofs.YtcgphlilijeifaaDoor
