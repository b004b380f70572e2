/-
  The plain words of layer 1, on lists of bytes: escaped texts, the order of bytes, turned bytes, what stands above a beginning.
-/
namespace Go.Proofs.Ytocmnkcnghapfaa

/-- A text escaped, without its end. -/
def esc : List UInt8 → List UInt8
  | [] => []
  | c :: r => (if c = 0 then [0, 255] else [c]) ++ esc r

theorem esc_append (l m : List UInt8) : esc (l ++ m) = esc l ++ esc m := by
  induction l with
  | nil => rfl
  | cons c r ih => simp [esc, ih]
theorem esc_len (l : List UInt8) : (esc l).length ≤ 2 * l.length := by
  induction l with
  | nil => simp [esc]
  | cons c r ih => simp only [esc, List.length_append, List.length_cons]; split <;> simp <;> omega
theorem take_snoc (s : ByteArray) (k : Nat) (h : k < s.size) : s.data.toList.take (k + 1) = s.data.toList.take k ++ [s[k]] := by
  rw [List.take_succ_eq_append_getElem (by simpa using h)]; rfl
theorem take_end (s : ByteArray) (k : Nat) (h : ¬ k < s.size) : s.data.toList.take k = s.data.toList :=
  List.take_of_length_le (by rw [Array.length_toList]; exact Nat.le_of_not_lt h)
theorem drop_cons (s : ByteArray) (k : Nat) (h : k < s.size) : s.data.toList.drop k = s[k] :: s.data.toList.drop (k + 1) := by
  rw [List.drop_eq_getElem_cons (by simpa using h)]; rfl
theorem drop_end (s : ByteArray) (k : Nat) (h : ¬ k < s.size) : s.data.toList.drop k = [] :=
  List.drop_of_length_le (by rw [Array.length_toList]; exact Nat.le_of_not_lt h)

/-- What is read from the front of some bytes: the text, how many bytes were gone through, the error's number. -/
def un : List UInt8 → List UInt8 × Nat × Int
  | [] => ([], 0, 10)
  | c :: r =>
    if c ≠ 0 then
      if (un r).2.2 = 0 then (c :: (un r).1, (un r).2.1 + 1, 0) else ([], (un r).2.1 + 1, 10)
    else match r with
      | [] => ([], 1, 10)
      | d :: q =>
        if d = 255 then
          if (un q).2.2 = 0 then (0 :: (un q).1, (un q).2.1 + 2, 0) else ([], (un q).2.1 + 2, 10)
        else if d = 1 then ([], 2, 0) else ([], 1, 10)

/-- What was read so far, and what the rest reads as. -/
def comb (l : List UInt8) (k : Nat) (r : List UInt8 × Nat × Int) : List UInt8 × Nat × Int :=
  if r.2.2 = 0 then (l ++ r.1, k + r.2.1, 0) else ([], k + r.2.1, 10)

theorem un_code (l : List UInt8) : (un l).2.2 = 0 ∨ (un l).2.2 = 10 := by
  fun_induction un l <;> simp_all
theorem un_bad (l : List UInt8) (h : (un l).2.2 ≠ 0) : (un l).1 = [] ∧ (un l).2.2 = 10 := by
  fun_induction un l <;> simp_all
theorem comb_nil (l : List UInt8) : comb [] 0 (un l) = un l := by
  have hb := un_bad l
  unfold comb
  generalize un l = r at *
  obtain ⟨t, n, e⟩ := r
  by_cases h : e = 0
  · subst h; simp
  · obtain ⟨h1, h2⟩ := hb h
    simp only at h1 h2
    subst h1 h2
    simp
theorem un_le (l : List UInt8) : (un l).2.1 ≤ l.length := by
  fun_induction un l <;> simp_all <;> omega

theorem un_ne (c : UInt8) (r : List UInt8) (h : c ≠ 0) : un (c :: r) = if (un r).2.2 = 0 then (c :: (un r).1, (un r).2.1 + 1, 0) else ([], (un r).2.1 + 1, 10) := by
  cases r <;> simp [un, h]
theorem un_zero (q : List UInt8) : un (0 :: 255 :: q) = if (un q).2.2 = 0 then (0 :: (un q).1, (un q).2.1 + 2, 0) else ([], (un q).2.1 + 2, 10) := by
  simp [un]
theorem un_text_le (l : List UInt8) : (un l).1.length ≤ (un l).2.1 := by
  fun_induction un l <;> simp_all <;> omega
theorem comb_one (l : List UInt8) (k : Nat) (c : UInt8) (r : List UInt8) (h : c ≠ 0) : comb l k (un (c :: r)) = comb (l ++ [c]) (k + 1) (un r) := by
  rw [un_ne c r h]
  unfold comb
  by_cases h2 : (un r).2.2 = 0
  · simp [h2]; omega
  · simp [h2]; omega
theorem comb_zero (l : List UInt8) (k : Nat) (r : List UInt8) : comb l k (un (0 :: 255 :: r)) = comb (l ++ [0]) (k + 2) (un r) := by
  rw [un_zero]
  unfold comb
  by_cases h2 : (un r).2.2 = 0
  · simp [h2]; omega
  · simp [h2]; omega
theorem comb_done (l : List UInt8) (k : Nat) (r : List UInt8) : comb l k (un (0 :: 1 :: r)) = (l, k + 2, 0) := by
  simp [un, comb]
theorem comb_bad (l : List UInt8) (k : Nat) (d : UInt8) (r : List UInt8) (h : d ≠ 255) (h1 : d ≠ 1) : comb l k (un (0 :: d :: r)) = ([], k + 1, 10) := by
  simp [un, comb, h, h1]
theorem comb_short (l : List UInt8) (k : Nat) : comb l k (un [0]) = ([], k + 1, 10) := by
  simp [un, comb]
theorem comb_empty (l : List UInt8) (k : Nat) : comb l k (un []) = ([], k, 10) := by
  simp [comb, un]

/-- What was escaped is read back, whatever stands behind. -/
theorem un_esc (a x : List UInt8) : un (esc a ++ 0 :: 1 :: x) = (a, (esc a).length + 2, 0) := by
  induction a with
  | nil => simp [esc, un]
  | cons c r ih =>
    by_cases h : c = 0
    · subst h
      simp only [esc, if_true, List.cons_append, List.nil_append]
      rw [un_zero]
      simp [ih]
    · simp only [esc, if_neg h, List.cons_append, List.nil_append]
      rw [un_ne c _ h]
      simp [ih]
/-- What is read is, escaped, what was read. -/
theorem esc_un (l : List UInt8) (h : (un l).2.2 = 0) : l.take (un l).2.1 = esc (un l).1 ++ [0, 1] := by
  fun_induction un l <;> simp_all [esc]
end Go.Proofs.Ytocmnkcnghapfaa
