import Derived.Lib.SlTrimSet
import Derived.Test.YtcgphlilijeifaaDoorLitPrintsG1
/-
  What decimal digits are read as, in plain words.
-/
namespace Go.Proofs.YtcgphlilijeifaaDoor

/-- Does a text begin with a '-'? The digits behind it. -/
def neg (s : List UInt8) : Bool := s.head? == some 45
def ds (s : List UInt8) : List UInt8 := if neg s then s.tail else s
/-- Are these digits as a number has them? -/
def good (s : List UInt8) : Bool := !(ds s).isEmpty && (ds s).all isDigit && !((ds s).head? == some 48 && !(s == [48]))
/-- The error's number. -/
def parseE (s : List UInt8) : Int := if good s then (if 255 < (magN (dv (ds s))).length then 21 else 0) else 20
theorem ds_length (s : List UInt8) : (ds s).length ≤ s.length := by unfold ds; split <;> simp
theorem neg_ne (s : List UInt8) : (ds s == s) = !neg s := by
  unfold ds
  by_cases h : neg s = true
  · rw [if_pos h, h]
    cases s with
    | nil => simp [neg] at h
    | cons c r =>
      simp only [List.tail_cons, Bool.not_true, beq_eq_false_iff_ne]
      intro e
      have := congrArg List.length e
      simp at this
  · rw [if_neg h]
    simp at h
    simp [h]
theorem good_head {s : List UInt8} (h : good s = true) (h1 : s ≠ [48]) : (ds s).head? ≠ some 48 := by
  simp only [good, Bool.and_eq_true, Bool.not_eq_true'] at h
  intro e
  have := h.2
  rw [e] at this
  simp at this
  exact h1 this
theorem good_digits {s : List UInt8} (h : good s = true) : (ds s).all isDigit = true := by
  simp only [good, Bool.and_eq_true] at h
  exact h.1.2
theorem good_ne {s : List UInt8} (h : good s = true) : ds s ≠ [] := by
  simp only [good, Bool.and_eq_true, Bool.not_eq_true'] at h
  intro e
  have := h.1.1
  rw [e] at this
  simp at this
theorem dv_ge {l : List UInt8} (hd : l.all isDigit = true) (h : l.head? ≠ some 48) (k : Nat) (hk : k < l.length) : 10 ^ k ≤ dv l := by
  rcases Nat.lt_or_ge (dv l) (10 ^ k) with h2 | h2
  · have := dec_len _ _ h2
    rw [dec_dv l hd h] at this
    omega
  · exact h2
theorem long_of {s : List UInt8} (h : good s = true) (k : Nat) (hk : k < (ds s).length) (hp : 256 ^ 255 ≤ 10 ^ k) (h1 : s ≠ [48]) : 255 < (magN (dv (ds s))).length := by
  rcases Nat.lt_or_ge 255 (magN (dv (ds s))).length with h2 | h2
  · exact h2
  · have h3 := (magN_len _ 255).1 h2
    have h4 := dv_ge (good_digits h) (good_head h h1) k hk
    omega

/-- The rows of bytes while digits are read. -/
def accL (L : Nat) (l : List UInt8) : List UInt8 := l.foldl (fun b c => (mulAdd b (c.toNat - 48)).1) (List.replicate L 0)
theorem accL_snoc (L : Nat) (l : List UInt8) (c : UInt8) : accL L (l ++ [c]) = (mulAdd (accL L l) (c.toNat - 48)).1 := by simp [accL]
theorem accL_nil (L : Nat) : accL L [] = List.replicate L 0 := rfl
theorem accL_length (L : Nat) (l : List UInt8) : (accL L l).length = L := by
  induction hn : l.length generalizing l with
  | zero => have := List.eq_nil_of_length_eq_zero hn; subst this; simp [accL]
  | succ n ih =>
    have hne : l ≠ [] := by intro e; subst e; simp at hn
    have e := List.dropLast_concat_getLast hne
    rw [← e, accL_snoc, mulAdd_length]
    exact ih _ (by rw [List.length_dropLast, hn]; rfl)
theorem nv_replicate (L : Nat) : nv (List.replicate L 0) = 0 := by
  induction L with
  | zero => rfl
  | succ L ih => rw [List.replicate_succ, nv_cons, ih]; simp
theorem accL_nv (L : Nat) (l : List UInt8) (hd : l.all isDigit = true) (hl : l.length ≤ L) : nv (accL L l) = dv l := by
  induction hn : l.length generalizing l with
  | zero =>
    have := List.eq_nil_of_length_eq_zero hn
    subst this
    rw [accL_nil, nv_replicate]; rfl
  | succ n ih =>
    have hne : l ≠ [] := by intro e; subst e; simp at hn
    have e := List.dropLast_concat_getLast hne
    have hl2 : l.dropLast.length = n := by rw [List.length_dropLast, hn]; rfl
    generalize l.dropLast = q at e hl2
    generalize l.getLast hne = c at e
    subst e
    have hall := hd
    simp only [List.all_append, List.all_cons, List.all_nil, Bool.and_true, Bool.and_eq_true] at hd
    have iq := ih q hd.1 (by omega) hl2
    have hlt := dv_lt (q ++ [c]) hall
    rw [dv_snoc] at hlt
    rw [accL_snoc, mulAdd_fits, iq, dv_snoc]
    rw [iq, accL_length]
    have h1 : 10 ^ (q ++ [c]).length ≤ 256 ^ (q ++ [c]).length := Nat.pow_le_pow_left (by decide) _
    have h2 := pow_mono hl
    omega
/-- What is read. -/
theorem strip_acc {s : List UInt8} (h : good s = true) (L : Nat) (hL : (ds s).length ≤ L) : strip (accL L (ds s)) = magN (dv (ds s)) :=
  nv_inj (strip_head _) (magN_head _) (by rw [nv_strip, accL_nv L _ (good_digits h) hL, magN_nv])

/-- A row by ten from the right on, down to place r. -/
def mulTo (b : List UInt8) (d r : Nat) : List UInt8 := b.take r ++ (mulAdd (b.drop r) d).1
theorem mulTo_length (b : List UInt8) (d r : Nat) : (mulTo b d r).length = b.length := by
  simp only [mulTo, List.length_append, mulAdd_length, List.length_take, List.length_drop]; omega
theorem mulTo_all (b : List UInt8) (d r : Nat) (h : b.length ≤ r) : mulTo b d r = b := by simp [mulTo, List.take_of_length_le h, List.drop_of_length_le h, mulAdd]
theorem mulTo_zero (b : List UInt8) (d : Nat) : mulTo b d 0 = (mulAdd b d).1 := by simp [mulTo]
theorem mulTo_get (b : List UInt8) (d q : Nat) (h : q < b.length) (h2 : q < (mulTo b d (q + 1)).length) : (mulTo b d (q + 1))[q] = b[q] := by
  simp only [mulTo]
  rw [List.getElem_append_left (by rw [List.length_take]; omega)]
  simp
theorem mulTo_step (b : List UInt8) (d q : Nat) (h : q < b.length) :
    (mulTo b d (q + 1)).set q (UInt8.ofNat ((mulAdd (b.drop (q + 1)) d).2 + 10 * b[q].toNat)) = mulTo b d q ∧ (mulAdd (b.drop q) d).2 = ((mulAdd (b.drop (q + 1)) d).2 + 10 * b[q].toNat) / 256 := by
  have hd : b.drop q = b[q] :: b.drop (q + 1) := List.drop_eq_getElem_cons h
  refine ⟨?_, by rw [hd]; rfl⟩
  unfold mulTo
  rw [hd, List.take_succ_eq_append_getElem h, List.append_assoc, List.set_append, if_neg (by rw [List.length_take]; omega), List.length_take, Nat.min_eq_left (Nat.le_of_lt h), Nat.sub_self]
  rfl

/-- Digits alone are trimmed to nothing, and nothing else is. -/
def nine : List UInt8 := [48, 49, 50, 51, 52, 53, 54, 55, 56, 57]
theorem nine_iff (c : UInt8) : nine.contains c = isDigit c := by
  rw [Bool.eq_iff_iff]
  simp only [nine, isDigit, List.contains_iff_mem, List.mem_cons, List.not_mem_nil, or_false, Bool.and_eq_true, decide_eq_true_eq, ← UInt8.toNat_inj]
  simp; omega
theorem dropWhile_nil {p : UInt8 → Bool} (l : List UInt8) : l.dropWhile p = [] ↔ l.all p = true := by
  induction l with
  | nil => simp
  | cons c r ih =>
    by_cases h : p c = true
    · simp [h, ih]
    · simp [h]
theorem dropWhile_all {p : UInt8 → Bool} (l : List UInt8) : (l.dropWhile p).all p = l.all p := by
  induction l with
  | nil => rfl
  | cons c r ih =>
    by_cases h : p c = true
    · simp [h, ih]
    · simp [h]
theorem trim_digits (l : List UInt8) : Lib.trimS l nine = [] ↔ l.all isDigit = true := by
  have e : (fun c => nine.contains c) = isDigit := by funext c; exact nine_iff c
  unfold Lib.trimS Lib.trimLeftS Lib.trimRightS
  rw [dropWhile_nil, List.all_reverse, dropWhile_all, List.all_reverse, e]
theorem trim_empty (l : List UInt8) (h : l.all isDigit = true) : (Lib.trimS l nine).isEmpty = true := by rw [(trim_digits l).2 h]; rfl
theorem trim_full (l : List UInt8) (h : ¬ l.all isDigit = true) : (Lib.trimS l nine).isEmpty = false := by
  cases e : Lib.trimS l nine with
  | nil => exact absurd ((trim_digits l).1 e) h
  | cons _ _ => rfl
theorem parseE_bad {s : List UInt8} (h : good s = false) : parseE s = 20 := by simp [parseE, h]
theorem parseE_long {s : List UInt8} (h : good s = true) (h2 : 255 < (magN (dv (ds s))).length) : parseE s = 21 := by simp [parseE, h, h2]
theorem parseE_ok {s : List UInt8} (h : good s = true) (h2 : ¬ 255 < (magN (dv (ds s))).length) : parseE s = 0 := by simp [parseE, h, h2]
end Go.Proofs.YtcgphlilijeifaaDoor
