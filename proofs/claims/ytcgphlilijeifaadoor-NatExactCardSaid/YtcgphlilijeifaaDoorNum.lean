/-
  Numbers as plain data: a sign and a magnitude's bytes; whether they may be.
-/
namespace Go.Proofs.YtcgphlilijeifaaDoor

/-- Check's answer. -/
def chk (b : Bool) (m : List UInt8) : Int :=
  if 255 < m.length then 21 else if (m = [] ∧ b = true) ∨ m.head? = some 0 then 20 else 0
theorem chk_long {b : Bool} {m : List UInt8} (h : 255 < m.length) : chk b m = 21 := by simp [chk, h]
theorem chk_nil_below {m : List UInt8} (h : m = []) : chk true m = 20 := by simp [chk, h]
theorem chk_nil {m : List UInt8} (h : m = []) : chk false m = 0 := by simp [chk, h]
theorem chk_zero {b : Bool} {m : List UInt8} (h : ¬ 255 < m.length) (h0 : m.head? = some 0) : chk b m = 20 := by simp [chk, h, h0]
theorem chk_ok {b : Bool} {m : List UInt8} (h : ¬ 255 < m.length) (hn : m ≠ []) (h0 : m.head? ≠ some 0) : chk b m = 0 := by simp [chk, h, h0, hn]
theorem chk_zero_iff {b : Bool} {m : List UInt8} : chk b m = 0 ↔ m.length ≤ 255 ∧ (m = [] → b = false) ∧ m.head? ≠ some 0 := by
  unfold chk
  by_cases h : 255 < m.length
  · simp only [h, if_true]
    exact ⟨fun e => absurd e (by decide), fun e => by omega⟩
  · by_cases h2 : (m = [] ∧ b = true) ∨ m.head? = some 0
    · simp only [h, h2, if_false, if_true]
      rcases h2 with ⟨h2, h3⟩ | h2
      · simp [h2, h3]
      · simp [h2]
    · simp only [h, h2, if_false]
      simp only [not_or, not_and] at h2
      simp only [true_iff]
      exact ⟨by omega, fun e => by simpa using h2.1 e, h2.2⟩
theorem chk_three (b : Bool) (m : List UInt8) : chk b m = 0 ∨ chk b m = 20 ∨ chk b m = 21 := by
  unfold chk; split
  · simp
  · split <;> simp
theorem chk_21 {b : Bool} {m : List UInt8} : chk b m = 21 ↔ 255 < m.length := by
  unfold chk; split
  · simp_all
  · split <;> simp_all

/-- A number's bytes. -/
def putHead (b : Bool) (k : Nat) : List UInt8 :=
  if b then (if k ≤ 126 then [UInt8.ofNat (128 - k)] else [1, UInt8.ofNat (255 - k)]) else (if k ≤ 126 then [UInt8.ofNat (128 + k)] else [255, UInt8.ofNat k])
def putBytes (b : Bool) (m : List UInt8) : List UInt8 := putHead b m.length ++ (if b then m.map (255 - ·) else m)
theorem ofNat_toNat (n : Nat) (h : n < 256) : ((UInt8.ofNat n).toNat : Int) = n := by simp; omega
theorem sub255 (c : UInt8) : ((255 - c : UInt8).toNat : Int) = 255 - (c.toNat : Int) := by
  have := c.toNat_lt
  rw [UInt8.toNat_sub]
  have h255 : (255 : UInt8).toNat = 255 := rfl
  rw [h255]
  omega

theorem take_snoc (s : ByteArray) (k : Nat) (h : k < s.size) : s.data.toList.take (k + 1) = s.data.toList.take k ++ [s[k]] := by
  rw [List.take_succ_eq_append_getElem (by simpa using h)]; rfl
theorem take_end (s : ByteArray) (k : Nat) (h : ¬ k < s.size) : s.data.toList.take k = s.data.toList :=
  List.take_of_length_le (by rw [Array.length_toList]; exact Nat.le_of_not_lt h)
theorem drop_cons (s : ByteArray) (k : Nat) (h : k < s.size) : s.data.toList.drop k = s[k] :: s.data.toList.drop (k + 1) := by
  rw [List.drop_eq_getElem_cons (by simpa using h)]; rfl
theorem drop_end (s : ByteArray) (k : Nat) (h : ¬ k < s.size) : s.data.toList.drop k = [] :=
  List.drop_of_length_le (by rw [Array.length_toList]; exact Nat.le_of_not_lt h)
theorem ba_eq {a b : ByteArray} (h : a.data.toList = b.data.toList) : a = b := by
  cases a with | mk x => cases b with | mk y => exact congrArg ByteArray.mk (Array.toList_inj.1 h)
end Go.Proofs.YtcgphlilijeifaaDoor
