section
/-
  Numbers as plain data: a sign and a magnitude's bytes; whether they may be.
-/
namespace Go.Proofs.YtcgphlilijeifaaDoor

/-- Check's answer. -/
def chk (b : Bool) (m : List UInt8) : Int :=
  if 255 < m.length then 21 else if (m = [] ∧ b = true) ∨ m.head? = some 0 then 20 else 0
theorem chk_long {b : Bool} {m : List UInt8} (h : 255 < m.length) : chk b m = 21 := by simp [chk, h]
theorem chk_nil_below {m : List UInt8} (h : m = []) : chk true m = 20 := by simp [chk, h]
theorem chk_nil {m : List UInt8} (h : m = []) : chk false m = 0 := by simp [chk, h]
theorem chk_zero {b : Bool} {m : List UInt8} (h : ¬ 255 < m.length) (h0 : m.head? = some 0) : chk b m = 20 := by simp [chk, h, h0]
theorem chk_ok {b : Bool} {m : List UInt8} (h : ¬ 255 < m.length) (hn : m ≠ []) (h0 : m.head? ≠ some 0) : chk b m = 0 := by simp [chk, h, h0, hn]
theorem chk_zero_iff {b : Bool} {m : List UInt8} : chk b m = 0 ↔ m.length ≤ 255 ∧ (m = [] → b = false) ∧ m.head? ≠ some 0 := by
  unfold chk
  by_cases h : 255 < m.length
  · simp only [h, if_true]
    exact ⟨fun e => absurd e (by decide), fun e => by omega⟩
  · by_cases h2 : (m = [] ∧ b = true) ∨ m.head? = some 0
    · simp only [h, h2, if_false, if_true]
      rcases h2 with ⟨h2, h3⟩ | h2
      · simp [h2, h3]
      · simp [h2]
    · simp only [h, h2, if_false]
      simp only [not_or, not_and] at h2
      simp only [true_iff]
      exact ⟨by omega, fun e => by simpa using h2.1 e, h2.2⟩
theorem chk_three (b : Bool) (m : List UInt8) : chk b m = 0 ∨ chk b m = 20 ∨ chk b m = 21 := by
  unfold chk; split
  · simp
  · split <;> simp
theorem chk_21 {b : Bool} {m : List UInt8} : chk b m = 21 ↔ 255 < m.length := by
  unfold chk; split
  · simp_all
  · split <;> simp_all

/-- A number's bytes. -/
def putHead (b : Bool) (k : Nat) : List UInt8 :=
  if b then (if k ≤ 126 then [UInt8.ofNat (128 - k)] else [1, UInt8.ofNat (255 - k)]) else (if k ≤ 126 then [UInt8.ofNat (128 + k)] else [255, UInt8.ofNat k])
def putBytes (b : Bool) (m : List UInt8) : List UInt8 := putHead b m.length ++ (if b then m.map (255 - ·) else m)
theorem ofNat_toNat (n : Nat) (h : n < 256) : ((UInt8.ofNat n).toNat : Int) = n := by simp; omega
theorem sub255 (c : UInt8) : ((255 - c : UInt8).toNat : Int) = 255 - (c.toNat : Int) := by
  have := c.toNat_lt
  rw [UInt8.toNat_sub]
  have h255 : (255 : UInt8).toNat = 255 := rfl
  rw [h255]
  omega

theorem take_snoc (s : ByteArray) (k : Nat) (h : k < s.size) : s.data.toList.take (k + 1) = s.data.toList.take k ++ [s[k]] := by
  rw [List.take_succ_eq_append_getElem (by simpa using h)]; rfl
theorem take_end (s : ByteArray) (k : Nat) (h : ¬ k < s.size) : s.data.toList.take k = s.data.toList :=
  List.take_of_length_le (by rw [Array.length_toList]; exact Nat.le_of_not_lt h)
theorem drop_cons (s : ByteArray) (k : Nat) (h : k < s.size) : s.data.toList.drop k = s[k] :: s.data.toList.drop (k + 1) := by
  rw [List.drop_eq_getElem_cons (by simpa using h)]; rfl
theorem drop_end (s : ByteArray) (k : Nat) (h : ¬ k < s.size) : s.data.toList.drop k = [] :=
  List.drop_of_length_le (by rw [Array.length_toList]; exact Nat.le_of_not_lt h)
theorem ba_eq {a b : ByteArray} (h : a.data.toList = b.data.toList) : a = b := by
  cases a with | mk x => cases b with | mk y => exact congrArg ByteArray.mk (Array.toList_inj.1 h)
end Go.Proofs.YtcgphlilijeifaaDoor
end
section
/-
  What Take reads, as plain data; it is the inverse of what Put writes.
-/
namespace Go.Proofs.YtcgphlilijeifaaDoor

/-- How many bytes the magnitude has, the sign, and the place behind; or the place of the error. -/
def sizeE (l : List UInt8) (a : Nat) : Except Nat (Nat × Bool × Nat) :=
  match l[a]? with
  | none => .error l.length
  | some b =>
    if b.toNat = 255 then
      match l[a + 1]? with
      | none => .error l.length
      | some n => if 126 < n.toNat then .ok (n.toNat, false, a + 2) else .error (a + 1)
    else if 128 ≤ b.toNat then .ok (b.toNat - 128, false, a + 1)
    else if 2 ≤ b.toNat then .ok (128 - b.toNat, true, a + 1)
    else if b.toNat = 1 then
      match l[a + 1]? with
      | none => .error l.length
      | some n => if 126 < 255 - n.toNat then .ok (255 - n.toNat, true, a + 2) else .error (a + 1)
    else .error a

/-- A byte of a number below 0 stands turned. -/
def fl (below : Bool) (c : UInt8) : UInt8 := if below then 255 - c else c
/-- The magnitude's k bytes from a place on; or the place of the error. -/
def magE (l : List UInt8) (below : Bool) (f k : Nat) : Except Nat (List UInt8) :=
  if k = 0 then .ok []
  else
    match l[f]? with
    | none => .error l.length
    | some b => if fl below b = 0 then .error f else if f + k ≤ l.length then .ok (((l.drop f).take k).map (fl below)) else .error l.length
/-- What Take reads. -/
def takeE (l : List UInt8) (a : Nat) : Except Nat (Bool × List UInt8 × Nat) :=
  match sizeE l a with
  | .error p => .error p
  | .ok (k, below, f) =>
    match magE l below f k with
    | .error p => .error p
    | .ok m => .ok (below, m, f + k)

theorem sub255n (c : UInt8) : (255 - c : UInt8).toNat = 255 - c.toNat := by
  have := sub255 c
  have := c.toNat_lt
  omega
theorem fl_fl (b : Bool) (c : UInt8) : fl b (fl b c) = c := by
  cases b
  · rfl
  · apply UInt8.toNat_inj.1
    simp only [fl, if_true]
    rw [sub255n, sub255n]
    have := c.toNat_lt
    omega
theorem map_fl_fl (b : Bool) (l : List UInt8) : (l.map (fl b)).map (fl b) = l := by
  induction l with
  | nil => rfl
  | cons c r ih => rw [List.map_cons, List.map_cons, fl_fl, ih]
theorem fl_eq (b : Bool) (l : List UInt8) : (if b then l.map (255 - ·) else l) = l.map (fl b) := by
  cases b
  · exact (List.map_id' l).symm
  · rfl
theorem sizeE_ok {l : List UInt8} {a k f : Nat} {below : Bool} (h : sizeE l a = .ok (k, below, f)) : k ≤ 255 ∧ a < f ∧ f ≤ l.length := by
  unfold sizeE at h
  split at h
  · exact nomatch h
  · rename_i b hb
    have h1 := (List.getElem?_eq_some_iff.1 hb).1
    have hb2 := b.toNat_lt
    split at h
    · split at h
      · exact nomatch h
      · rename_i n hn
        have h2 := (List.getElem?_eq_some_iff.1 hn).1
        have hn2 := n.toNat_lt
        split at h
        · (simp only [Except.ok.injEq, Prod.mk.injEq] at h; obtain ⟨h3, _, h4⟩ := h; omega)
        · exact nomatch h
    · split at h
      · (simp only [Except.ok.injEq, Prod.mk.injEq] at h; obtain ⟨h3, _, h4⟩ := h; omega)
      · split at h
        · (simp only [Except.ok.injEq, Prod.mk.injEq] at h; obtain ⟨h3, _, h4⟩ := h; omega)
        · split at h
          · split at h
            · exact nomatch h
            · rename_i n hn
              have h2 := (List.getElem?_eq_some_iff.1 hn).1
              split at h
              · (simp only [Except.ok.injEq, Prod.mk.injEq] at h; obtain ⟨h3, _, h4⟩ := h; omega)
              · exact nomatch h
          · exact nomatch h

/-- What is read so far. -/
def readL (l : List UInt8) (below : Bool) (f j : Nat) : List UInt8 := ((l.drop f).take j).map (fl below)
theorem readL_zero (l : List UInt8) (below : Bool) (f : Nat) : readL l below f 0 = [] := by simp [readL]
theorem readL_succ (l : List UInt8) (below : Bool) (f j : Nat) (c : UInt8) (h : l[f + j]? = some c) : readL l below f (j + 1) = readL l below f j ++ [fl below c] := by
  unfold readL
  rw [List.take_add_one, List.getElem?_drop, h]
  simp
theorem readL_length (l : List UInt8) (below : Bool) (f j : Nat) (h : f + j ≤ l.length) : (readL l below f j).length = j := by
  simp [readL]; omega
/-- Behind the first byte. -/
def OnE (l : List UInt8) (below : Bool) (f k : Nat) : Prop := magE l below f k = if f + k ≤ l.length then .ok (readL l below f k) else .error l.length
theorem onE_first {l : List UInt8} {below : Bool} {f k : Nat} {c : UInt8} (hk : 0 < k) (h : l[f]? = some c) (hc : fl below c ≠ 0) : OnE l below f k := by
  unfold OnE magE
  rw [if_neg (by omega), h]
  simp [hc, readL]
theorem magE_zero {l : List UInt8} {below : Bool} {f k : Nat} {c : UInt8} (hk : 0 < k) (h : l[f]? = some c) (hc : fl below c = 0) : magE l below f k = .error f := by
  unfold magE
  rw [if_neg (by omega), h]
  simp [hc]
theorem magE_end {l : List UInt8} {below : Bool} {f k j : Nat} (hj : j < k) (h : f + j = l.length) (hon : j = 0 ∨ OnE l below f k) : magE l below f k = .error l.length := by
  rcases hon with rfl | hon
  · unfold magE
    rw [if_neg (by omega), List.getElem?_eq_none (by omega)]
  · rw [hon, if_neg (by omega)]
theorem magE_all {l : List UInt8} {below : Bool} {f k : Nat} (h : f + k ≤ l.length) (hon : k = 0 ∨ OnE l below f k) : magE l below f k = .ok (readL l below f k) := by
  rcases hon with rfl | hon
  · rw [readL_zero]; rfl
  · rw [hon, if_pos h]
end Go.Proofs.YtcgphlilijeifaaDoor
end
