/-
  What Take reads, as plain data; it is the inverse of what Put writes.
-/
import Derived.Test.YtcgphlilijeifaaDoorNum
namespace Go.Proofs.YtcgphlilijeifaaDoor

/-- How many bytes the magnitude has, the sign, and the place behind; or the place of the error. -/
def sizeE (l : List UInt8) (a : Nat) : Except Nat (Nat × Bool × Nat) :=
  match l[a]? with
  | none => .error l.length
  | some b =>
    if b.toNat = 255 then
      match l[a + 1]? with
      | none => .error l.length
      | some n => if 126 < n.toNat then .ok (n.toNat, false, a + 2) else .error (a + 1)
    else if 128 ≤ b.toNat then .ok (b.toNat - 128, false, a + 1)
    else if 2 ≤ b.toNat then .ok (128 - b.toNat, true, a + 1)
    else if b.toNat = 1 then
      match l[a + 1]? with
      | none => .error l.length
      | some n => if 126 < 255 - n.toNat then .ok (255 - n.toNat, true, a + 2) else .error (a + 1)
    else .error a

/-- A byte of a number below 0 stands turned. -/
def fl (below : Bool) (c : UInt8) : UInt8 := if below then 255 - c else c
/-- The magnitude's k bytes from a place on; or the place of the error. -/
def magE (l : List UInt8) (below : Bool) (f k : Nat) : Except Nat (List UInt8) :=
  if k = 0 then .ok []
  else
    match l[f]? with
    | none => .error l.length
    | some b => if fl below b = 0 then .error f else if f + k ≤ l.length then .ok (((l.drop f).take k).map (fl below)) else .error l.length
/-- What Take reads. -/
def takeE (l : List UInt8) (a : Nat) : Except Nat (Bool × List UInt8 × Nat) :=
  match sizeE l a with
  | .error p => .error p
  | .ok (k, below, f) =>
    match magE l below f k with
    | .error p => .error p
    | .ok m => .ok (below, m, f + k)

theorem sub255n (c : UInt8) : (255 - c : UInt8).toNat = 255 - c.toNat := by
  have := sub255 c
  have := c.toNat_lt
  omega
theorem fl_fl (b : Bool) (c : UInt8) : fl b (fl b c) = c := by
  cases b
  · rfl
  · apply UInt8.toNat_inj.1
    simp only [fl, if_true]
    rw [sub255n, sub255n]
    have := c.toNat_lt
    omega
theorem map_fl_fl (b : Bool) (l : List UInt8) : (l.map (fl b)).map (fl b) = l := by
  induction l with
  | nil => rfl
  | cons c r ih => rw [List.map_cons, List.map_cons, fl_fl, ih]
theorem fl_eq (b : Bool) (l : List UInt8) : (if b then l.map (255 - ·) else l) = l.map (fl b) := by
  cases b
  · exact (List.map_id' l).symm
  · rfl
theorem sizeE_ok {l : List UInt8} {a k f : Nat} {below : Bool} (h : sizeE l a = .ok (k, below, f)) : k ≤ 255 ∧ a < f ∧ f ≤ l.length := by
  unfold sizeE at h
  split at h
  · exact nomatch h
  · rename_i b hb
    have h1 := (List.getElem?_eq_some_iff.1 hb).1
    have hb2 := b.toNat_lt
    split at h
    · split at h
      · exact nomatch h
      · rename_i n hn
        have h2 := (List.getElem?_eq_some_iff.1 hn).1
        have hn2 := n.toNat_lt
        split at h
        · (simp only [Except.ok.injEq, Prod.mk.injEq] at h; obtain ⟨h3, _, h4⟩ := h; omega)
        · exact nomatch h
    · split at h
      · (simp only [Except.ok.injEq, Prod.mk.injEq] at h; obtain ⟨h3, _, h4⟩ := h; omega)
      · split at h
        · (simp only [Except.ok.injEq, Prod.mk.injEq] at h; obtain ⟨h3, _, h4⟩ := h; omega)
        · split at h
          · split at h
            · exact nomatch h
            · rename_i n hn
              have h2 := (List.getElem?_eq_some_iff.1 hn).1
              split at h
              · (simp only [Except.ok.injEq, Prod.mk.injEq] at h; obtain ⟨h3, _, h4⟩ := h; omega)
              · exact nomatch h
          · exact nomatch h

/-- What is read so far. -/
def readL (l : List UInt8) (below : Bool) (f j : Nat) : List UInt8 := ((l.drop f).take j).map (fl below)
theorem readL_zero (l : List UInt8) (below : Bool) (f : Nat) : readL l below f 0 = [] := by simp [readL]
theorem readL_succ (l : List UInt8) (below : Bool) (f j : Nat) (c : UInt8) (h : l[f + j]? = some c) : readL l below f (j + 1) = readL l below f j ++ [fl below c] := by
  unfold readL
  rw [List.take_add_one, List.getElem?_drop, h]
  simp
theorem readL_length (l : List UInt8) (below : Bool) (f j : Nat) (h : f + j ≤ l.length) : (readL l below f j).length = j := by
  simp [readL]; omega
/-- Behind the first byte. -/
def OnE (l : List UInt8) (below : Bool) (f k : Nat) : Prop := magE l below f k = if f + k ≤ l.length then .ok (readL l below f k) else .error l.length
theorem onE_first {l : List UInt8} {below : Bool} {f k : Nat} {c : UInt8} (hk : 0 < k) (h : l[f]? = some c) (hc : fl below c ≠ 0) : OnE l below f k := by
  unfold OnE magE
  rw [if_neg (by omega), h]
  simp [hc, readL]
theorem magE_zero {l : List UInt8} {below : Bool} {f k : Nat} {c : UInt8} (hk : 0 < k) (h : l[f]? = some c) (hc : fl below c = 0) : magE l below f k = .error f := by
  unfold magE
  rw [if_neg (by omega), h]
  simp [hc]
theorem magE_end {l : List UInt8} {below : Bool} {f k j : Nat} (hj : j < k) (h : f + j = l.length) (hon : j = 0 ∨ OnE l below f k) : magE l below f k = .error l.length := by
  rcases hon with rfl | hon
  · unfold magE
    rw [if_neg (by omega), List.getElem?_eq_none (by omega)]
  · rw [hon, if_neg (by omega)]
theorem magE_all {l : List UInt8} {below : Bool} {f k : Nat} (h : f + k ≤ l.length) (hon : k = 0 ∨ OnE l below f k) : magE l below f k = .ok (readL l below f k) := by
  rcases hon with rfl | hon
  · rw [readL_zero]; rfl
  · rw [hon, if_pos h]
end Go.Proofs.YtcgphlilijeifaaDoor
