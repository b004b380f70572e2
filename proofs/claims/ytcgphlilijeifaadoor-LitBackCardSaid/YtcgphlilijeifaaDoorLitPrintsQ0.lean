import Derived.WalkKit
import Derived.Lib.Strings
import GoSem.Op.String
import Derived.Lib.SlTrimSet
section
/-
  Parts as plain data: how deep, whether they may be, when they are the same.
-/
namespace Go.Proofs.YtcgphlilijeifaaDoor.V

/-- A part: its kind, yes, its number's sign and magnitude, its bytes, its items. -/
inductive Pt where
  | mk (kind : Nat) (yes below : Bool) (mag raw : ByteArray) (items : List Pt)
namespace Pt
def kind : Pt → Nat | mk k _ _ _ _ _ => k
def yes : Pt → Bool | mk _ y _ _ _ _ => y
def neg : Pt → Bool | mk _ _ b _ _ _ => b
def mag : Pt → ByteArray | mk _ _ _ m _ _ => m
def raw : Pt → ByteArray | mk _ _ _ _ r _ => r
def items : Pt → List Pt | mk _ _ _ _ _ l => l
end Pt
theorem Pt.eta (p : Pt) : p = .mk p.kind p.yes p.neg p.mag p.raw p.items := by cases p; rfl

/-- Induction over a part's items. -/
theorem Pt.ind {C : Pt → Prop} (h : ∀ p : Pt, (∀ q ∈ p.items, C q) → C p) (p : Pt) : C p :=
  Pt.rec (motive_1 := C) (motive_2 := fun l => ∀ q ∈ l, C q) (fun k y b m r l ih => h (.mk k y b m r l) ih) (fun q hq => by cases hq)
    (fun hd tl h1 h2 q hq => by
      rcases List.mem_cons.1 hq with e | e
      · exact e ▸ h1
      · exact h2 q e) p

/-- Is a part deeper than so many tuples? -/
def deepB : Nat → Pt → Bool
  | 0, p => p.kind == 7
  | n + 1, p => p.kind == 7 && p.items.any (deepB n)

mutual
def depthP : Pt → Nat
  | .mk k _ _ _ _ l => if k = 7 then depthL l + 1 else 0
def depthL : List Pt → Nat
  | [] => 0
  | p :: r => max (depthP p) (depthL r)
end
theorem depthP_eq (p : Pt) : depthP p = if p.kind = 7 then depthL p.items + 1 else 0 := by cases p; rw [depthP]; rfl
theorem depthL_nil : depthL [] = 0 := by simp only [depthL]
theorem depthL_cons (p : Pt) (r : List Pt) : depthL (p :: r) = max (depthP p) (depthL r) := by simp only [depthL]
theorem depthL_snoc (l : List Pt) (p : Pt) : depthL (l ++ [p]) = max (depthL l) (depthP p) := by
  induction l with
  | nil => simp [depthL_nil, depthL_cons]
  | cons q r ih => rw [List.cons_append, depthL_cons, depthL_cons, ih]; omega
theorem depthL_le (l : List Pt) (n : Nat) : depthL l ≤ n ↔ ∀ p ∈ l, depthP p ≤ n := by
  induction l with
  | nil => simp [depthL_nil]
  | cons q r ih => rw [depthL_cons]; simp only [List.mem_cons, forall_eq_or_imp, ← ih]; omega
theorem deepB_iff (n : Nat) (p : Pt) : deepB n p = true ↔ n < depthP p := by
  induction n generalizing p with
  | zero =>
    rw [depthP_eq]
    by_cases h : p.kind = 7 <;> simp [deepB, h]
  | succ n ih =>
    rw [depthP_eq]
    by_cases h : p.kind = 7
    · simp only [deepB, h, beq_self_eq_true, Bool.true_and, List.any_eq_true, ih, if_true]
      have := depthL_le p.items n
      constructor
      · rintro ⟨q, hq, hd⟩
        by_cases h2 : depthL p.items ≤ n
        · have := this.1 h2 q hq; omega
        · omega
      · intro h2
        have h3 : ¬ ∀ q ∈ p.items, depthP q ≤ n := fun h4 => by have := this.2 h4; omega
        simp only [Classical.not_forall, Nat.not_le] at h3
        obtain ⟨q, hq, hd⟩ := h3
        exact ⟨q, hq, hd⟩
    · simp [deepB, h]

/-- Check's answer. -/
def chk (b : Bool) (m : List UInt8) : Int :=
  if 255 < m.length then 21 else if (m = [] ∧ b = true) ∨ m.head? = some 0 then 20 else 0

/-- May a part be? Of itself alone. -/
def okOne (p : Pt) : Bool :=
  decide (p.kind ≤ 7) && (p.kind == 1 || !p.yes) && (p.kind == 2 || (!p.neg && p.mag.toList.isEmpty)) && (p.kind == 7 || p.items.isEmpty) &&
    (if p.kind = 2 then p.raw.toList.isEmpty && chk p.neg p.mag.toList == 0 else if p.kind = 4 then p.raw.size == 16 else if p.kind = 3 ∨ p.kind = 5 ∨ p.kind = 6 then decide (p.raw.size ≤ 65536)
      else if p.kind = 7 then p.raw.toList.isEmpty && decide (p.items.length ≤ 1024) else p.raw.toList.isEmpty)
mutual
def mayB : Pt → Bool
  | .mk k y b m r l => okOne (.mk k y b m r l) && (!(k == 7) || mayL l)
def mayL : List Pt → Bool
  | [] => true
  | p :: r => mayB p && mayL r
end
theorem mayL_all (l : List Pt) : mayL l = l.all mayB := by
  induction l with
  | nil => simp only [mayL, List.all_nil]
  | cons p r ih => simp only [mayL, List.all_cons, ih]
theorem mayB_eq (p : Pt) : mayB p = (okOne p && (!(p.kind == 7) || p.items.all mayB)) := by
  cases p with | mk k y b m r l => simp only [mayB, mayL_all, Pt.kind, Pt.items]
theorem mayB_item {p q : Pt} (h : mayB p = true) (hq : q ∈ p.items) : mayB q = true := by
  rw [mayB_eq] at h
  simp only [Bool.and_eq_true, Bool.or_eq_true, Bool.not_eq_true', beq_eq_false_iff_ne, List.all_eq_true] at h
  rcases h.2 with h2 | h2
  · have h1 := h.1
    have h7 : (p.kind == 7 || p.items.isEmpty) = true := by
      simp only [okOne, Bool.and_eq_true] at h1
      exact h1.1.2
    rw [show (p.kind == 7) = false by simpa using h2, Bool.false_or, List.isEmpty_iff] at h7
    rw [h7] at hq; cases hq
  · exact h2 q hq
theorem mayB_ok {p : Pt} (h : mayB p = true) : okOne p = true := by
  rw [mayB_eq] at h
  simp only [Bool.and_eq_true] at h
  exact h.1

/-- Make's answer. -/
def makeE (p : Pt) : Int := if deepB 16 p then 91 else if mayB p then 0 else 90

def oneB (p q : Pt) : Bool := p.kind == q.kind && p.yes == q.yes && p.neg == q.neg && p.mag.toList == q.mag.toList && p.raw.toList == q.raw.toList
mutual
/-- Are two parts the same? -/
def sameP : Pt → Pt → Bool
  | .mk k y b m r l, .mk k' y' b' m' r' l' => oneB (.mk k y b m r l) (.mk k' y' b' m' r' l') && sameL l l'
def sameL : List Pt → List Pt → Bool
  | [], [] => true
  | p :: r, q :: t => sameP p q && sameL r t
  | _, _ => false
end
theorem sameP_eq (p q : Pt) : sameP p q = (oneB p q && sameL p.items q.items) := by cases p; cases q; simp only [sameP, Pt.items]
theorem sameL_nil : sameL [] [] = true := by simp only [sameL]
theorem sameL_cons (p q : Pt) (r t : List Pt) : sameL (p :: r) (q :: t) = (sameP p q && sameL r t) := by simp only [sameL]
theorem sameL_length {l m : List Pt} (h : sameL l m = true) : l.length = m.length := by
  induction l generalizing m with
  | nil => cases m with
    | nil => rfl
    | cons q t => simp [sameL] at h
  | cons p r ih => cases m with
    | nil => simp [sameL] at h
    | cons q t =>
      rw [sameL_cons, Bool.and_eq_true] at h
      simp [ih h.2]
theorem sameL_false {l m : List Pt} (h : l.length ≠ m.length) : sameL l m = false := by
  cases e : sameL l m with
  | false => rfl
  | true => exact absurd (sameL_length e) h
theorem ba_same {a b : ByteArray} (h : a.toList = b.toList) : a = b := by
  cases a with | mk x => cases b with | mk y =>
    rw [ByteArray.toList_mk, ByteArray.toList_mk] at h
    exact congrArg ByteArray.mk (Array.toList_inj.1 h)
theorem oneB_iff (p q : Pt) : oneB p q = true ↔ p.kind = q.kind ∧ p.yes = q.yes ∧ p.neg = q.neg ∧ p.mag = q.mag ∧ p.raw = q.raw := by
  simp only [oneB, Bool.and_eq_true, beq_iff_eq, and_assoc]
  constructor
  · rintro ⟨h1, h2, h3, h4, h5⟩; exact ⟨h1, h2, h3, ba_same h4, ba_same h5⟩
  · rintro ⟨h1, h2, h3, h4, h5⟩; exact ⟨h1, h2, h3, by rw [h4], by rw [h5]⟩
theorem sameP_refl (p : Pt) : sameP p p = true := by
  induction p using Pt.ind with
  | h p ih =>
    rw [sameP_eq, (oneB_iff p p).2 ⟨rfl, rfl, rfl, rfl, rfl⟩, Bool.true_and]
    generalize p.items = l at ih
    induction l with
    | nil => exact sameL_nil
    | cons q r ihr =>
      rw [sameL_cons, ih q (List.mem_cons_self ..), Bool.true_and]
      exact ihr fun x hx => ih x (List.mem_cons_of_mem _ hx)
theorem sameP_iff (p q : Pt) : sameP p q = true ↔ p = q := by
  constructor
  · induction p using Pt.ind generalizing q with
    | h p ih =>
      intro h
      rw [sameP_eq, Bool.and_eq_true, oneB_iff] at h
      have hl : ∀ (l m : List Pt), (∀ x ∈ l, ∀ y, sameP x y = true → x = y) → sameL l m = true → l = m := by
        intro l
        induction l with
        | nil => intro m _ hm; cases m with
          | nil => rfl
          | cons y t => simp [sameL] at hm
        | cons x r ihr => intro m hx hm; cases m with
          | nil => simp [sameL] at hm
          | cons y t =>
            rw [sameL_cons, Bool.and_eq_true] at hm
            rw [hx x (List.mem_cons_self ..) y hm.1, ihr t (fun z hz => hx z (List.mem_cons_of_mem _ hz)) hm.2]
      have h2 := hl p.items q.items (fun x hx y hy => ih x hx y hy) h.2
      rw [Pt.eta p, Pt.eta q, h.1.1, h.1.2.1, h.1.2.2.1, h.1.2.2.2.1, h.1.2.2.2.2, h2]
  · rintro rfl; exact sameP_refl p
theorem sameP_symm (p q : Pt) : sameP p q = sameP q p := by
  rw [Bool.eq_iff_iff, sameP_iff, sameP_iff]
  exact eq_comm
/-- The first k items. -/
theorem sameL_take {l m : List Pt} (h : l.length = m.length) : sameL l m = true ↔ ∀ j (h1 : j < l.length) (h2 : j < m.length), sameP l[j] m[j] = true := by
  induction l generalizing m with
  | nil => cases m with
    | nil => simp [sameL]
    | cons _ _ => simp at h
  | cons p r ih => cases m with
    | nil => simp at h
    | cons q t =>
      rw [sameL_cons, Bool.and_eq_true, ih (by simpa using h)]
      constructor
      · rintro ⟨h1, h2⟩ j hj1 hj2
        cases j with
        | zero => exact h1
        | succ j => exact h2 j (by simpa using hj1) (by simpa using hj2)
      · intro h1
        exact ⟨h1 0 (by simp) (by simp), fun j hj1 hj2 => h1 (j + 1) (by simpa using hj1) (by simpa using hj2)⟩
end Go.Proofs.YtcgphlilijeifaaDoor.V
end
section
/-
  Numbers as plain data: a sign and a magnitude's bytes; whether they may be.
-/
namespace Go.Proofs.YtcgphlilijeifaaDoor

/-- Check's answer. -/
def chk (b : Bool) (m : List UInt8) : Int :=
  if 255 < m.length then 21 else if (m = [] ∧ b = true) ∨ m.head? = some 0 then 20 else 0
theorem chk_long {b : Bool} {m : List UInt8} (h : 255 < m.length) : chk b m = 21 := by simp [chk, h]
theorem chk_nil_below {m : List UInt8} (h : m = []) : chk true m = 20 := by simp [chk, h]
theorem chk_nil {m : List UInt8} (h : m = []) : chk false m = 0 := by simp [chk, h]
theorem chk_zero {b : Bool} {m : List UInt8} (h : ¬ 255 < m.length) (h0 : m.head? = some 0) : chk b m = 20 := by simp [chk, h, h0]
theorem chk_ok {b : Bool} {m : List UInt8} (h : ¬ 255 < m.length) (hn : m ≠ []) (h0 : m.head? ≠ some 0) : chk b m = 0 := by simp [chk, h, h0, hn]
theorem chk_zero_iff {b : Bool} {m : List UInt8} : chk b m = 0 ↔ m.length ≤ 255 ∧ (m = [] → b = false) ∧ m.head? ≠ some 0 := by
  unfold chk
  by_cases h : 255 < m.length
  · simp only [h, if_true]
    exact ⟨fun e => absurd e (by decide), fun e => by omega⟩
  · by_cases h2 : (m = [] ∧ b = true) ∨ m.head? = some 0
    · simp only [h, h2, if_false, if_true]
      rcases h2 with ⟨h2, h3⟩ | h2
      · simp [h2, h3]
      · simp [h2]
    · simp only [h, h2, if_false]
      simp only [not_or, not_and] at h2
      simp only [true_iff]
      exact ⟨by omega, fun e => by simpa using h2.1 e, h2.2⟩
theorem chk_three (b : Bool) (m : List UInt8) : chk b m = 0 ∨ chk b m = 20 ∨ chk b m = 21 := by
  unfold chk; split
  · simp
  · split <;> simp
theorem chk_21 {b : Bool} {m : List UInt8} : chk b m = 21 ↔ 255 < m.length := by
  unfold chk; split
  · simp_all
  · split <;> simp_all

/-- A number's bytes. -/
def putHead (b : Bool) (k : Nat) : List UInt8 :=
  if b then (if k ≤ 126 then [UInt8.ofNat (128 - k)] else [1, UInt8.ofNat (255 - k)]) else (if k ≤ 126 then [UInt8.ofNat (128 + k)] else [255, UInt8.ofNat k])
def putBytes (b : Bool) (m : List UInt8) : List UInt8 := putHead b m.length ++ (if b then m.map (255 - ·) else m)
theorem ofNat_toNat (n : Nat) (h : n < 256) : ((UInt8.ofNat n).toNat : Int) = n := by simp; omega
theorem sub255 (c : UInt8) : ((255 - c : UInt8).toNat : Int) = 255 - (c.toNat : Int) := by
  have := c.toNat_lt
  rw [UInt8.toNat_sub]
  have h255 : (255 : UInt8).toNat = 255 := rfl
  rw [h255]
  omega

theorem take_snoc (s : ByteArray) (k : Nat) (h : k < s.size) : s.data.toList.take (k + 1) = s.data.toList.take k ++ [s[k]] := by
  rw [List.take_succ_eq_append_getElem (by simpa using h)]; rfl
theorem take_end (s : ByteArray) (k : Nat) (h : ¬ k < s.size) : s.data.toList.take k = s.data.toList :=
  List.take_of_length_le (by rw [Array.length_toList]; exact Nat.le_of_not_lt h)
theorem drop_cons (s : ByteArray) (k : Nat) (h : k < s.size) : s.data.toList.drop k = s[k] :: s.data.toList.drop (k + 1) := by
  rw [List.drop_eq_getElem_cons (by simpa using h)]; rfl
theorem drop_end (s : ByteArray) (k : Nat) (h : ¬ k < s.size) : s.data.toList.drop k = [] :=
  List.drop_of_length_le (by rw [Array.length_toList]; exact Nat.le_of_not_lt h)
theorem ba_eq {a b : ByteArray} (h : a.data.toList = b.data.toList) : a = b := by
  cases a with | mk x => cases b with | mk y => exact congrArg ByteArray.mk (Array.toList_inj.1 h)
end Go.Proofs.YtcgphlilijeifaaDoor
end
section
/-
  What Take reads, as plain data; it is the inverse of what Put writes.
-/
namespace Go.Proofs.YtcgphlilijeifaaDoor

/-- How many bytes the magnitude has, the sign, and the place behind; or the place of the error. -/
def sizeE (l : List UInt8) (a : Nat) : Except Nat (Nat × Bool × Nat) :=
  match l[a]? with
  | none => .error l.length
  | some b =>
    if b.toNat = 255 then
      match l[a + 1]? with
      | none => .error l.length
      | some n => if 126 < n.toNat then .ok (n.toNat, false, a + 2) else .error (a + 1)
    else if 128 ≤ b.toNat then .ok (b.toNat - 128, false, a + 1)
    else if 2 ≤ b.toNat then .ok (128 - b.toNat, true, a + 1)
    else if b.toNat = 1 then
      match l[a + 1]? with
      | none => .error l.length
      | some n => if 126 < 255 - n.toNat then .ok (255 - n.toNat, true, a + 2) else .error (a + 1)
    else .error a

/-- A byte of a number below 0 stands turned. -/
def fl (below : Bool) (c : UInt8) : UInt8 := if below then 255 - c else c
/-- The magnitude's k bytes from a place on; or the place of the error. -/
def magE (l : List UInt8) (below : Bool) (f k : Nat) : Except Nat (List UInt8) :=
  if k = 0 then .ok []
  else
    match l[f]? with
    | none => .error l.length
    | some b => if fl below b = 0 then .error f else if f + k ≤ l.length then .ok (((l.drop f).take k).map (fl below)) else .error l.length
/-- What Take reads. -/
def takeE (l : List UInt8) (a : Nat) : Except Nat (Bool × List UInt8 × Nat) :=
  match sizeE l a with
  | .error p => .error p
  | .ok (k, below, f) =>
    match magE l below f k with
    | .error p => .error p
    | .ok m => .ok (below, m, f + k)

theorem sub255n (c : UInt8) : (255 - c : UInt8).toNat = 255 - c.toNat := by
  have := sub255 c
  have := c.toNat_lt
  omega
theorem fl_fl (b : Bool) (c : UInt8) : fl b (fl b c) = c := by
  cases b
  · rfl
  · apply UInt8.toNat_inj.1
    simp only [fl, if_true]
    rw [sub255n, sub255n]
    have := c.toNat_lt
    omega
theorem map_fl_fl (b : Bool) (l : List UInt8) : (l.map (fl b)).map (fl b) = l := by
  induction l with
  | nil => rfl
  | cons c r ih => rw [List.map_cons, List.map_cons, fl_fl, ih]
theorem fl_eq (b : Bool) (l : List UInt8) : (if b then l.map (255 - ·) else l) = l.map (fl b) := by
  cases b
  · exact (List.map_id' l).symm
  · rfl
theorem sizeE_ok {l : List UInt8} {a k f : Nat} {below : Bool} (h : sizeE l a = .ok (k, below, f)) : k ≤ 255 ∧ a < f ∧ f ≤ l.length := by
  unfold sizeE at h
  split at h
  · exact nomatch h
  · rename_i b hb
    have h1 := (List.getElem?_eq_some_iff.1 hb).1
    have hb2 := b.toNat_lt
    split at h
    · split at h
      · exact nomatch h
      · rename_i n hn
        have h2 := (List.getElem?_eq_some_iff.1 hn).1
        have hn2 := n.toNat_lt
        split at h
        · (simp only [Except.ok.injEq, Prod.mk.injEq] at h; obtain ⟨h3, _, h4⟩ := h; omega)
        · exact nomatch h
    · split at h
      · (simp only [Except.ok.injEq, Prod.mk.injEq] at h; obtain ⟨h3, _, h4⟩ := h; omega)
      · split at h
        · (simp only [Except.ok.injEq, Prod.mk.injEq] at h; obtain ⟨h3, _, h4⟩ := h; omega)
        · split at h
          · split at h
            · exact nomatch h
            · rename_i n hn
              have h2 := (List.getElem?_eq_some_iff.1 hn).1
              split at h
              · (simp only [Except.ok.injEq, Prod.mk.injEq] at h; obtain ⟨h3, _, h4⟩ := h; omega)
              · exact nomatch h
          · exact nomatch h

/-- What is read so far. -/
def readL (l : List UInt8) (below : Bool) (f j : Nat) : List UInt8 := ((l.drop f).take j).map (fl below)
theorem readL_zero (l : List UInt8) (below : Bool) (f : Nat) : readL l below f 0 = [] := by simp [readL]
theorem readL_succ (l : List UInt8) (below : Bool) (f j : Nat) (c : UInt8) (h : l[f + j]? = some c) : readL l below f (j + 1) = readL l below f j ++ [fl below c] := by
  unfold readL
  rw [List.take_add_one, List.getElem?_drop, h]
  simp
theorem readL_length (l : List UInt8) (below : Bool) (f j : Nat) (h : f + j ≤ l.length) : (readL l below f j).length = j := by
  simp [readL]; omega
/-- Behind the first byte. -/
def OnE (l : List UInt8) (below : Bool) (f k : Nat) : Prop := magE l below f k = if f + k ≤ l.length then .ok (readL l below f k) else .error l.length
theorem onE_first {l : List UInt8} {below : Bool} {f k : Nat} {c : UInt8} (hk : 0 < k) (h : l[f]? = some c) (hc : fl below c ≠ 0) : OnE l below f k := by
  unfold OnE magE
  rw [if_neg (by omega), h]
  simp [hc, readL]
theorem magE_zero {l : List UInt8} {below : Bool} {f k : Nat} {c : UInt8} (hk : 0 < k) (h : l[f]? = some c) (hc : fl below c = 0) : magE l below f k = .error f := by
  unfold magE
  rw [if_neg (by omega), h]
  simp [hc]
theorem magE_end {l : List UInt8} {below : Bool} {f k j : Nat} (hj : j < k) (h : f + j = l.length) (hon : j = 0 ∨ OnE l below f k) : magE l below f k = .error l.length := by
  rcases hon with rfl | hon
  · unfold magE
    rw [if_neg (by omega), List.getElem?_eq_none (by omega)]
  · rw [hon, if_neg (by omega)]
theorem magE_all {l : List UInt8} {below : Bool} {f k : Nat} (h : f + k ≤ l.length) (hon : k = 0 ∨ OnE l below f k) : magE l below f k = .ok (readL l below f k) := by
  rcases hon with rfl | hon
  · rw [readL_zero]; rfl
  · rw [hon, if_pos h]
end Go.Proofs.YtcgphlilijeifaaDoor
end
section
/-
  The order of two lists of bytes, and how Go's comparison of strings tells it.
-/
namespace Go.Proofs.YtcgphlilijeifaaDoor

/-- -1, 0 or 1: a stands ahead of b, is b, stands behind it. -/
def cmp : List UInt8 → List UInt8 → Int
  | [], [] => 0
  | [], _ :: _ => -1
  | _ :: _, [] => 1
  | c :: r, d :: q => if c < d then -1 else if d < c then 1 else cmp r q

theorem cmp_swap (a b : List UInt8) : cmp b a = - cmp a b := by
  induction a generalizing b with
  | nil => cases b <;> simp [cmp]
  | cons c r ih =>
    cases b with
    | nil => simp [cmp]
    | cons d q =>
      simp only [cmp]
      have := ih q
      split <;> rename_i h1
      · rw [if_neg (by simp only [UInt8.not_lt]; exact UInt8.le_of_lt h1)]
      · split
        · rfl
        · exact this
theorem cmp_self (a : List UInt8) : cmp a a = 0 := by
  induction a with
  | nil => rfl
  | cons c r ih => simp [cmp, ih]
theorem cmp_zero {a b : List UInt8} (h : cmp a b = 0) : a = b := by
  induction a generalizing b with
  | nil => cases b <;> simp_all [cmp]
  | cons c r ih =>
    cases b with
    | nil => simp [cmp] at h
    | cons d q =>
      simp only [cmp] at h
      split at h
      · simp at h
      · split at h
        · simp at h
        · rename_i h1 h2
          rw [UInt8.le_antisymm (UInt8.not_lt.1 h2) (UInt8.not_lt.1 h1), ih h]
theorem cmp_three (a b : List UInt8) : cmp a b = -1 ∨ cmp a b = 0 ∨ cmp a b = 1 := by
  induction a generalizing b with
  | nil => cases b <;> simp [cmp]
  | cons c r ih =>
    cases b with
    | nil => simp [cmp]
    | cons d q =>
      simp only [cmp]
      split
      · simp
      · split
        · simp
        · exact ih q
theorem less_iff (a b : List UInt8) : Op.bytesLess a b = decide (cmp a b = -1) := by
  induction a generalizing b with
  | nil => cases b <;> simp [cmp, Op.bytesLess]
  | cons c r ih =>
    cases b with
    | nil => simp [cmp, Op.bytesLess]
    | cons d q =>
      simp only [cmp, Op.bytesLess, ih]
      by_cases h1 : c < d
      · simp [h1]
      · by_cases h2 : d < c
        · have : ¬ c = d := fun e => by subst e; exact absurd h2 (by simp)
          simp [h1, h2, this]
        · have : c = d := UInt8.le_antisymm (UInt8.not_lt.1 h2) (UInt8.not_lt.1 h1)
          simp [this]
theorem eq_iff (a b : List UInt8) : (a == b) = decide (cmp a b = 0) := by
  rw [Bool.eq_iff_iff, beq_iff_eq, decide_eq_true_iff]
  exact ⟨fun h => by rw [h, cmp_self], cmp_zero⟩
/-- What stands behind counts where neither begins the other. -/
theorem cmp_append (a b x y : List UInt8) (h : cmp a b ≠ 0) (h1 : ¬ a <+: b) (h2 : ¬ b <+: a) : cmp (a ++ x) (b ++ y) = cmp a b := by
  induction a generalizing b with
  | nil => exact absurd (List.nil_prefix) h1
  | cons c r ih =>
    cases b with
    | nil => exact absurd (List.nil_prefix) h2
    | cons d q =>
      simp only [List.cons_append, cmp] at h ⊢
      by_cases e1 : c < d
      · simp [e1]
      · by_cases e2 : d < c
        · simp [e1, e2]
        · have : c = d := UInt8.le_antisymm (UInt8.not_lt.1 e2) (UInt8.not_lt.1 e1)
          subst this
          simp only [e1, if_false] at h ⊢
          exact ih q h (fun hp => h1 (by simpa using hp)) (fun hp => h2 (by simpa using hp))
end Go.Proofs.YtcgphlilijeifaaDoor
end
section
/-
  The order of two numbers as plain data.
-/
namespace Go.Proofs.YtcgphlilijeifaaDoor

/-- The order of two magnitudes. -/
def mcmp (a b : List UInt8) : Int := if a.length < b.length then -1 else if b.length < a.length then 1 else cmp a b
/-- The order of two numbers. -/
def ncmp (x : Bool) (a : List UInt8) (y : Bool) (b : List UInt8) : Int :=
  if x then (if y then mcmp b a else -1) else (if y then 1 else mcmp a b)
theorem mcmp_swap (a b : List UInt8) : mcmp b a = - mcmp a b := by
  unfold mcmp
  by_cases h1 : a.length < b.length
  · rw [if_neg (by omega), if_pos h1, if_pos h1]; rfl
  · by_cases h2 : b.length < a.length
    · rw [if_pos h2, if_neg h1, if_pos h2]
    · rw [if_neg h2, if_neg h1, if_neg h1, if_neg h2, cmp_swap]
theorem mcmp_self (a : List UInt8) : mcmp a a = 0 := by simp [mcmp, cmp_self]
theorem mcmp_zero {a b : List UInt8} (h : mcmp a b = 0) : a = b := by
  unfold mcmp at h
  split at h
  · simp at h
  · split at h
    · simp at h
    · exact cmp_zero h
theorem mcmp_three (a b : List UInt8) : mcmp a b = -1 ∨ mcmp a b = 0 ∨ mcmp a b = 1 := by
  unfold mcmp
  split
  · simp
  · split
    · simp
    · exact cmp_three a b
theorem ncmp_swap (x y : Bool) (a b : List UInt8) : ncmp y b x a = - ncmp x a y b := by
  cases x <;> cases y <;> simp [ncmp] <;> exact mcmp_swap _ _
theorem ncmp_three (x y : Bool) (a b : List UInt8) : ncmp x a y b = -1 ∨ ncmp x a y b = 0 ∨ ncmp x a y b = 1 := by
  cases x <;> cases y <;> simp [ncmp] <;> exact mcmp_three _ _
theorem ncmp_zero {x y : Bool} {a b : List UInt8} (h : ncmp x a y b = 0) : x = y ∧ a = b := by
  cases x <;> cases y <;> simp [ncmp] at h
  · exact ⟨rfl, mcmp_zero h⟩
  · exact ⟨rfl, (mcmp_zero h).symm⟩
theorem ncmp_self (x : Bool) (a : List UInt8) : ncmp x a x a = 0 := by cases x <;> simp [ncmp, mcmp_self]
end Go.Proofs.YtcgphlilijeifaaDoor
end
section
/-
  What a magnitude's bytes are worth; the one magnitude of a number; its order.
-/
namespace Go.Proofs.YtcgphlilijeifaaDoor

/-- Without noughts ahead. -/
def strip (l : List UInt8) : List UInt8 := l.dropWhile (· == 0)
/-- What the bytes are worth, the highest one first. -/
def nv (l : List UInt8) : Nat := l.foldl (fun a c => 256 * a + c.toNat) 0
theorem nv_nil : nv [] = 0 := rfl
theorem nv_snoc (l : List UInt8) (c : UInt8) : nv (l ++ [c]) = 256 * nv l + c.toNat := by simp [nv]
theorem foldl_nv (l : List UInt8) (a : Nat) : l.foldl (fun a c => 256 * a + c.toNat) a = a * 256 ^ l.length + nv l := by
  induction l generalizing a with
  | nil => simp [nv]
  | cons c r ih =>
    simp only [List.foldl_cons, nv, List.length_cons]
    rw [ih, ih (256 * 0 + c.toNat), Nat.pow_succ, Nat.add_mul, Nat.add_mul]
    rw [show 256 * a * 256 ^ r.length = a * (256 ^ r.length * 256) by rw [Nat.mul_comm 256 a, Nat.mul_assoc, Nat.mul_comm 256]]
    omega
theorem nv_cons (c : UInt8) (l : List UInt8) : nv (c :: l) = c.toNat * 256 ^ l.length + nv l := by
  have := foldl_nv l c.toNat
  simp only [nv, List.foldl_cons] at *
  simpa using this
theorem nv_lt (l : List UInt8) : nv l < 256 ^ l.length := by
  induction l with
  | nil => simp [nv]
  | cons c r ih =>
    rw [nv_cons, List.length_cons, Nat.pow_succ]
    have := c.toNat_lt
    have h2 : c.toNat * 256 ^ r.length ≤ 255 * 256 ^ r.length := Nat.mul_le_mul_right _ (by omega)
    omega
theorem nv_strip (l : List UInt8) : nv (strip l) = nv l := by
  induction l with
  | nil => rfl
  | cons c r ih =>
    by_cases h : c = 0
    · subst h
      simp only [strip, List.dropWhile_cons, beq_self_eq_true, if_true]
      rw [nv_cons]
      simpa [strip] using ih
    · have : (c == 0) = false := by simpa using h
      simp [strip, this]
theorem strip_head (l : List UInt8) : (strip l).head? ≠ some 0 := by
  induction l with
  | nil => simp [strip]
  | cons c r ih =>
    by_cases h : c = 0
    · subst h; simpa [strip, List.dropWhile_cons] using ih
    · have : (c == 0) = false := by simpa using h
      simpa [strip, List.dropWhile_cons, this] using h
theorem strip_id {l : List UInt8} (h : l.head? ≠ some 0) : strip l = l := by
  cases l with
  | nil => rfl
  | cons c r =>
    have : (c == 0) = false := by simpa using h
    simp [strip, this]
theorem strip_length (l : List UInt8) : (strip l).length ≤ l.length := (List.dropWhile_suffix _).length_le
theorem pow_pos (n : Nat) : 0 < 256 ^ n := Nat.pow_pos (by decide)
theorem nv_ge {l : List UInt8} (h : l.head? ≠ some 0) (hn : l ≠ []) : 256 ^ (l.length - 1) ≤ nv l := by
  cases l with
  | nil => exact absurd rfl hn
  | cons c r =>
    rw [nv_cons, List.length_cons, Nat.add_sub_cancel]
    have : c.toNat ≠ 0 := fun e => h (by have : c = 0 := UInt8.toNat_inj.1 (by simpa using e); simp [this])
    have h2 : 1 * 256 ^ r.length ≤ c.toNat * 256 ^ r.length := Nat.mul_le_mul_right _ (by omega)
    omega
theorem nv_cmp (a b : List UInt8) (h : a.length = b.length) : cmp a b = if nv a < nv b then -1 else if nv b < nv a then 1 else 0 := by
  induction a generalizing b with
  | nil => cases b with
    | nil => simp [cmp]
    | cons _ _ => simp at h
  | cons c r ih =>
    cases b with
    | nil => simp at h
    | cons d q =>
      have hl : r.length = q.length := by simpa using h
      rw [nv_cons, nv_cons, cmp, hl]
      have h1 := nv_lt r
      have h2 := nv_lt q
      rw [hl] at h1
      by_cases e1 : c < d
      · rw [if_pos e1]
        rw [UInt8.lt_iff_toNat_lt] at e1
        have h3 : (c.toNat + 1) * 256 ^ q.length ≤ d.toNat * 256 ^ q.length := Nat.mul_le_mul_right _ e1
        rw [Nat.add_mul] at h3
        rw [if_pos (by omega)]
      · rw [if_neg e1]
        by_cases e2 : d < c
        · rw [if_pos e2]
          rw [UInt8.lt_iff_toNat_lt] at e2
          have h3 : (d.toNat + 1) * 256 ^ q.length ≤ c.toNat * 256 ^ q.length := Nat.mul_le_mul_right _ e2
          rw [Nat.add_mul] at h3
          rw [if_neg (by omega), if_pos (by omega)]
        · have : c = d := UInt8.le_antisymm (UInt8.not_lt.1 e2) (UInt8.not_lt.1 e1)
          subst this
          rw [if_neg e2, ih q hl]
          by_cases f1 : nv r < nv q
          · rw [if_pos f1, if_pos (by omega)]
          · rw [if_neg f1]
            by_cases f2 : nv q < nv r
            · rw [if_pos f2, if_neg (by omega), if_pos (by omega)]
            · rw [if_neg f2, if_neg (by omega), if_neg (by omega)]
theorem pow_mono {a b : Nat} (h : a ≤ b) : 256 ^ a ≤ 256 ^ b := Nat.pow_le_pow_right (by decide) h
theorem nv_len_lt {a b : List UInt8} (hb : b.head? ≠ some 0) (h : a.length < b.length) : nv a < nv b := by
  have h1 := nv_lt a
  have h2 := nv_ge hb (by intro e; subst e; simp at h)
  have h3 : 256 ^ a.length ≤ 256 ^ (b.length - 1) := pow_mono (by omega)
  omega
/-- The order of two magnitudes is that of what they are worth. -/
theorem mcmp_nv {a b : List UInt8} (ha : a.head? ≠ some 0) (hb : b.head? ≠ some 0) : mcmp a b = if nv a < nv b then -1 else if nv b < nv a then 1 else 0 := by
  unfold mcmp
  by_cases h1 : a.length < b.length
  · have := nv_len_lt hb h1
    rw [if_pos h1, if_pos this]
  · by_cases h2 : b.length < a.length
    · have := nv_len_lt ha h2
      rw [if_neg h1, if_pos h2, if_neg (by omega), if_pos this]
    · rw [if_neg h1, if_neg h2, nv_cmp a b (by omega)]
theorem nv_inj {a b : List UInt8} (ha : a.head? ≠ some 0) (hb : b.head? ≠ some 0) (h : nv a = nv b) : a = b := by
  refine mcmp_zero ?_
  rw [mcmp_nv ha hb, h]
  simp
theorem nv_zero {a : List UInt8} (ha : a.head? ≠ some 0) (h : nv a = 0) : a = [] := nv_inj ha (by simp) (by rw [h]; rfl)

/-- The magnitude of at most 64 bits, eight bytes long; after k rounds. -/
def beTo (n k : Nat) : List UInt8 := (List.range 8).map fun j => if 7 - j < k then UInt8.ofNat (n / 2 ^ (8 * (7 - j))) else 0
theorem beTo_length (n k : Nat) : (beTo n k).length = 8 := by simp [beTo]
theorem beTo_zero (n : Nat) : beTo n 0 = [0, 0, 0, 0, 0, 0, 0, 0] := by simp [beTo]; decide
theorem beTo_get (n k j : Nat) (hj : j < 8) : (beTo n k)[j]? = some (if 7 - j < k then UInt8.ofNat (n / 2 ^ (8 * (7 - j))) else 0) := by
  simp [beTo, hj]
theorem beTo_set (n k : Nat) (hk : k < 8) : (beTo n k).set (7 - k) (UInt8.ofNat (n / 2 ^ (8 * k))) = beTo n (k + 1) := by
  apply List.ext_getElem?
  intro j
  by_cases hj : j < 8
  · rw [List.getElem?_set, beTo_get n (k + 1) j hj]
    by_cases e : 7 - k = j
    · subst e
      rw [if_pos rfl, if_pos (by rw [beTo_length]; omega), if_pos (by omega), show 7 - (7 - k) = k by omega]
    · rw [if_neg e, beTo_get n k j hj]
      by_cases f : 7 - j < k
      · rw [if_pos f, if_pos (by omega)]
      · rw [if_neg f, if_neg (by omega)]
  · rw [List.getElem?_eq_none (by simp [beTo_length]; omega), List.getElem?_eq_none (by simp [beTo_length]; omega)]
theorem nv_beTo (n : Nat) (h : n < 18446744073709551616) : nv (beTo n 8) = n := by
  have e : beTo n 8 = [UInt8.ofNat (n / 2 ^ 56), UInt8.ofNat (n / 2 ^ 48), UInt8.ofNat (n / 2 ^ 40), UInt8.ofNat (n / 2 ^ 32), UInt8.ofNat (n / 2 ^ 24), UInt8.ofNat (n / 2 ^ 16), UInt8.ofNat (n / 2 ^ 8), UInt8.ofNat n] := by
    simp [beTo, List.range_succ]
  rw [e]
  simp only [nv, List.foldl_cons, List.foldl_nil, UInt8.toNat_ofNat']
  omega
/-- The magnitude of a number of at most 64 bits. -/
def mag8 (n : Nat) : List UInt8 := strip (beTo n 8)
theorem mag8_nv (n : Nat) (h : n < 18446744073709551616) : nv (mag8 n) = n := by rw [mag8, nv_strip, nv_beTo n h]
theorem mag8_head (n : Nat) : (mag8 n).head? ≠ some 0 := strip_head _
theorem mag8_length (n : Nat) : (mag8 n).length ≤ 8 := by
  have := strip_length (beTo n 8)
  rw [beTo_length] at this
  exact this
end Go.Proofs.YtcgphlilijeifaaDoor
end
section
/-
  Decimal digits: what they are worth, the digits of a number; the magnitude of any number; long multiplication and division by ten.
-/
namespace Go.Proofs.YtcgphlilijeifaaDoor

theorem pow256 (n : Nat) : 256 ^ (n + 1) = 256 ^ n * 256 := Nat.pow_succ 256 n
/-- n to the base 256, L bytes long. -/
def rep : Nat → Nat → List UInt8
  | 0, _ => []
  | L + 1, n => rep L (n / 256) ++ [UInt8.ofNat n]
theorem rep_nv (L n : Nat) : nv (rep L n) = n % 256 ^ L := by
  induction L generalizing n with
  | zero => simp [rep, nv, Nat.mod_one]
  | succ L ih =>
    rw [rep, nv_snoc, ih, UInt8.toNat_ofNat', pow256, Nat.mul_comm (256 ^ L) 256, Nat.mod_mul]
    omega
theorem lt_pow (n : Nat) : n < 256 ^ n := Nat.lt_pow_self (by decide)
/-- The magnitude of a number. -/
def magN (n : Nat) : List UInt8 := strip (rep n n)
theorem magN_nv (n : Nat) : nv (magN n) = n := by rw [magN, nv_strip, rep_nv, Nat.mod_eq_of_lt (lt_pow n)]
theorem magN_head (n : Nat) : (magN n).head? ≠ some 0 := strip_head _
theorem magN_of (m : List UInt8) (h : m.head? ≠ some 0) : magN (nv m) = m := nv_inj (magN_head _) h (magN_nv _)
theorem magN_len (n k : Nat) : (magN n).length ≤ k ↔ n < 256 ^ k := by
  constructor
  · intro h
    have h1 := nv_lt (magN n)
    rw [magN_nv] at h1
    exact Nat.lt_of_lt_of_le h1 (pow_mono h)
  · intro h
    rcases Nat.lt_or_ge k (magN n).length with h2 | h2
    · have h1 := nv_ge (magN_head n) (by intro e; rw [e] at h2; simp at h2)
      rw [magN_nv] at h1
      have := pow_mono (show k ≤ (magN n).length - 1 by omega)
      omega
    · exact h2

/-- What decimal digits are worth. -/
def dv (l : List UInt8) : Nat := l.foldl (fun a c => 10 * a + (c.toNat - 48)) 0
theorem dv_snoc (l : List UInt8) (c : UInt8) : dv (l ++ [c]) = 10 * dv l + (c.toNat - 48) := by simp [dv]
def isDigit (c : UInt8) : Bool := decide (48 ≤ c.toNat) && decide (c.toNat ≤ 57)
theorem dv_lt (l : List UInt8) (h : l.all isDigit = true) : dv l < 10 ^ l.length := by
  induction hn : l.length generalizing l with
  | zero => have := List.eq_nil_of_length_eq_zero hn; subst this; simp [dv]
  | succ n ih =>
    have hne : l ≠ [] := by intro e; subst e; simp at hn
    have e := List.dropLast_concat_getLast hne
    rw [← e] at h ⊢
    rw [dv_snoc, Nat.pow_succ]
    simp only [List.all_append, List.all_cons, List.all_nil, Bool.and_true, Bool.and_eq_true] at h
    have h1 := ih l.dropLast h.1 (by rw [List.length_dropLast, hn]; rfl)
    have h2 := h.2
    simp only [isDigit, Bool.and_eq_true, decide_eq_true_eq] at h2
    omega

/-- The decimal digits of a number, none of nought. -/
def decF : Nat → Nat → List UInt8
  | 0, _ => []
  | f + 1, n => if n = 0 then [] else decF f (n / 10) ++ [UInt8.ofNat (48 + n % 10)]
theorem decF_more (f n : Nat) (h : n ≤ f) : decF (f + 1) n = decF f n := by
  induction f generalizing n with
  | zero => have : n = 0 := by omega
            subst this; simp [decF]
  | succ f ih =>
    show (if n = 0 then [] else decF (f + 1) (n / 10) ++ [UInt8.ofNat (48 + n % 10)]) = (if n = 0 then [] else decF f (n / 10) ++ [UInt8.ofNat (48 + n % 10)])
    by_cases h0 : n = 0
    · simp [h0]
    · rw [if_neg h0, if_neg h0, ih (n / 10) (by omega)]
theorem decF_any (f g n : Nat) (h : n ≤ f) (hg : f ≤ g) : decF g n = decF f n := by
  induction g with
  | zero => have : f = 0 := by omega
            subst this; rfl
  | succ g ih =>
    by_cases e : f = g + 1
    · subst e; rfl
    · rw [decF_more g n (by omega), ih (by omega)]
def dec (n : Nat) : List UInt8 := decF n n
theorem dec_zero : dec 0 = [] := rfl
theorem dec_pos (n : Nat) (h : n ≠ 0) : dec n = dec (n / 10) ++ [UInt8.ofNat (48 + n % 10)] := by
  unfold dec
  obtain ⟨f, rfl⟩ : ∃ f, n = f + 1 := ⟨n - 1, by omega⟩
  rw [decF, if_neg h, decF_any ((f + 1) / 10) f _ (Nat.le_refl _) (by omega)]
theorem ofNat48 (d : Nat) (h : d < 10) : (UInt8.ofNat (48 + d)).toNat = 48 + d := by rw [UInt8.toNat_ofNat']; omega
theorem dv_dec (n : Nat) : dv (dec n) = n := by
  induction n using Nat.strongRecOn with
  | _ n ih =>
    by_cases h : n = 0
    · subst h; rfl
    · rw [dec_pos n h, dv_snoc, ih (n / 10) (by omega), ofNat48 _ (by omega)]
      omega
theorem dec_digits (n : Nat) : (dec n).all isDigit = true := by
  induction n using Nat.strongRecOn with
  | _ n ih =>
    by_cases h : n = 0
    · subst h; rfl
    · rw [dec_pos n h, List.all_append, ih (n / 10) (by omega)]
      simp only [List.all_cons, List.all_nil, isDigit, ofNat48 _ (show n % 10 < 10 by omega)]
      simp; omega
theorem dec_head (n : Nat) (h : n ≠ 0) : ∃ c r, dec n = c :: r ∧ c ≠ 48 := by
  induction n using Nat.strongRecOn with
  | _ n ih =>
    rw [dec_pos n h]
    by_cases h2 : n / 10 = 0
    · rw [h2, dec_zero]
      refine ⟨_, [], rfl, ?_⟩
      intro e
      have := congrArg UInt8.toNat e
      rw [ofNat48 _ (by omega)] at this
      have h48 : (48 : UInt8).toNat = 48 := rfl
      rw [h48] at this
      omega
    · obtain ⟨c, r, e, hc⟩ := ih (n / 10) (by omega) h2
      rw [e]
      exact ⟨c, r ++ _, rfl, hc⟩
/-- Digits of which the first is no nought are those of what they are worth. -/
theorem dec_dv (l : List UInt8) (hd : l.all isDigit = true) (h : l.head? ≠ some 48) : dec (dv l) = l := by
  induction hn : l.length generalizing l with
  | zero => have := List.eq_nil_of_length_eq_zero hn; subst this; rfl
  | succ n ih =>
    have hne : l ≠ [] := by intro e; subst e; simp at hn
    have e := List.dropLast_concat_getLast hne
    have hl : l.dropLast.length = n := by rw [List.length_dropLast, hn]; rfl
    generalize l.dropLast = q at e hl
    generalize l.getLast hne = c at e
    subst e
    simp only [List.all_append, List.all_cons, List.all_nil, Bool.and_true, Bool.and_eq_true] at hd
    have hc := hd.2
    simp only [isDigit, Bool.and_eq_true, decide_eq_true_eq] at hc
    have hq : q.head? ≠ some 48 := by
      cases q with
      | nil => simp
      | cons x r => simpa using h
    have iq := ih q hd.1 hq hl
    have hv : dv (q ++ [c]) ≠ 0 := by
      rw [dv_snoc]
      cases q with
      | nil =>
        intro e0
        have : c.toNat = 48 := by simp [dv] at e0; omega
        exact h (by simp; exact UInt8.toNat_inj.1 (by simpa using this))
      | cons x r =>
        intro e0
        have : dv (x :: r) = 0 := by omega
        rw [this, dec_zero] at iq
        cases iq
    rw [dec_pos _ hv, dv_snoc, show (10 * dv q + (c.toNat - 48)) / 10 = dv q by omega, iq, show 48 + (10 * dv q + (c.toNat - 48)) % 10 = c.toNat by omega]
    simp

theorem dec_len (n k : Nat) (h : n < 10 ^ k) : (dec n).length ≤ k := by
  induction k generalizing n with
  | zero => have : n = 0 := by omega
            subst this; simp [dec_zero]
  | succ k ih =>
    by_cases h0 : n = 0
    · subst h0; simp [dec_zero]
    · rw [dec_pos n h0, List.length_append]
      have := ih (n / 10) (by rw [Nat.pow_succ] at h; omega)
      simp; omega
theorem dec_nv_len (m : List UInt8) : (dec (nv m)).length ≤ 3 * m.length := by
  refine dec_len _ _ ?_
  have h := nv_lt m
  have h2 : 256 ^ m.length ≤ 1000 ^ m.length := Nat.pow_le_pow_left (by decide) _
  have h3 : 10 ^ (3 * m.length) = 1000 ^ m.length := by rw [Nat.pow_mul]
  omega

/-- Ten times a row of bytes, and a carry: the row, and what is carried out. -/
def mulAdd : List UInt8 → Nat → List UInt8 × Nat
  | [], d => ([], d)
  | x :: r, d => (UInt8.ofNat ((mulAdd r d).2 + 10 * x.toNat) :: (mulAdd r d).1, ((mulAdd r d).2 + 10 * x.toNat) / 256)
theorem mulAdd_length (l : List UInt8) (d : Nat) : (mulAdd l d).1.length = l.length := by
  induction l with
  | nil => rfl
  | cons x r ih => simp [mulAdd, ih]
theorem mulAdd_carry (l : List UInt8) (d : Nat) (h : d ≤ 9) : (mulAdd l d).2 ≤ 9 := by
  induction l with
  | nil => exact h
  | cons x r ih =>
    have := x.toNat_lt
    simp only [mulAdd]; omega
theorem mulAdd_nv (l : List UInt8) (d : Nat) : nv (mulAdd l d).1 + (mulAdd l d).2 * 256 ^ l.length = 10 * nv l + d := by
  induction l with
  | nil => simp [mulAdd, nv]
  | cons x r ih =>
    simp only [mulAdd, List.length_cons]
    rw [nv_cons, nv_cons, mulAdd_length, UInt8.toNat_ofNat', pow256]
    generalize (mulAdd r d).2 = c at *
    generalize nv (mulAdd r d).1 = a at *
    generalize 256 ^ r.length = p at *
    have h : (c + 10 * x.toNat) % 2 ^ 8 * p + (c + 10 * x.toNat) / 256 * (p * 256) = (c + 10 * x.toNat) * p := by
      rw [Nat.mul_comm p 256, ← Nat.mul_assoc, ← Nat.add_mul]
      congr 1
      omega
    have h2 : (c + 10 * x.toNat) * p = c * p + 10 * (x.toNat * p) := by rw [Nat.add_mul, Nat.mul_assoc]
    omega
theorem mulAdd_fits (l : List UInt8) (d : Nat) (h : 10 * nv l + d < 256 ^ l.length) : nv (mulAdd l d).1 = 10 * nv l + d := by
  have h1 := mulAdd_nv l d
  have h2 : (mulAdd l d).2 = 0 := by
    rcases Nat.eq_zero_or_pos (mulAdd l d).2 with e | e
    · exact e
    · have : 1 * 256 ^ l.length ≤ (mulAdd l d).2 * 256 ^ l.length := Nat.mul_le_mul_right _ e
      omega
  rw [h2] at h1
  omega

/-- A row of bytes by ten, a rest ahead: the row, and the rest. -/
def divMod : List UInt8 → Nat → List UInt8 × Nat
  | [], r => ([], r)
  | x :: t, r => (UInt8.ofNat ((r * 256 + x.toNat) / 10) :: (divMod t ((r * 256 + x.toNat) % 10)).1, (divMod t ((r * 256 + x.toNat) % 10)).2)
theorem divMod_length (l : List UInt8) (r : Nat) : (divMod l r).1.length = l.length := by
  induction l generalizing r with
  | nil => rfl
  | cons x t ih => simp [divMod, ih]
theorem divMod_rest (l : List UInt8) (r : Nat) (h : r ≤ 9) : (divMod l r).2 ≤ 9 := by
  induction l generalizing r with
  | nil => exact h
  | cons x t ih => exact ih _ (by omega)
theorem divMod_snoc (l : List UInt8) (x : UInt8) (r : Nat) :
    divMod (l ++ [x]) r = ((divMod l r).1 ++ [UInt8.ofNat (((divMod l r).2 * 256 + x.toNat) / 10)], ((divMod l r).2 * 256 + x.toNat) % 10) := by
  induction l generalizing r with
  | nil => simp [divMod]
  | cons y t ih => simp [divMod, ih]
theorem divMod_nv (l : List UInt8) (r : Nat) (h : r ≤ 9) : 10 * nv (divMod l r).1 + (divMod l r).2 = r * 256 ^ l.length + nv l := by
  induction l generalizing r with
  | nil => simp [divMod, nv]
  | cons x t ih =>
    have hx := x.toNat_lt
    have h1 := ih ((r * 256 + x.toNat) % 10) (by omega)
    simp only [divMod, List.length_cons]
    rw [nv_cons, nv_cons, divMod_length, UInt8.toNat_ofNat', pow256]
    have h2 : (r * 256 + x.toNat) / 10 < 256 := by omega
    rw [Nat.mod_eq_of_lt (by simpa using h2)]
    generalize (divMod t ((r * 256 + x.toNat) % 10)).2 = c at *
    generalize nv (divMod t ((r * 256 + x.toNat) % 10)).1 = a at *
    generalize 256 ^ t.length = p at *
    have e : (r * 256 + x.toNat) * p = 10 * ((r * 256 + x.toNat) / 10 * p) + (r * 256 + x.toNat) % 10 * p := by
      rw [← Nat.mul_assoc, ← Nat.add_mul]
      congr 1
      omega
    have e2 : (r * 256 + x.toNat) * p = r * (p * 256) + x.toNat * p := by rw [Nat.add_mul, Nat.mul_assoc, Nat.mul_comm p 256]
    omega
theorem divMod_ten (l : List UInt8) : nv (divMod l 0).1 = nv l / 10 ∧ (divMod l 0).2 = nv l % 10 := by
  have h := divMod_nv l 0 (by decide)
  have h2 := divMod_rest l 0 (by decide)
  omega
/-- After k bytes were divided. -/
def divTo (l : List UInt8) (k : Nat) : List UInt8 := (divMod (l.take k) 0).1 ++ l.drop k
theorem divTo_length (l : List UInt8) (k : Nat) (h : k ≤ l.length) : (divTo l k).length = l.length := by simp [divTo, divMod_length]; omega
theorem divTo_zero (l : List UInt8) : divTo l 0 = l := by simp [divTo, divMod]
theorem divTo_end (l : List UInt8) (k : Nat) (h : l.length ≤ k) : divTo l k = (divMod l 0).1 := by simp [divTo, List.take_of_length_le h, List.drop_of_length_le h]
theorem divTo_get (l : List UInt8) (k : Nat) (h : k < l.length) (h2 : k < (divTo l k).length) : (divTo l k)[k] = l[k] := by
  simp only [divTo]
  rw [List.getElem_append_right (by rw [divMod_length, List.length_take]; omega)]
  simp [divMod_length, Nat.min_eq_left (Nat.le_of_lt h)]
theorem divTo_step (l : List UInt8) (k : Nat) (h : k < l.length) :
    (divTo l k).set k (UInt8.ofNat (((divMod (l.take k) 0).2 * 256 + l[k].toNat) / 10)) = divTo l (k + 1) ∧ (divMod (l.take (k + 1)) 0).2 = ((divMod (l.take k) 0).2 * 256 + l[k].toNat) % 10 := by
  have hs : l.take (k + 1) = l.take k ++ [l[k]] := List.take_succ_eq_append_getElem h
  refine ⟨?_, by rw [hs, divMod_snoc]⟩
  unfold divTo
  rw [hs, divMod_snoc, List.set_append, if_neg (by rw [divMod_length, List.length_take]; omega), divMod_length, List.length_take, Nat.min_eq_left (Nat.le_of_lt h), Nat.sub_self, List.drop_eq_getElem_cons h, List.set_cons_zero, List.append_assoc]
  rfl
end Go.Proofs.YtcgphlilijeifaaDoor
end
section
/-
  What decimal digits are read as, in plain words.
-/
namespace Go.Proofs.YtcgphlilijeifaaDoor

/-- Does a text begin with a '-'? The digits behind it. -/
def neg (s : List UInt8) : Bool := s.head? == some 45
def ds (s : List UInt8) : List UInt8 := if neg s then s.tail else s
/-- Are these digits as a number has them? -/
def good (s : List UInt8) : Bool := !(ds s).isEmpty && (ds s).all isDigit && !((ds s).head? == some 48 && !(s == [48]))
/-- The error's number. -/
def parseE (s : List UInt8) : Int := if good s then (if 255 < (magN (dv (ds s))).length then 21 else 0) else 20
theorem ds_length (s : List UInt8) : (ds s).length ≤ s.length := by unfold ds; split <;> simp
theorem neg_ne (s : List UInt8) : (ds s == s) = !neg s := by
  unfold ds
  by_cases h : neg s = true
  · rw [if_pos h, h]
    cases s with
    | nil => simp [neg] at h
    | cons c r =>
      simp only [List.tail_cons, Bool.not_true, beq_eq_false_iff_ne]
      intro e
      have := congrArg List.length e
      simp at this
  · rw [if_neg h]
    simp at h
    simp [h]
theorem good_head {s : List UInt8} (h : good s = true) (h1 : s ≠ [48]) : (ds s).head? ≠ some 48 := by
  simp only [good, Bool.and_eq_true, Bool.not_eq_true'] at h
  intro e
  have := h.2
  rw [e] at this
  simp at this
  exact h1 this
theorem good_digits {s : List UInt8} (h : good s = true) : (ds s).all isDigit = true := by
  simp only [good, Bool.and_eq_true] at h
  exact h.1.2
theorem good_ne {s : List UInt8} (h : good s = true) : ds s ≠ [] := by
  simp only [good, Bool.and_eq_true, Bool.not_eq_true'] at h
  intro e
  have := h.1.1
  rw [e] at this
  simp at this
theorem dv_ge {l : List UInt8} (hd : l.all isDigit = true) (h : l.head? ≠ some 48) (k : Nat) (hk : k < l.length) : 10 ^ k ≤ dv l := by
  rcases Nat.lt_or_ge (dv l) (10 ^ k) with h2 | h2
  · have := dec_len _ _ h2
    rw [dec_dv l hd h] at this
    omega
  · exact h2
theorem long_of {s : List UInt8} (h : good s = true) (k : Nat) (hk : k < (ds s).length) (hp : 256 ^ 255 ≤ 10 ^ k) (h1 : s ≠ [48]) : 255 < (magN (dv (ds s))).length := by
  rcases Nat.lt_or_ge 255 (magN (dv (ds s))).length with h2 | h2
  · exact h2
  · have h3 := (magN_len _ 255).1 h2
    have h4 := dv_ge (good_digits h) (good_head h h1) k hk
    omega

/-- The rows of bytes while digits are read. -/
def accL (L : Nat) (l : List UInt8) : List UInt8 := l.foldl (fun b c => (mulAdd b (c.toNat - 48)).1) (List.replicate L 0)
theorem accL_snoc (L : Nat) (l : List UInt8) (c : UInt8) : accL L (l ++ [c]) = (mulAdd (accL L l) (c.toNat - 48)).1 := by simp [accL]
theorem accL_nil (L : Nat) : accL L [] = List.replicate L 0 := rfl
theorem accL_length (L : Nat) (l : List UInt8) : (accL L l).length = L := by
  induction hn : l.length generalizing l with
  | zero => have := List.eq_nil_of_length_eq_zero hn; subst this; simp [accL]
  | succ n ih =>
    have hne : l ≠ [] := by intro e; subst e; simp at hn
    have e := List.dropLast_concat_getLast hne
    rw [← e, accL_snoc, mulAdd_length]
    exact ih _ (by rw [List.length_dropLast, hn]; rfl)
theorem nv_replicate (L : Nat) : nv (List.replicate L 0) = 0 := by
  induction L with
  | zero => rfl
  | succ L ih => rw [List.replicate_succ, nv_cons, ih]; simp
theorem accL_nv (L : Nat) (l : List UInt8) (hd : l.all isDigit = true) (hl : l.length ≤ L) : nv (accL L l) = dv l := by
  induction hn : l.length generalizing l with
  | zero =>
    have := List.eq_nil_of_length_eq_zero hn
    subst this
    rw [accL_nil, nv_replicate]; rfl
  | succ n ih =>
    have hne : l ≠ [] := by intro e; subst e; simp at hn
    have e := List.dropLast_concat_getLast hne
    have hl2 : l.dropLast.length = n := by rw [List.length_dropLast, hn]; rfl
    generalize l.dropLast = q at e hl2
    generalize l.getLast hne = c at e
    subst e
    have hall := hd
    simp only [List.all_append, List.all_cons, List.all_nil, Bool.and_true, Bool.and_eq_true] at hd
    have iq := ih q hd.1 (by omega) hl2
    have hlt := dv_lt (q ++ [c]) hall
    rw [dv_snoc] at hlt
    rw [accL_snoc, mulAdd_fits, iq, dv_snoc]
    rw [iq, accL_length]
    have h1 : 10 ^ (q ++ [c]).length ≤ 256 ^ (q ++ [c]).length := Nat.pow_le_pow_left (by decide) _
    have h2 := pow_mono hl
    omega
/-- What is read. -/
theorem strip_acc {s : List UInt8} (h : good s = true) (L : Nat) (hL : (ds s).length ≤ L) : strip (accL L (ds s)) = magN (dv (ds s)) :=
  nv_inj (strip_head _) (magN_head _) (by rw [nv_strip, accL_nv L _ (good_digits h) hL, magN_nv])

/-- A row by ten from the right on, down to place r. -/
def mulTo (b : List UInt8) (d r : Nat) : List UInt8 := b.take r ++ (mulAdd (b.drop r) d).1
theorem mulTo_length (b : List UInt8) (d r : Nat) : (mulTo b d r).length = b.length := by
  simp only [mulTo, List.length_append, mulAdd_length, List.length_take, List.length_drop]; omega
theorem mulTo_all (b : List UInt8) (d r : Nat) (h : b.length ≤ r) : mulTo b d r = b := by simp [mulTo, List.take_of_length_le h, List.drop_of_length_le h, mulAdd]
theorem mulTo_zero (b : List UInt8) (d : Nat) : mulTo b d 0 = (mulAdd b d).1 := by simp [mulTo]
theorem mulTo_get (b : List UInt8) (d q : Nat) (h : q < b.length) (h2 : q < (mulTo b d (q + 1)).length) : (mulTo b d (q + 1))[q] = b[q] := by
  simp only [mulTo]
  rw [List.getElem_append_left (by rw [List.length_take]; omega)]
  simp
theorem mulTo_step (b : List UInt8) (d q : Nat) (h : q < b.length) :
    (mulTo b d (q + 1)).set q (UInt8.ofNat ((mulAdd (b.drop (q + 1)) d).2 + 10 * b[q].toNat)) = mulTo b d q ∧ (mulAdd (b.drop q) d).2 = ((mulAdd (b.drop (q + 1)) d).2 + 10 * b[q].toNat) / 256 := by
  have hd : b.drop q = b[q] :: b.drop (q + 1) := List.drop_eq_getElem_cons h
  refine ⟨?_, by rw [hd]; rfl⟩
  unfold mulTo
  rw [hd, List.take_succ_eq_append_getElem h, List.append_assoc, List.set_append, if_neg (by rw [List.length_take]; omega), List.length_take, Nat.min_eq_left (Nat.le_of_lt h), Nat.sub_self]
  rfl

/-- Digits alone are trimmed to nothing, and nothing else is. -/
def nine : List UInt8 := [48, 49, 50, 51, 52, 53, 54, 55, 56, 57]
theorem nine_iff (c : UInt8) : nine.contains c = isDigit c := by
  rw [Bool.eq_iff_iff]
  simp only [nine, isDigit, List.contains_iff_mem, List.mem_cons, List.not_mem_nil, or_false, Bool.and_eq_true, decide_eq_true_eq, ← UInt8.toNat_inj]
  simp; omega
theorem dropWhile_nil {p : UInt8 → Bool} (l : List UInt8) : l.dropWhile p = [] ↔ l.all p = true := by
  induction l with
  | nil => simp
  | cons c r ih =>
    by_cases h : p c = true
    · simp [h, ih]
    · simp [h]
theorem dropWhile_all {p : UInt8 → Bool} (l : List UInt8) : (l.dropWhile p).all p = l.all p := by
  induction l with
  | nil => rfl
  | cons c r ih =>
    by_cases h : p c = true
    · simp [h, ih]
    · simp [h]
theorem trim_digits (l : List UInt8) : Lib.trimS l nine = [] ↔ l.all isDigit = true := by
  have e : (fun c => nine.contains c) = isDigit := by funext c; exact nine_iff c
  unfold Lib.trimS Lib.trimLeftS Lib.trimRightS
  rw [dropWhile_nil, List.all_reverse, dropWhile_all, List.all_reverse, e]
theorem trim_empty (l : List UInt8) (h : l.all isDigit = true) : (Lib.trimS l nine).isEmpty = true := by rw [(trim_digits l).2 h]; rfl
theorem trim_full (l : List UInt8) (h : ¬ l.all isDigit = true) : (Lib.trimS l nine).isEmpty = false := by
  cases e : Lib.trimS l nine with
  | nil => exact absurd ((trim_digits l).1 e) h
  | cons _ _ => rfl
theorem parseE_bad {s : List UInt8} (h : good s = false) : parseE s = 20 := by simp [parseE, h]
theorem parseE_long {s : List UInt8} (h : good s = true) (h2 : 255 < (magN (dv (ds s))).length) : parseE s = 21 := by simp [parseE, h, h2]
theorem parseE_ok {s : List UInt8} (h : good s = true) (h2 : ¬ 255 < (magN (dv (ds s))).length) : parseE s = 0 := by simp [parseE, h, h2]
end Go.Proofs.YtcgphlilijeifaaDoor
end
