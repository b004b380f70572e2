import Derived.WalkKit
import Derived.Lib.Strings
/-
  Parts as plain data: how deep, whether they may be, when they are the same.
-/
namespace Go.Proofs.YtcgphlilijeifaaDoor.V

/-- A part: its kind, yes, its number's sign and magnitude, its bytes, its items. -/
inductive Pt where
  | mk (kind : Nat) (yes below : Bool) (mag raw : ByteArray) (items : List Pt)
namespace Pt
def kind : Pt → Nat | mk k _ _ _ _ _ => k
def yes : Pt → Bool | mk _ y _ _ _ _ => y
def neg : Pt → Bool | mk _ _ b _ _ _ => b
def mag : Pt → ByteArray | mk _ _ _ m _ _ => m
def raw : Pt → ByteArray | mk _ _ _ _ r _ => r
def items : Pt → List Pt | mk _ _ _ _ _ l => l
end Pt
theorem Pt.eta (p : Pt) : p = .mk p.kind p.yes p.neg p.mag p.raw p.items := by cases p; rfl

/-- Induction over a part's items. -/
theorem Pt.ind {C : Pt → Prop} (h : ∀ p : Pt, (∀ q ∈ p.items, C q) → C p) (p : Pt) : C p :=
  Pt.rec (motive_1 := C) (motive_2 := fun l => ∀ q ∈ l, C q) (fun k y b m r l ih => h (.mk k y b m r l) ih) (fun q hq => by cases hq)
    (fun hd tl h1 h2 q hq => by
      rcases List.mem_cons.1 hq with e | e
      · exact e ▸ h1
      · exact h2 q e) p

/-- Is a part deeper than so many tuples? -/
def deepB : Nat → Pt → Bool
  | 0, p => p.kind == 7
  | n + 1, p => p.kind == 7 && p.items.any (deepB n)

mutual
def depthP : Pt → Nat
  | .mk k _ _ _ _ l => if k = 7 then depthL l + 1 else 0
def depthL : List Pt → Nat
  | [] => 0
  | p :: r => max (depthP p) (depthL r)
end
theorem depthP_eq (p : Pt) : depthP p = if p.kind = 7 then depthL p.items + 1 else 0 := by cases p; rw [depthP]; rfl
theorem depthL_nil : depthL [] = 0 := by simp only [depthL]
theorem depthL_cons (p : Pt) (r : List Pt) : depthL (p :: r) = max (depthP p) (depthL r) := by simp only [depthL]
theorem depthL_snoc (l : List Pt) (p : Pt) : depthL (l ++ [p]) = max (depthL l) (depthP p) := by
  induction l with
  | nil => simp [depthL_nil, depthL_cons]
  | cons q r ih => rw [List.cons_append, depthL_cons, depthL_cons, ih]; omega
theorem depthL_le (l : List Pt) (n : Nat) : depthL l ≤ n ↔ ∀ p ∈ l, depthP p ≤ n := by
  induction l with
  | nil => simp [depthL_nil]
  | cons q r ih => rw [depthL_cons]; simp only [List.mem_cons, forall_eq_or_imp, ← ih]; omega
theorem deepB_iff (n : Nat) (p : Pt) : deepB n p = true ↔ n < depthP p := by
  induction n generalizing p with
  | zero =>
    rw [depthP_eq]
    by_cases h : p.kind = 7 <;> simp [deepB, h]
  | succ n ih =>
    rw [depthP_eq]
    by_cases h : p.kind = 7
    · simp only [deepB, h, beq_self_eq_true, Bool.true_and, List.any_eq_true, ih, if_true]
      have := depthL_le p.items n
      constructor
      · rintro ⟨q, hq, hd⟩
        by_cases h2 : depthL p.items ≤ n
        · have := this.1 h2 q hq; omega
        · omega
      · intro h2
        have h3 : ¬ ∀ q ∈ p.items, depthP q ≤ n := fun h4 => by have := this.2 h4; omega
        simp only [Classical.not_forall, Nat.not_le] at h3
        obtain ⟨q, hq, hd⟩ := h3
        exact ⟨q, hq, hd⟩
    · simp [deepB, h]

/-- Check's answer. -/
def chk (b : Bool) (m : List UInt8) : Int :=
  if 255 < m.length then 21 else if (m = [] ∧ b = true) ∨ m.head? = some 0 then 20 else 0

/-- May a part be? Of itself alone. -/
def okOne (p : Pt) : Bool :=
  decide (p.kind ≤ 7) && (p.kind == 1 || !p.yes) && (p.kind == 2 || (!p.neg && p.mag.toList.isEmpty)) && (p.kind == 7 || p.items.isEmpty) &&
    (if p.kind = 2 then p.raw.toList.isEmpty && chk p.neg p.mag.toList == 0 else if p.kind = 4 then p.raw.size == 16 else if p.kind = 3 ∨ p.kind = 5 ∨ p.kind = 6 then decide (p.raw.size ≤ 65536)
      else if p.kind = 7 then p.raw.toList.isEmpty && decide (p.items.length ≤ 1024) else p.raw.toList.isEmpty)
mutual
def mayB : Pt → Bool
  | .mk k y b m r l => okOne (.mk k y b m r l) && (!(k == 7) || mayL l)
def mayL : List Pt → Bool
  | [] => true
  | p :: r => mayB p && mayL r
end
theorem mayL_all (l : List Pt) : mayL l = l.all mayB := by
  induction l with
  | nil => simp only [mayL, List.all_nil]
  | cons p r ih => simp only [mayL, List.all_cons, ih]
theorem mayB_eq (p : Pt) : mayB p = (okOne p && (!(p.kind == 7) || p.items.all mayB)) := by
  cases p with | mk k y b m r l => simp only [mayB, mayL_all, Pt.kind, Pt.items]
theorem mayB_item {p q : Pt} (h : mayB p = true) (hq : q ∈ p.items) : mayB q = true := by
  rw [mayB_eq] at h
  simp only [Bool.and_eq_true, Bool.or_eq_true, Bool.not_eq_true', beq_eq_false_iff_ne, List.all_eq_true] at h
  rcases h.2 with h2 | h2
  · have h1 := h.1
    have h7 : (p.kind == 7 || p.items.isEmpty) = true := by
      simp only [okOne, Bool.and_eq_true] at h1
      exact h1.1.2
    rw [show (p.kind == 7) = false by simpa using h2, Bool.false_or, List.isEmpty_iff] at h7
    rw [h7] at hq; cases hq
  · exact h2 q hq
theorem mayB_ok {p : Pt} (h : mayB p = true) : okOne p = true := by
  rw [mayB_eq] at h
  simp only [Bool.and_eq_true] at h
  exact h.1

/-- Make's answer. -/
def makeE (p : Pt) : Int := if deepB 16 p then 91 else if mayB p then 0 else 90

def oneB (p q : Pt) : Bool := p.kind == q.kind && p.yes == q.yes && p.neg == q.neg && p.mag.toList == q.mag.toList && p.raw.toList == q.raw.toList
mutual
/-- Are two parts the same? -/
def sameP : Pt → Pt → Bool
  | .mk k y b m r l, .mk k' y' b' m' r' l' => oneB (.mk k y b m r l) (.mk k' y' b' m' r' l') && sameL l l'
def sameL : List Pt → List Pt → Bool
  | [], [] => true
  | p :: r, q :: t => sameP p q && sameL r t
  | _, _ => false
end
theorem sameP_eq (p q : Pt) : sameP p q = (oneB p q && sameL p.items q.items) := by cases p; cases q; simp only [sameP, Pt.items]
theorem sameL_nil : sameL [] [] = true := by simp only [sameL]
theorem sameL_cons (p q : Pt) (r t : List Pt) : sameL (p :: r) (q :: t) = (sameP p q && sameL r t) := by simp only [sameL]
theorem sameL_length {l m : List Pt} (h : sameL l m = true) : l.length = m.length := by
  induction l generalizing m with
  | nil => cases m with
    | nil => rfl
    | cons q t => simp [sameL] at h
  | cons p r ih => cases m with
    | nil => simp [sameL] at h
    | cons q t =>
      rw [sameL_cons, Bool.and_eq_true] at h
      simp [ih h.2]
theorem sameL_false {l m : List Pt} (h : l.length ≠ m.length) : sameL l m = false := by
  cases e : sameL l m with
  | false => rfl
  | true => exact absurd (sameL_length e) h
theorem ba_same {a b : ByteArray} (h : a.toList = b.toList) : a = b := by
  cases a with | mk x => cases b with | mk y =>
    rw [ByteArray.toList_mk, ByteArray.toList_mk] at h
    exact congrArg ByteArray.mk (Array.toList_inj.1 h)
theorem oneB_iff (p q : Pt) : oneB p q = true ↔ p.kind = q.kind ∧ p.yes = q.yes ∧ p.neg = q.neg ∧ p.mag = q.mag ∧ p.raw = q.raw := by
  simp only [oneB, Bool.and_eq_true, beq_iff_eq, and_assoc]
  constructor
  · rintro ⟨h1, h2, h3, h4, h5⟩; exact ⟨h1, h2, h3, ba_same h4, ba_same h5⟩
  · rintro ⟨h1, h2, h3, h4, h5⟩; exact ⟨h1, h2, h3, by rw [h4], by rw [h5]⟩
theorem sameP_refl (p : Pt) : sameP p p = true := by
  induction p using Pt.ind with
  | h p ih =>
    rw [sameP_eq, (oneB_iff p p).2 ⟨rfl, rfl, rfl, rfl, rfl⟩, Bool.true_and]
    generalize p.items = l at ih
    induction l with
    | nil => exact sameL_nil
    | cons q r ihr =>
      rw [sameL_cons, ih q (List.mem_cons_self ..), Bool.true_and]
      exact ihr fun x hx => ih x (List.mem_cons_of_mem _ hx)
theorem sameP_iff (p q : Pt) : sameP p q = true ↔ p = q := by
  constructor
  · induction p using Pt.ind generalizing q with
    | h p ih =>
      intro h
      rw [sameP_eq, Bool.and_eq_true, oneB_iff] at h
      have hl : ∀ (l m : List Pt), (∀ x ∈ l, ∀ y, sameP x y = true → x = y) → sameL l m = true → l = m := by
        intro l
        induction l with
        | nil => intro m _ hm; cases m with
          | nil => rfl
          | cons y t => simp [sameL] at hm
        | cons x r ihr => intro m hx hm; cases m with
          | nil => simp [sameL] at hm
          | cons y t =>
            rw [sameL_cons, Bool.and_eq_true] at hm
            rw [hx x (List.mem_cons_self ..) y hm.1, ihr t (fun z hz => hx z (List.mem_cons_of_mem _ hz)) hm.2]
      have h2 := hl p.items q.items (fun x hx y hy => ih x hx y hy) h.2
      rw [Pt.eta p, Pt.eta q, h.1.1, h.1.2.1, h.1.2.2.1, h.1.2.2.2.1, h.1.2.2.2.2, h2]
  · rintro rfl; exact sameP_refl p
theorem sameP_symm (p q : Pt) : sameP p q = sameP q p := by
  rw [Bool.eq_iff_iff, sameP_iff, sameP_iff]
  exact eq_comm
/-- The first k items. -/
theorem sameL_take {l m : List Pt} (h : l.length = m.length) : sameL l m = true ↔ ∀ j (h1 : j < l.length) (h2 : j < m.length), sameP l[j] m[j] = true := by
  induction l generalizing m with
  | nil => cases m with
    | nil => simp [sameL]
    | cons _ _ => simp at h
  | cons p r ih => cases m with
    | nil => simp at h
    | cons q t =>
      rw [sameL_cons, Bool.and_eq_true, ih (by simpa using h)]
      constructor
      · rintro ⟨h1, h2⟩ j hj1 hj2
        cases j with
        | zero => exact h1
        | succ j => exact h2 j (by simpa using hj1) (by simpa using hj2)
      · intro h1
        exact ⟨h1 0 (by simp) (by simp), fun j hj1 hj2 => h1 (j + 1) (by simpa using hj1) (by simpa using hj2)⟩
end Go.Proofs.YtcgphlilijeifaaDoor.V
