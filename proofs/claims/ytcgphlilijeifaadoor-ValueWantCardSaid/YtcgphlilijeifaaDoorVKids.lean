/-
  A list of parts that is being made: what has been appended so far.
-/
import Derived.Test.YtcgphlilijeifaaDoorVOwn
namespace Go.Proofs.YtcgphlilijeifaaDoor.V
open Go.RowKit

/-- All of a part's sizes are in bounds. -/
inductive FitA : Pt → Prop
  | mk (p : Pt) (h : Fit p) (deep : ∀ q ∈ p.items, FitA q) : FitA p
theorem FitA.fit {p : Pt} (h : FitA p) : Fit p := by cases h; assumption
theorem FitA.item {p q : Pt} (h : FitA p) (hq : q ∈ p.items) : FitA q := by cases h with | mk _ _ d => exact d q hq
theorem PI.fitA {w : World} {lo hi : Nat} {l : List Pt} {v : Value} (h : PI w lo hi l v) : ∀ q ∈ l, FitA q := by
  induction h with
  | mk l a cap F hc cells fits deep ih =>
    intro q hq
    obtain ⟨j, hj, rfl⟩ := List.getElem_of_mem hq
    exact .mk _ (fits j hj) (ih j hj)
theorem fitA_of {w : World} {lo hi : Nat} {p : Pt} {v : Value} (hf : Fit p) (h : PI w lo hi p.items v) : FitA p := .mk p hf h.fitA

/-- What the parts lead to. -/
def Kids (w : World) (base : Nat) (g : Option Nat) (ps : List (Pt × Value)) : Prop :=
  ∃ L H : Nat → Nat, (∀ j (h : j < ps.length), OwnI w false (L j) (H j) ps[j].1.items ps[j].2 ∧ base ≤ L j ∧ L j ≤ H j ∧ H j ≤ w.heap.size ∧ (∀ k, g = some k → ¬ (L j ≤ k ∧ k < H j)) ∧ Fit ps[j].1) ∧ ∀ i j, i < j → j < ps.length → H i ≤ L j
theorem Kids.nil (w : World) (base : Nat) (g : Option Nat) : Kids w base g [] := ⟨fun _ => 0, fun _ => 0, (fun j h => by cases h), (fun i j _ h => by cases h)⟩
theorem Kids.below {w w' : World} {base : Nat} {g : Option Nat} {ps : List (Pt × Value)} (h : Kids w base g ps) (hb : Below w.heap.size w w') : Kids w' base g ps := by
  obtain ⟨L, H, h1, h2⟩ := h
  refine ⟨L, H, fun j hj => ?_, h2⟩
  obtain ⟨a, b, c, d, e, f⟩ := h1 j hj
  exact ⟨a.same (Same.of_below hb d), b, c, Nat.le_trans d hb.size, e, f⟩
/-- One more. -/
theorem Kids.snoc {w w' : World} {base g lo hi : Nat} {v : Value} {ps : List (Pt × Value)} {p : Pt} {u : Value} (hu : OwnI w false lo hi p.items u) (hf : Fit p) (h1 : base ≤ lo) (h2 : hi ≤ w.heap.size) (hlh : lo ≤ hi)
    (hv : ∀ k, v.ownBlock = some k → k < lo) (hold : ∃ w0 : World, Kids w0 base v.ownBlock ps ∧ w0.heap.size ≤ lo ∧ Below w0.heap.size w0 w) (hg : w.grownBy w' v.ownBlock) (hw : v.ownBlock = some g ∨ w.heap.size ≤ g) : Kids w' base (some g) (ps ++ [(p, u)]) := by
  obtain ⟨w0, ⟨L, H, k1, k2⟩, hw0, hb0⟩ := hold
  have same : ∀ lo hi, hi ≤ w.heap.size → (∀ k, v.ownBlock = some k → ¬ (lo ≤ k ∧ k < hi)) → Same lo hi w w' := fun lo hi a b k c d => hg.block k (by omega) (fun e => b k e.symm ⟨c, d⟩)
  have out : ∀ lo hi, hi ≤ w.heap.size → (∀ k, v.ownBlock = some k → ¬ (lo ≤ k ∧ k < hi)) → ∀ k, some g = some k → ¬ (lo ≤ k ∧ k < hi) := fun lo hi a b k e => by
    have e := Option.some.inj e
    subst e
    rcases hw with e | e
    · exact b _ e
    · omega
  refine ⟨fun j => if j < ps.length then L j else lo, fun j => if j < ps.length then H j else hi, fun j hj => ?_, fun i j hij hj => ?_⟩
  · by_cases hjl : j < ps.length
    · obtain ⟨a, b, c, d, e, f⟩ := k1 j hjl
      have hd : H j ≤ w.heap.size := Nat.le_trans d hb0.size
      simp only [hjl, if_true]
      rw [List.getElem_append_left hjl]
      exact ⟨(a.same (Same.of_below hb0 d)).same (same _ _ hd e), b, c, Nat.le_trans hd hg.size, out _ _ hd e, f⟩
    · have hje : j = ps.length := by simp at hj; omega
      subst hje
      have hv2 : ∀ k, v.ownBlock = some k → ¬ (lo ≤ k ∧ k < hi) := fun k hk => by have := hv k hk; omega
      simp only [Nat.lt_irrefl, if_false]
      rw [List.getElem_append_right (Nat.le_refl _)]
      simp only [Nat.sub_self, List.getElem_cons_zero]
      exact ⟨hu.same (same _ _ h2 hv2), h1, hlh, Nat.le_trans h2 hg.size, out _ _ h2 hv2, hf⟩
  · have hj2 : j ≤ ps.length := by simp at hj; omega
    have hi2 : i < ps.length := by omega
    by_cases hjl : j < ps.length
    · simp only [hi2, hjl, if_true]
      exact k2 i j hij hjl
    · simp only [hi2, if_true, hjl, if_false]
      have := (k1 i hi2).2.2.2.1
      omega
/-- The whole list. -/
theorem kids_own {w : World} {base : Nat} {s : Value} {ps : List (Pt × Value)} {l : List Pt} (hl : ps.map Prod.fst = l) (hO : w.ownsRow base 27 6 s l.length (flat ps)) (hK : Kids w base s.ownBlock ps) :
    OwnI w false base w.heap.size l s := by
  subst hl
  rw [List.length_map] at hO
  obtain ⟨L, H, k1, k2⟩ := hK
  rcases hO.2 with ⟨rfl, hn⟩ | ⟨g, cap, cur, rfl, hg, hgg, hnc, hcm, hcs, _⟩
  · have : ps = [] := List.eq_nil_of_length_eq_zero hn
    subst this
    exact .nil _ _ rfl
  · have hlen : (ps.map Prod.fst).length = ps.length := List.length_map ..
    have key := OwnI.row (w := w) (m := false) base w.heap.size (ps.map Prod.fst) g cap cur (fun j => if h : j < ps.length then ps[j].2 else .slice none 0 0) L H hg (Array.getElem?_eq_some_iff.1 hgg).1 hgg (by rw [hlen]; exact hnc) hcs hcm
      (fun j hj => by
        rw [hlen] at hj
        simp only [hj, dif_pos, List.getElem_map]
        exact flat_cells hO j hj)
      (fun j hj => by
        rw [hlen] at hj
        simp only [List.getElem_map]
        exact (k1 j hj).2.2.2.2.2)
      (fun j hj => by
        rw [hlen] at hj
        obtain ⟨_, b, c, d, e, _⟩ := k1 j hj
        exact ⟨b, c, d, e g rfl⟩)
      (fun i j hij hj => k2 i j hij (by rw [hlen] at hj; exact hj)) (fun h => by cases h)
      (fun j hj => by
        rw [hlen] at hj
        simp only [hj, dif_pos, List.getElem_map]
        exact (k1 j hj).1)
    rw [hlen] at key
    exact key
end Go.Proofs.YtcgphlilijeifaaDoor.V
