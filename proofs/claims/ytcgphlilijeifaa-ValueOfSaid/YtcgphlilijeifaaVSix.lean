/-
  A part's six cells, stored one by one.
-/
import Derived.Test.YtcgphlilijeifaaVTell
import Derived.Laws.OwnMore
namespace Go.Proofs.Ytcgphlilijeifaa.V
open Go.RowKit

def set6 (w : World) (g o k : Nat) (y b : Bool) (m r : ByteArray) (v : Value) : World :=
  (((((w.setCell ⟨g, o, none⟩ (.int .u8 k)).setCell ⟨g, o + 1, none⟩ (.bool y)).setCell ⟨g, o + 2, none⟩ (.bool b)).setCell ⟨g, o + 3, none⟩ (.string m)).setCell ⟨g, o + 4, none⟩ (.string r)).setCell ⟨g, o + 5, none⟩ v
theorem set6_block (w : World) (g o k : Nat) (y b : Bool) (m r : ByteArray) (v : Value) {j : Nat} (h : j ≠ g) : (set6 w g o k y b m r v).heap[j]? = w.heap[j]? := by
  unfold set6
  rw [Below.heap_setCell _ _ _ _ h, Below.heap_setCell _ _ _ _ h, Below.heap_setCell _ _ _ _ h, Below.heap_setCell _ _ _ _ h, Below.heap_setCell _ _ _ _ h, Below.heap_setCell _ _ _ _ h]
theorem set6_size (w : World) (g o k : Nat) (y b : Bool) (m r : ByteArray) (v : Value) : (set6 w g o k y b m r v).heap.size = w.heap.size := by
  unfold set6; simp [World.setCell]
theorem set6_below (w : World) (g o k : Nat) (y b : Bool) (m r : ByteArray) (v : Value) {B : Nat} (h : B ≤ g) : Below B w (set6 w g o k y b m r v) :=
  ((((((Below.refl B w).setCell h _).setCell h _).setCell h _).setCell h _).setCell h _).setCell h _
theorem cell_other (w : World) (g o o' : Nat) (u : Value) (h : o ≠ o') : (w.setCell ⟨g, o, none⟩ u).cell? ⟨g, o', none⟩ = w.cell? ⟨g, o', none⟩ :=
  World.cell?_setCell_other w ⟨g, o, none⟩ ⟨g, o', none⟩ u (by intro e; injection e with _ e; exact h e)
theorem set6_far (w : World) (g o k : Nat) (y b : Bool) (m r : ByteArray) (v : Value) {o' : Nat} (h : o' < o ∨ o + 6 ≤ o') : (set6 w g o k y b m r v).cell? ⟨g, o', none⟩ = w.cell? ⟨g, o', none⟩ := by
  unfold set6
  rw [cell_other _ _ _ _ _ (by omega), cell_other _ _ _ _ _ (by omega), cell_other _ _ _ _ _ (by omega), cell_other _ _ _ _ _ (by omega), cell_other _ _ _ _ _ (by omega), cell_other _ _ _ _ _ (by omega)]
theorem set6_farP {w : World} {g o k : Nat} {y b : Bool} {m r : ByteArray} {v u : Value} {o' : Nat} {p : Pt} (hc : PartCells w g o' p u) (h : o' + 6 ≤ o ∨ o + 6 ≤ o') : PartCells (set6 w g o k y b m r v) g o' p u :=
  ⟨(set6_far _ _ _ _ _ _ _ _ _ (by omega)).trans hc.c0, (set6_far _ _ _ _ _ _ _ _ _ (by omega)).trans hc.c1, (set6_far _ _ _ _ _ _ _ _ _ (by omega)).trans hc.c2, (set6_far _ _ _ _ _ _ _ _ _ (by omega)).trans hc.c3, (set6_far _ _ _ _ _ _ _ _ _ (by omega)).trans hc.c4, (set6_far _ _ _ _ _ _ _ _ _ (by omega)).trans hc.c5⟩
theorem set6_row {w : World} {g o k : Nat} {y b : Bool} {m r : ByteArray} {v : Value} {base n cap : Nat} {xs : List Value} (h : w.ownsRow base 27 6 (.slice (some ⟨g, 0, none⟩) n cap) n xs) :
    ∃ xs', (set6 w g o k y b m r v).ownsRow base 27 6 (.slice (some ⟨g, 0, none⟩) n cap) n xs' := by
  have h1 := (h.stored o (.int .u8 k)).1
  have h2 := (h1.stored (o + 1) (.bool y)).1
  have h3 := (h2.stored (o + 2) (.bool b)).1
  have h4 := (h3.stored (o + 3) (.string m)).1
  have h5 := (h4.stored (o + 4) (.string r)).1
  exact ⟨_, (h5.stored (o + 5) v).1⟩
theorem cell_some {w : World} {g o o' : Nat} {u x : Value} (h : w.cell? ⟨g, o', none⟩ = some x) : ∃ x', (w.setCell ⟨g, o, none⟩ u).cell? ⟨g, o', none⟩ = some x' := by
  by_cases e : o = o'
  · subst e; exact ⟨u, World.cell?_setCell_same w ⟨g, o, none⟩ u h⟩
  · exact ⟨x, (cell_other w g o o' u e).trans h⟩
/-- What has been stored. -/
theorem set6_new {w : World} {g o : Nat} {p : Pt} {v : Value} (h : ∀ c, c < 6 → ∃ x, w.cell? ⟨g, o + c, none⟩ = some x) : PartCells (set6 w g o p.kind p.yes p.neg p.mag p.raw v) g o p v := by
  obtain ⟨x0, h0⟩ := h 0 (by decide)
  obtain ⟨x1, h1⟩ := h 1 (by decide)
  obtain ⟨x2, h2⟩ := h 2 (by decide)
  obtain ⟨x3, h3⟩ := h 3 (by decide)
  obtain ⟨x4, h4⟩ := h 4 (by decide)
  obtain ⟨x5, h5⟩ := h 5 (by decide)
  unfold set6
  refine ⟨?_, ?_, ?_, ?_, ?_, ?_⟩
  · rw [cell_other _ _ _ _ _ (by omega), cell_other _ _ _ _ _ (by omega), cell_other _ _ _ _ _ (by omega), cell_other _ _ _ _ _ (by omega), cell_other _ _ _ _ _ (by omega)]
    exact World.cell?_setCell_same _ _ _ h0
  · rw [cell_other _ _ _ _ _ (by omega), cell_other _ _ _ _ _ (by omega), cell_other _ _ _ _ _ (by omega), cell_other _ _ _ _ _ (by omega)]
    exact World.cell?_setCell_same _ _ _ ((cell_other _ _ _ _ _ (by omega)).trans h1)
  · rw [cell_other _ _ _ _ _ (by omega), cell_other _ _ _ _ _ (by omega), cell_other _ _ _ _ _ (by omega)]
    exact World.cell?_setCell_same _ _ _ (((cell_other _ _ _ _ _ (by omega)).trans (cell_other _ _ _ _ _ (by omega))).trans h2)
  · rw [cell_other _ _ _ _ _ (by omega), cell_other _ _ _ _ _ (by omega)]
    exact World.cell?_setCell_same _ _ _ ((((cell_other _ _ _ _ _ (by omega)).trans (cell_other _ _ _ _ _ (by omega))).trans (cell_other _ _ _ _ _ (by omega))).trans h3)
  · rw [cell_other _ _ _ _ _ (by omega)]
    exact World.cell?_setCell_same _ _ _ (((((cell_other _ _ _ _ _ (by omega)).trans (cell_other _ _ _ _ _ (by omega))).trans (cell_other _ _ _ _ _ (by omega))).trans (cell_other _ _ _ _ _ (by omega))).trans h4)
  · exact World.cell?_setCell_same _ _ _ ((((((cell_other _ _ _ _ _ (by omega)).trans (cell_other _ _ _ _ _ (by omega))).trans (cell_other _ _ _ _ _ (by omega))).trans (cell_other _ _ _ _ _ (by omega))).trans (cell_other _ _ _ _ _ (by omega))).trans h5)
theorem row_some {w : World} {base g n cap o : Nat} {xs : List Value} (h : w.ownsRow base 27 6 (.slice (some ⟨g, 0, none⟩) n cap) n xs) (ho : o < n * 6) : ∃ x, w.cell? ⟨g, o, none⟩ = some x := by
  have := h.1
  exact ⟨xs[o]'(by omega), by rw [h.cellAt o ho]; exact List.getElem?_eq_getElem _⟩
theorem row_same {w w' : World} {base g n cap : Nat} {xs : List Value} (h : w.ownsRow base 27 6 (.slice (some ⟨g, 0, none⟩) n cap) n xs) (hb : w'.heap[g]? = w.heap[g]?) : w'.ownsRow base 27 6 (.slice (some ⟨g, 0, none⟩) n cap) n xs := by
  refine ⟨h.1, ?_⟩
  rcases h.2 with hn | ⟨g', cap', cur, he, hg, hgg, rest⟩
  · exact .inl hn
  · have e := he
    simp only [Value.slice.injEq, Option.some.injEq, Addr.mk.injEq, and_true, true_and] at e
    obtain ⟨rfl, rfl⟩ := e
    exact .inr ⟨g, cap, cur, he, hg, hb.trans hgg, rest⟩
theorem row_block {w : World} {base g n cap : Nat} {xs : List Value} (h : w.ownsRow base 27 6 (.slice (some ⟨g, 0, none⟩) n cap) n xs) : ∃ cur, w.heap[g]? = some (.cells cur 27 (0, 0)) ∧ cur.size = cap * 6 ∧ n ≤ cap ∧ cap ≤ maxLen := by
  rcases h.2 with ⟨h', _⟩ | ⟨g', cap', cur, he, hg, hgg, h1, h2, h3, _⟩
  · simp at h'
  · simp only [Value.slice.injEq, Option.some.injEq, Addr.mk.injEq, and_true, true_and] at he
    obtain ⟨rfl, rfl⟩ := he
    exact ⟨cur, hgg, h3, h1, h2⟩
theorem row_of {w : World} {base g n cap : Nat} {cur : Array Value} (hg : w.heap[g]? = some (.cells cur 27 (0, 0))) (h1 : cur.size = cap * 6) (h2 : n ≤ cap) (h3 : cap ≤ maxLen) (hb : base ≤ g) : w.ownsRow base 27 6 (.slice (some ⟨g, 0, none⟩) n cap) n (cur.toList.take (n * 6)) :=
  ⟨by rw [List.length_take, Array.length_toList, h1]; omega, .inr ⟨g, cap, cur, rfl, hb, hg, h2, h3, h1, rfl⟩⟩
theorem PartCells.block {w w' : World} {g o : Nat} {p : Pt} {v : Value} (h : PartCells w g o p v) (hb : w'.heap[g]? = w.heap[g]?) : PartCells w' g o p v := by
  have k : ∀ c x, w.cell? ⟨g, c, none⟩ = some x → w'.cell? ⟨g, c, none⟩ = some x := fun c x hx => (World.cell?_of_block (w := w) (a := ⟨g, c, none⟩) hb).trans hx
  exact ⟨k _ _ h.c0, k _ _ h.c1, k _ _ h.c2, k _ _ h.c3, k _ _ h.c4, k _ _ h.c5⟩
theorem Box.same {w w' : World} {g : Nat} {p : Pt} {v : Value} (h : Box w g p v) (hb : w'.heap[g]? = w.heap[g]?) : Box w' g p v := by
  refine ⟨?_, h.cells.block hb⟩
  have := h.lt
  rw [Array.getElem?_eq_getElem this] at hb
  exact (Array.getElem?_eq_some_iff.1 hb).1

/-- A part's lists are short enough to be made. -/
inductive Roomy : Pt → Prop
  | mk (p : Pt) (h : p.items.length * 72 ≤ 140737488351232) (deep : ∀ q ∈ p.items, Roomy q) : Roomy p
theorem Roomy.len {p : Pt} (h : Roomy p) : p.items.length * 72 ≤ 140737488351232 := by cases h; assumption
theorem Roomy.item {p q : Pt} (h : Roomy p) (hq : q ∈ p.items) : Roomy q := by cases h with | mk _ _ d => exact d q hq
theorem roomy_may (p : Pt) : mayB p = true → Roomy p := by
  induction p using Pt.ind with
  | h p ih =>
    intro h
    refine .mk p ?_ fun q hq => ih q hq (mayB_item h hq)
    by_cases h7 : p.kind = 7
    · have := may_len h h7; omega
    · have h1 := mayB_ok h
      unfold okOne at h1
      simp only [Bool.and_eq_true] at h1
      have h4 := h1.1.2
      rw [show (p.kind == 7) = false by simpa using h7, Bool.false_or, List.isEmpty_iff] at h4
      rw [h4]; decide
end Go.Proofs.Ytcgphlilijeifaa.V
