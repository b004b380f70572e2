/-
  Two growing rows: values, and the parts that they were made of; a value's footprint.
-/
import Derived.Test.YtcgphlilijeifaaVClone
namespace Go.Proofs.Ytcgphlilijeifaa.V
open Go.RowKit

/-- The values us stand for the parts l; none of their memory lies in block gi or gp. -/
def Two (w : World) (B : Nat) (gi gp : Option Nat) (l : List Pt) (us : List Value) : Prop :=
  (us.length = l.length ∧ ∀ j (h : j < l.length), ∃ u lo hi, us[j]? = some u ∧ VI w lo hi l[j] u ∧ B ≤ lo ∧ hi ≤ w.heap.size ∧ (∀ k, gi = some k → k < lo ∨ hi ≤ k) ∧ ∀ k, gp = some k → k < lo ∨ hi ≤ k) ∧ ∀ k, gi = some k → gp ≠ some k
theorem Two.nil (w : World) (B : Nat) : Two w B none none [] [] := ⟨⟨rfl, fun j h => by cases h⟩, fun k h => by cases h⟩
theorem Two.below {w w' : World} {B : Nat} {gi gp : Option Nat} {l : List Pt} {us : List Value} (h : Two w B gi gp l us) (hb : Below w.heap.size w w') : Two w' B gi gp l us :=
  ⟨⟨h.1.1, fun j hj => by
    obtain ⟨u, lo, hi, h1, h2, h3, h4, h5, h6⟩ := h.1.2 j hj
    exact ⟨u, lo, hi, h1, h2.same (Same.of_below hb h4), h3, Nat.le_trans h4 hb.size, h5, h6⟩⟩, h.2⟩
theorem apart_new {W lo hi g : Nat} {gi : Option Nat} (hi2 : hi ≤ W) (h : ∀ k, gi = some k → k < lo ∨ hi ≤ k) (hg : gi = some g ∨ g = W) : ∀ k, some g = some k → k < lo ∨ hi ≤ k := fun k e => by
  have e := Option.some.inj e
  subst e
  rcases hg with hg | hg
  · exact h _ hg
  · exact .inr (by omega)
theorem same_grown {w w' : World} {row : Option Nat} {lo hi : Nat} (hg : w.grownBy w' row) (h1 : hi ≤ w.heap.size) (h : ∀ k, row = some k → k < lo ∨ hi ≤ k) : Same lo hi w w' := fun k a b => hg.block k (by omega) (fun e => by have := h k e.symm; omega)
/-- One more value. -/
theorem Two.pushI {w w' : World} {B g lo hi : Nat} {gi gp : Option Nat} {l : List Pt} {us : List Value} {p : Pt} {u : Value} (h : Two w B gi gp l us) (hu : VI w lo hi p u) (h1 : B ≤ lo) (h2 : hi ≤ w.heap.size)
    (hi1 : ∀ k, gi = some k → k < lo ∨ hi ≤ k) (hp1 : ∀ k, gp = some k → k < lo ∨ hi ≤ k) (hgp : ∀ k, gp = some k → k < w.heap.size) (hg : w.grownBy w' gi) (hl : gi = some g ∨ g = w.heap.size) : Two w' B (some g) gp (l ++ [p]) (us ++ [u]) := by
  refine ⟨⟨by simp [h.1.1], fun j hj => ?_⟩, fun k e e2 => ?_⟩
  · by_cases hjl : j < l.length
    · obtain ⟨x, lo2, hi2, a1, a2, a3, a4, a5, a6⟩ := h.1.2 j hjl
      refine ⟨x, lo2, hi2, ?_, ?_, a3, Nat.le_trans a4 hg.size, apart_new a4 a5 hl, a6⟩
      · rw [List.getElem?_append_left (by rw [h.1.1]; exact hjl)]; exact a1
      · rw [List.getElem_append_left hjl]; exact a2.same (same_grown hg a4 a5)
    · have hje : j = l.length := by simp at hj; omega
      subst hje
      refine ⟨u, lo, hi, ?_, ?_, h1, Nat.le_trans h2 hg.size, apart_new h2 hi1 hl, hp1⟩
      · rw [List.getElem?_append_right (by rw [h.1.1]; exact Nat.le_refl _), h.1.1]; simp
      · rw [List.getElem_append_right (Nat.le_refl _)]; simpa using hu.same (same_grown hg h2 hi1)
  · have e := Option.some.inj e
    subst e
    rcases hl with hl | hl
    · exact h.2 _ hl e2
    · have := hgp _ e2; omega
/-- The other row has grown. -/
theorem Two.pushP {w w' : World} {B g : Nat} {gi gp : Option Nat} {l : List Pt} {us : List Value} (h : Two w B gi gp l us) (hgi : ∀ k, gi = some k → k < w.heap.size) (hg : w.grownBy w' gp) (hl : gp = some g ∨ g = w.heap.size) : Two w' B gi (some g) l us := by
  refine ⟨⟨h.1.1, fun j hj => ?_⟩, fun k e e2 => ?_⟩
  · obtain ⟨x, lo2, hi2, a1, a2, a3, a4, a5, a6⟩ := h.1.2 j hj
    exact ⟨x, lo2, hi2, a1, a2.same (same_grown hg a4 a6), a3, Nat.le_trans a4 hg.size, a5, apart_new a4 a6 hl⟩
  · have e2 := Option.some.inj e2
    subst e2
    rcases hl with hl | hl
    · exact h.2 _ e hl
    · have := hgi _ e; omega
/-- The parts' row, read. -/
theorem parts_PI {w : World} {B : Nat} {v : Value} {ps : List (Pt × Value)} (hO : w.ownsRow B 27 6 v ps.length (flat ps)) (h : ∀ x ∈ ps, Fit x.1 ∧ PI w 0 w.heap.size x.1.items x.2) : PI w 0 w.heap.size (ps.map Prod.fst) v := by
  have hlen : (ps.map Prod.fst).length = ps.length := List.length_map ..
  rcases hO.2 with ⟨rfl, hn⟩ | ⟨g, cap, cur, rfl, hg, hgg, hnc, hcm, hcs, _⟩
  · obtain rfl : ps = [] := List.eq_nil_of_length_eq_zero hn
    exact PI.nil _ _ _
  · have key := PI.mk (w := w) (lo := 0) (hi := w.heap.size) (ps.map Prod.fst) (some ⟨g, 0, none⟩) cap (fun j => if h : j < ps.length then ps[j].2 else .slice none 0 0) (by rw [hlen]; exact hnc)
      (fun j hj => by
        rw [hlen] at hj
        simp only [hj, dif_pos, List.getElem_map]
        exact ⟨g, 0, rfl, Nat.zero_le _, (Array.getElem?_eq_some_iff.1 hgg).1, by rw [Nat.zero_add]; exact flat_cells hO j hj⟩)
      (fun j hj => by
        rw [hlen] at hj
        simp only [List.getElem_map]
        exact (h _ (List.getElem_mem hj)).1)
      (fun j hj => by
        rw [hlen] at hj
        simp only [hj, dif_pos, List.getElem_map]
        exact (h _ (List.getElem_mem hj)).2)
    rw [hlen] at key
    exact key

theorem Two.ne {w : World} {B : Nat} {gi gp : Option Nat} {l : List Pt} {us : List Value} (h : Two w B gi gp l us) : gp = none ∨ gp ≠ gi := by
  cases gp with
  | none => exact .inl rfl
  | some k => exact .inr fun e => h.2 k e.symm rfl
/-- Both rows have grown. -/
theorem of_step {w3 w4 w5 : World} {B g4 g5 cap4 cap5 lo hi n : Nat} {si sp x s : Value} {q : Pt} {us : List Value} {ps : List (Pt × Value)} {ob1 ob2 : Obj} (hn : ps.length = n)
    (hOp : w3.ownsRow B 27 6 sp n (flat ps)) (hOi : w3.ownsRow B 31 1 si n us) (hT : Two w3 B si.ownBlock sp.ownBlock (ps.map Prod.fst) us)
    (hx : VI w3 lo hi q x) (hlo : B ≤ lo) (hhi : hi ≤ w3.heap.size) (hi1 : ∀ k, si.ownBlock = some k → k < lo) (hp1 : ∀ k, sp.ownBlock = some k → k < lo)
    (hg4 : (w3.alloc ob1).grownBy w4 si.ownBlock) (hl4 : si.ownBlock = some g4 ∨ g4 = (w3.alloc ob1).heap.size) (hgl4 : g4 < w4.heap.size) (hO4 : w4.ownsRow B 31 1 (.slice (some ⟨g4, 0, none⟩) (n + 1) cap4) (n + 1) (us ++ [x]))
    (hg5 : (w4.alloc ob2).grownBy w5 sp.ownBlock) (hl5 : sp.ownBlock = some g5 ∨ g5 = (w4.alloc ob2).heap.size) (hO5 : w5.ownsRow B 27 6 (.slice (some ⟨g5, 0, none⟩) (n + 1) cap5) (n + 1) (flat ps ++ (cellsOf q s).toList)) :
    w5.ownsRow B 31 1 (.slice (some ⟨g4, 0, none⟩) (n + 1) cap4) (ps ++ [(q, s)]).length (us ++ [x]) ∧ w5.ownsRow B 27 6 (.slice (some ⟨g5, 0, none⟩) (n + 1) cap5) (ps ++ [(q, s)]).length (flat (ps ++ [(q, s)])) ∧
      Two w5 B (some g4) (some g5) ((ps ++ [(q, s)]).map Prod.fst) (us ++ [x]) ∧ ∀ {A : Nat} {w : World}, A ≤ B → Below A w w3 → A ≤ w3.heap.size → Below A w w5 ∧ w3.heap.size ≤ w5.heap.size := by
  have hlen : (ps ++ [(q, s)]).length = n + 1 := by simp [hn]
  have ha1 : (w3.alloc ob1).heap.size = w3.heap.size + 1 := by simp
  have ha2 : (w4.alloc ob2).heap.size = w4.heap.size + 1 := by simp
  have hs4 := hg4.size
  have hs5 := hg5.size
  have b1 := (Below.refl w3.heap.size w3).alloc (Nat.le_refl _) ob1
  have b2 := (Below.refl w4.heap.size w4).alloc (Nat.le_refl _) ob2
  have hOlt := World.ownsRow.lt hOp
  have hIlt := World.ownsRow.lt hOi
  have T4 := (hT.below b1).pushI (hx.same (Same.of_below b1 hhi)) hlo (by omega) (fun k hk => .inl (hi1 k hk)) (fun k hk => .inl (hp1 k hk)) (fun k hk => by have := hOlt k hk; omega) hg4 hl4
  have T5 := (T4.below b2).pushP (fun k hk => by have := Option.some.inj hk; omega) hg5 hl5
  refine ⟨?_, ?_, ?_, fun hA hb hAs => ⟨?_, by omega⟩⟩
  · rw [hlen]
    refine (hO4.alloc ob2).kept hg5 (.inr ?_)
    exact fun e => T4.2 g4 rfl e.symm
  · rw [hlen, flat_snoc]; exact hO5
  · rw [List.map_append]; exact T5
  · exact (((hb.alloc hAs ob1).grown hg4 (by omega) (fun k hk => by have := hIlt k hk; omega)).alloc (by omega) ob2).grown hg5 (by omega) (fun k hk => by have := hOlt k hk; omega)
/-- The interface value v is the part p; its memory lies in blocks that are S. -/
inductive VIS (w : World) (S : Nat → Prop) : Pt → Value → Prop
  | flat (p : Pt) (v : Value) (h7 : p.kind ≠ 7) (h : ∀ (w' : World) (lo hi : Nat), VI w' lo hi p v) : VIS w S p v
  | tuple (p : Pt) (h : p.kind = 7) (a : Option Addr) (cap : Nat) (F : Nat → Value) (hc : p.items.length ≤ cap)
      (cells : ∀ j, j < p.items.length → ∃ g, a = some ⟨g, 0, none⟩ ∧ S g ∧ w.cell? ⟨g, j, none⟩ = some (F j))
      (deep : ∀ j (h : j < p.items.length), VIS w S p.items[j] (F j)) : VIS w S p (.iface 76 (.agg #[.slice a p.items.length cap]))
theorem VI.toS {w : World} {lo hi : Nat} {S : Nat → Prop} {p : Pt} {v : Value} (h : VI w lo hi p v) (hS : ∀ b, lo ≤ b → b < hi → S b) : VIS w S p v := by
  induction h with
  | null p h => exact .flat p _ (by omega) fun _ _ _ => .null p h
  | truth p h => exact .flat p _ (by omega) fun _ _ _ => .truth p h
  | whole p h => exact .flat p _ (by omega) fun _ _ _ => .whole p h
  | row p h0 h1 h2 h7 => exact .flat p _ h7 fun _ _ _ => .row p h0 h1 h2 h7
  | tuple p h a cap F hc cells deep ih =>
    exact .tuple p h a cap F hc (fun j hj => by
      obtain ⟨g, ha, h1, h2, h3⟩ := cells j hj
      exact ⟨g, ha, hS g h1 h2, h3⟩) ih
theorem VIS.same {w w' : World} {S : Nat → Prop} {p : Pt} {v : Value} (h : VIS w S p v) (hs : ∀ b, S b → w'.heap[b]? = w.heap[b]?) : VIS w' S p v := by
  induction h with
  | flat p v h7 h => exact .flat p v h7 h
  | tuple p h a cap F hc cells deep ih =>
    exact .tuple p h a cap F hc (fun j hj => by
      obtain ⟨g, ha, h1, h3⟩ := cells j hj
      exact ⟨g, ha, h1, (World.cell?_of_block (w := w) (a := ⟨g, j, none⟩) (hs g h1)).trans h3⟩) ih
theorem VIS.vi {w : World} {S : Nat → Prop} {p : Pt} {v : Value} (h : VIS w S p v) : VI w 0 w.heap.size p v := by
  induction h with
  | flat p v h7 h => exact h _ _ _
  | tuple p h a cap F hc cells deep ih =>
    exact .tuple p h a cap F hc (fun j hj => by
      obtain ⟨g, ha, h1, h3⟩ := cells j hj
      exact ⟨g, ha, Nat.zero_le _, World.block_lt_of_cell? w _ h3, h3⟩) ih

theorem mayT {l : List Pt} (h : l.length ≤ 1024) (ha : ∀ q ∈ l, mayB q = true) : mayB (pT l) = true := by
  have h1 : okOne (pT l) = true := by
    unfold okOne
    show (decide ((7 : Nat) ≤ 7) && ((7 : Nat) == 1 || !false) && ((7 : Nat) == 2 || (!false && (⟨#[]⟩ : ByteArray).toList.isEmpty)) && ((7 : Nat) == 7 || l.isEmpty) && _) = true
    have e : (⟨#[]⟩ : ByteArray).toList = [] := by rw [Lib.toList_data]
    simp [pT, Pt.kind, Pt.raw, Pt.items, e, h]
  rw [mayB_eq, h1]
  show (true && (!((7 : Nat) == 7) || l.all mayB)) = true
  simpa using ha
end Go.Proofs.Ytcgphlilijeifaa.V
