/-
  How parts and values lie in memory; what stays where other memory is written.
-/
import Derived.Test.YtcgphlilijeifaaDoorVPt
import Derived.Test.YtcgphlilijeifaaDoorRows
import Derived.WalkKit
import Derived.Below
import Derived.WalkSpells
import Derived.WalkLawsBesides
import Derived.Lib.Hide
import Derived.Stop.Asserts
namespace Go.Proofs.YtcgphlilijeifaaDoor.V
open Go.RowKit

theorem two {W a b : World} (h : Below W.heap.size W a) (k : Below a.heap.size a b) : Below W.heap.size W b := h.trans (k.mono h.size)
theorem keep {W w1 : World} {B : Nat} (hb : Below B W w1) {b o : Nat} {v : Value} (hB : b < B) (h : W.cell? ⟨b, o, none⟩ = some v) : w1.cell? ⟨b, o, none⟩ = some v := (hb.cell hB).trans h
theorem keeps {W w1 : World} (hb : Below W.heap.size W w1) {p : Addr} {v : Value} (h : W.cell? p = some v) : w1.cell? p = some v := (hb.cell (World.block_lt_of_cell? W p h)).trans h
theorem size_of (s : ByteArray) : s.toList.length = s.size := by rw [Lib.toList_data, Lib.size_eq]

/-- The blocks from lo up to hi are as they were. -/
def Same (lo hi : Nat) (w w' : World) : Prop := ∀ k, lo ≤ k → k < hi → w'.heap[k]? = w.heap[k]?
theorem Same.of_below {B lo hi : Nat} {w w' : World} (h : Below B w w') (hB : hi ≤ B) : Same lo hi w w' := fun k _ hk => h.block k (by omega)
theorem Same.mono {lo hi lo' hi' : Nat} {w w' : World} (h : Same lo hi w w') (h1 : lo ≤ lo') (h2 : hi' ≤ hi) : Same lo' hi' w w' := fun k a b => h k (by omega) (by omega)
theorem Same.trans {lo hi : Nat} {a b c : World} (h : Same lo hi a b) (k : Same lo hi b c) : Same lo hi a c := fun i h1 h2 => (k i h1 h2).trans (h i h1 h2)
theorem Same.refl (lo hi : Nat) (w : World) : Same lo hi w w := fun _ _ _ => rfl
theorem Same.cell {lo hi b o : Nat} {w w' : World} {v : Value} (h : Same lo hi w w') (h1 : lo ≤ b) (h2 : b < hi) (hc : w.cell? ⟨b, o, none⟩ = some v) : w'.cell? ⟨b, o, none⟩ = some v :=
  (World.cell?_of_block (w := w) (h b h1 h2)).trans hc

/-- Bounds of a part's own fields. -/
structure Fit (p : Pt) : Prop where
  k : p.kind < 256
  m : p.mag.size ≤ 140737488351232
  r : p.raw.size ≤ 140737488351232
  l : p.items.length ≤ 140737488351232
/-- The six cells of a part; v: its items' list. -/
def cellsOf (p : Pt) (v : Value) : Array Value := #[.int .u8 p.kind, .bool p.yes, .bool p.neg, .string p.mag, .string p.raw, v]
structure PartCells (w : World) (b o : Nat) (p : Pt) (v : Value) : Prop where
  c0 : w.cell? ⟨b, o, none⟩ = some (.int .u8 p.kind)
  c1 : w.cell? ⟨b, o + 1, none⟩ = some (.bool p.yes)
  c2 : w.cell? ⟨b, o + 2, none⟩ = some (.bool p.neg)
  c3 : w.cell? ⟨b, o + 3, none⟩ = some (.string p.mag)
  c4 : w.cell? ⟨b, o + 4, none⟩ = some (.string p.raw)
  c5 : w.cell? ⟨b, o + 5, none⟩ = some v
theorem PartCells.same {lo hi b o : Nat} {w w' : World} {p : Pt} {v : Value} (h : PartCells w b o p v) (hs : Same lo hi w w') (h1 : lo ≤ b) (h2 : b < hi) : PartCells w' b o p v :=
  ⟨hs.cell h1 h2 h.c0, hs.cell h1 h2 h.c1, hs.cell h1 h2 h.c2, hs.cell h1 h2 h.c3, hs.cell h1 h2 h.c4, hs.cell h1 h2 h.c5⟩

/-- The slice reads as the parts l; all that it leads to lies in the blocks from lo up to hi. -/
inductive PI (w : World) (lo hi : Nat) : List Pt → Value → Prop
  | mk (l : List Pt) (a : Option Addr) (cap : Nat) (F : Nat → Value) (hc : l.length ≤ cap)
      (cells : ∀ j (h : j < l.length), ∃ b off, a = some ⟨b, off, none⟩ ∧ lo ≤ b ∧ b < hi ∧ PartCells w b (off + j * 6) l[j] (F j))
      (fits : ∀ j (h : j < l.length), Fit l[j]) (deep : ∀ j (h : j < l.length), PI w lo hi l[j].items (F j)) : PI w lo hi l (.slice a l.length cap)
theorem PI.same {lo hi : Nat} {w w' : World} {l : List Pt} {v : Value} (h : PI w lo hi l v) (hs : Same lo hi w w') : PI w' lo hi l v := by
  induction h with
  | mk l a cap F hc cells fits deep ih =>
    exact .mk l a cap F hc (fun j hj => by
      obtain ⟨b, off, ha, h1, h2, h3⟩ := cells j hj
      exact ⟨b, off, ha, h1, h2, h3.same hs h1 h2⟩) fits ih
theorem PI.wide {lo hi lo' hi' : Nat} {w : World} {l : List Pt} {v : Value} (h : PI w lo hi l v) (h1 : lo' ≤ lo) (h2 : hi ≤ hi') : PI w lo' hi' l v := by
  induction h with
  | mk l a cap F hc cells fits deep ih =>
    exact .mk l a cap F hc (fun j hj => by
      obtain ⟨b, off, ha, h3, h4, h5⟩ := cells j hj
      exact ⟨b, off, ha, by omega, by omega, h5⟩) fits ih
theorem PI.nil (w : World) (lo hi : Nat) : PI w lo hi [] (.slice none 0 0) := .mk [] none 0 (fun _ => .slice none 0 0) (Nat.le_refl _) (fun j h => by cases h) (fun j h => by cases h) (fun j h => by cases h)
/-- The list opened: its value, and each of its places. -/
theorem PI.open {lo hi : Nat} {w : World} {l : List Pt} {v : Value} (h : PI w lo hi l v) : ∃ (a : Option Addr) (cap : Nat), v = .slice a l.length cap ∧ l.length ≤ cap ∧
    ∀ j (h : j < l.length), ∃ b off u, a = some ⟨b, off, none⟩ ∧ lo ≤ b ∧ b < hi ∧ PartCells w b (off + j * 6) l[j] u ∧ Fit l[j] ∧ PI w lo hi l[j].items u := by
  cases h with
  | mk _ a cap F hc cells fits deep =>
    refine ⟨a, cap, rfl, hc, fun j hj => ?_⟩
    obtain ⟨b, off, ha, h1, h2, h3⟩ := cells j hj
    exact ⟨b, off, F j, ha, h1, h2, h3, fits j hj, deep j hj⟩

/-- The interface value v is the part p; its memory lies in the blocks from lo up to hi. -/
inductive VI (w : World) (lo hi : Nat) : Pt → Value → Prop
  | null (p : Pt) (h : p.kind = 0) : VI w lo hi p .nilIface
  | truth (p : Pt) (h : p.kind = 1) : VI w lo hi p (.iface 140 (.agg #[.bool p.yes]))
  | whole (p : Pt) (h : p.kind = 2) : VI w lo hi p (.iface 142 (.agg #[.bool p.neg, .string p.mag]))
  | row (p : Pt) (h0 : p.kind ≠ 0) (h1 : p.kind ≠ 1) (h2 : p.kind ≠ 2) (h7 : p.kind ≠ 7) : VI w lo hi p (.iface 147 (.agg #[.int .u8 p.kind, .string p.raw]))
  | tuple (p : Pt) (h : p.kind = 7) (a : Option Addr) (cap : Nat) (F : Nat → Value) (hc : p.items.length ≤ cap)
      (cells : ∀ j, j < p.items.length → ∃ g, a = some ⟨g, 0, none⟩ ∧ lo ≤ g ∧ g < hi ∧ w.cell? ⟨g, j, none⟩ = some (F j))
      (deep : ∀ j (h : j < p.items.length), VI w lo hi p.items[j] (F j)) : VI w lo hi p (.iface 145 (.agg #[.slice a p.items.length cap]))
theorem VI.same {lo hi : Nat} {w w' : World} {p : Pt} {v : Value} (h : VI w lo hi p v) (hs : Same lo hi w w') : VI w' lo hi p v := by
  induction h with
  | null p h => exact .null p h
  | truth p h => exact .truth p h
  | whole p h => exact .whole p h
  | row p h0 h1 h2 h7 => exact .row p h0 h1 h2 h7
  | tuple p h a cap F hc cells deep ih =>
    exact .tuple p h a cap F hc (fun j hj => by
      obtain ⟨g, ha, h1, h2, h3⟩ := cells j hj
      exact ⟨g, ha, h1, h2, hs.cell h1 h2 h3⟩) ih
theorem VI.wide {lo hi lo' hi' : Nat} {w : World} {p : Pt} {v : Value} (h : VI w lo hi p v) (h1 : lo' ≤ lo) (h2 : hi ≤ hi') : VI w lo' hi' p v := by
  induction h with
  | null p h => exact .null p h
  | truth p h => exact .truth p h
  | whole p h => exact .whole p h
  | row p h0 h1 h2 h7 => exact .row p h0 h1 h2 h7
  | tuple p h a cap F hc cells deep ih =>
    exact .tuple p h a cap F hc (fun j hj => by
      obtain ⟨g, ha, h3, h4, h5⟩ := cells j hj
      exact ⟨g, ha, by omega, by omega, h5⟩) ih
end Go.Proofs.YtcgphlilijeifaaDoor.V
