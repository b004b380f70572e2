/-
  Lists of parts in memory of their own: each in a block of its own, apart from all others.
-/
import Derived.Test.YtcgphlilijeifaaDoorVMake
namespace Go.Proofs.YtcgphlilijeifaaDoor.V
open Go.RowKit

/-- A part that marks the room behind a list. -/
structure MarkCells (w : World) (b o : Nat) : Prop where
  c0 : w.cell? ⟨b, o, none⟩ = some (.int .u8 99)
  c1 : w.cell? ⟨b, o + 1, none⟩ = some (.bool false)
  c2 : w.cell? ⟨b, o + 2, none⟩ = some (.bool false)
  c3 : w.cell? ⟨b, o + 3, none⟩ = some (.string ⟨#[]⟩)
  c4 : w.cell? ⟨b, o + 4, none⟩ = some (.string ⟨#[109, 97, 114, 107]⟩)
  c5 : w.cell? ⟨b, o + 5, none⟩ = some (.slice none 0 0)
theorem MarkCells.same {lo hi b o : Nat} {w w' : World} (h : MarkCells w b o) (hs : Same lo hi w w') (h1 : lo ≤ b) (h2 : b < hi) : MarkCells w' b o :=
  ⟨hs.cell h1 h2 h.c0, hs.cell h1 h2 h.c1, hs.cell h1 h2 h.c2, hs.cell h1 h2 h.c3, hs.cell h1 h2 h.c4, hs.cell h1 h2 h.c5⟩

/-- The list lies in the blocks from lo up to hi, each list in a block of its own; m: with two marks behind each. -/
inductive OwnI (w : World) (m : Bool) : Nat → Nat → List Pt → Value → Prop
  | nil (lo hi : Nat) (hm : m = false) : OwnI w m lo hi [] (.slice none 0 0)
  | row (lo hi : Nat) (l : List Pt) (g cap : Nat) (cur : Array Value) (F : Nat → Value) (L H : Nat → Nat) (h1 : lo ≤ g) (h2 : g < hi) (blk : w.heap[g]? = some (.cells cur 27 (0, 0))) (hcap : l.length ≤ cap)
      (hsz : cur.size = cap * 6) (hmax : cap ≤ maxLen) (cells : ∀ j (h : j < l.length), PartCells w g (j * 6) l[j] (F j)) (fits : ∀ j (h : j < l.length), Fit l[j])
      (rng : ∀ j, j < l.length → lo ≤ L j ∧ L j ≤ H j ∧ H j ≤ hi ∧ ¬ (L j ≤ g ∧ g < H j)) (apart : ∀ i j, i < j → j < l.length → H i ≤ L j)
      (room : m = true → cap = l.length + 2 ∧ MarkCells w g (l.length * 6) ∧ MarkCells w g (l.length * 6 + 6))
      (deep : ∀ j (h : j < l.length), OwnI w m (L j) (H j) l[j].items (F j)) : OwnI w m lo hi l (.slice (some ⟨g, 0, none⟩) l.length cap)
theorem OwnI.same {m : Bool} {lo hi : Nat} {w w' : World} {l : List Pt} {v : Value} (h : OwnI w m lo hi l v) (hs : Same lo hi w w') : OwnI w' m lo hi l v := by
  induction h with
  | nil lo hi hm => exact .nil lo hi hm
  | row lo hi l g cap cur F L H h1 h2 blk hcap hsz hmax cells fits rng apart room deep ih =>
    exact .row lo hi l g cap cur F L H h1 h2 ((hs g h1 h2).trans blk) hcap hsz hmax (fun j hj => (cells j hj).same hs h1 h2) fits rng apart
      (fun hm => ⟨(room hm).1, (room hm).2.1.same hs h1 h2, (room hm).2.2.same hs h1 h2⟩) (fun j hj => ih j hj (hs.mono (rng j hj).1 (rng j hj).2.2.1))
theorem OwnI.wide {m : Bool} {lo hi lo' hi' : Nat} {w : World} {l : List Pt} {v : Value} (h : OwnI w m lo hi l v) (a : lo' ≤ lo) (b : hi ≤ hi') : OwnI w m lo' hi' l v := by
  cases h with
  | nil _ _ hm => exact .nil lo' hi' hm
  | row _ _ _ g cap cur F L H h1 h2 blk hcap hsz hmax cells fits rng apart room deep =>
    exact .row lo' hi' l g cap cur F L H (by omega) (by omega) blk hcap hsz hmax cells fits (fun j hj => by obtain ⟨r1, r2, r3, r4⟩ := rng j hj; exact ⟨by omega, r2, by omega, r4⟩) apart room deep
theorem OwnI.reads {m : Bool} {lo hi : Nat} {w : World} {l : List Pt} {v : Value} (h : OwnI w m lo hi l v) : PI w lo hi l v := by
  induction h with
  | nil lo hi hm => exact PI.nil _ _ _
  | row lo hi l g cap cur F L H h1 h2 blk hcap hsz hmax cells fits rng apart room deep ih =>
    exact .mk l _ cap F hcap (fun j hj => ⟨g, 0, rfl, h1, h2, by rw [Nat.zero_add]; exact cells j hj⟩) fits (fun j hj => (ih j hj).wide (rng j hj).1 (rng j hj).2.2.1)

/-- The cells of parts, one behind the other. -/
def flat (ps : List (Pt × Value)) : List Value := ps.flatMap fun x => (cellsOf x.1 x.2).toList
theorem flat_length (ps : List (Pt × Value)) : (flat ps).length = ps.length * 6 := by
  induction ps with
  | nil => rfl
  | cons x r ih => simp only [flat, List.flatMap_cons, List.length_append, List.length_cons] at ih ⊢; rw [ih]; simp [cellsOf]; omega
theorem flat_snoc (ps : List (Pt × Value)) (x : Pt × Value) : flat (ps ++ [x]) = flat ps ++ (cellsOf x.1 x.2).toList := by simp [flat]
theorem flat_get (ps : List (Pt × Value)) (j c : Nat) (hc : c < 6) (h : j < ps.length) : (flat ps)[j * 6 + c]? = (cellsOf ps[j].1 ps[j].2)[c]? := by
  induction ps generalizing j with
  | nil => cases h
  | cons x r ih =>
    have e : flat (x :: r) = (cellsOf x.1 x.2).toList ++ flat r := by simp [flat]
    rw [e]
    cases j with
    | zero =>
      rw [Nat.zero_mul, Nat.zero_add, List.getElem?_append_left (by simpa [cellsOf] using hc)]
      simp
    | succ j =>
      rw [List.getElem?_append_right (by simp [cellsOf]; omega)]
      have e2 : (j + 1) * 6 + c - (cellsOf x.1 x.2).toList.length = j * 6 + c := by simp [cellsOf]; omega
      rw [e2]
      exact ih j (by simpa using h)
/-- What such a row holds. -/
theorem flat_cells {w : World} {base g cap n : Nat} {ps : List (Pt × Value)} (h : w.ownsRow base 27 6 (.slice (some ⟨g, 0, none⟩) n cap) n (flat ps)) (j : Nat) (hj : j < ps.length) : PartCells w g (j * 6) ps[j].1 ps[j].2 := by
  have key : ∀ c, c < 6 → w.cell? ⟨g, j * 6 + c, none⟩ = (cellsOf ps[j].1 ps[j].2)[c]? := fun c hc => by
    have e := flat_get ps j c hc hj
    have e3 : (cellsOf ps[j].1 ps[j].2)[c]? = some ((cellsOf ps[j].1 ps[j].2)[c]'(by simpa [cellsOf] using hc)) := Array.getElem?_eq_getElem _
    rw [e3] at e ⊢
    have := World.ownsRow.cells h (g := g) rfl (j * 6 + c) _ e
    have e2 : (⟨g, 0, none⟩ : Addr).add (j * 6 + c) = ⟨g, j * 6 + c, none⟩ := by unfold Addr.add; split <;> simp_all
    rw [e2] at this
    exact this
  exact ⟨key 0 (by decide), key 1 (by decide), key 2 (by decide), key 3 (by decide), key 4 (by decide), key 5 (by decide)⟩
end Go.Proofs.YtcgphlilijeifaaDoor.V
