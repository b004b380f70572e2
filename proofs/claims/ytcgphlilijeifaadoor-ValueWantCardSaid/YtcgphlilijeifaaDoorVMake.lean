/-
  The program's Make: its contract.
-/
import Derived.Test.YtcgphlilijeifaaDoorVMade
namespace Go.Proofs.YtcgphlilijeifaaDoor.V
open Go.RowKit

theorem makeE_ok {p : Pt} (h : makeE p = 0) : deepB 16 p = false ∧ mayB p = true := by
  unfold makeE at h
  cases hd : deepB 16 p with
  | true => rw [hd] at h; simp at h
  | false =>
    rw [hd] at h
    cases hm : mayB p with
    | true => exact ⟨rfl, rfl⟩
    | false => rw [hm] at h; simp at h
theorem makeE_depth {p : Pt} (h : makeE p = 0) : depthP p ≤ 16 := by
  have h1 := (makeE_ok h).1
  have h2 := deepB_iff 16 p
  rcases Nat.lt_or_ge 16 (depthP p) with h3 | h3
  · rw [h2.2 h3] at h1; cases h1
  · exact h3
theorem makeE_three (p : Pt) : makeE p = 0 ∨ makeE p = 90 ∨ makeE p = 91 := by
  unfold makeE
  split
  · exact .inr (.inr rfl)
  · split
    · exact .inl rfl
    · exact .inr (.inl rfl)

/-- A part's box. -/
structure Box (w : World) (g : Nat) (p : Pt) (v : Value) : Prop where
  lt : g < w.heap.size
  cells : PartCells w g 0 p v
theorem Box.new (w : World) (p : Pt) (v : Value) (T : TypeId) : Box (w.alloc (.cells #[.int .u8 p.kind, .bool p.yes, .bool p.neg, .string p.mag, .string p.raw, v] T)) w.heap.size p v :=
  ⟨by simp, by constructor <;> simp⟩
theorem Box.later {w w1 : World} {g B : Nat} {p : Pt} {v : Value} (h : Box w g p v) (hb : Below B w w1) (hB : g < B) : Box w1 g p v :=
  ⟨Nat.lt_of_lt_of_le h.lt hb.size, h.cells.same (Same.of_below hb (Nat.le_refl _)) (Nat.zero_le _) hB⟩

def MakePost (p : Pt) (w : World) (e : Ending) (w' : World) : Prop := ∃ u, e = .returned (.tuple #[u, .int .i64 (makeE p)]) ∧ (makeE p ≠ 0 → u = .nilIface) ∧ (makeE p = 0 → VI w' w.heap.size w'.heap.size p u) ∧ Below w.heap.size w w'
set_option maxHeartbeats 1000000 in
theorem make_any (p : Pt) (v : Value) (w : World) (hf : Fit p) (hp : PI w 0 w.heap.size p.items v) :
    Calls Tryd.prog 16 #[.agg #[.int .u8 p.kind, .bool p.yes, .bool p.neg, .string p.mag, .string p.raw, v]] w (MakePost p w) := by
  have hp0 := Lib.hid hp
  obtain ⟨a, cap, rfl, _, _⟩ := hp.open
  have hbx := Lib.hid (Box.new w p (.slice a p.items.length cap) 27)
  clear hp
  go_enter Tryd.func16, Tryd.ntmps16
  go_wp2_with fail
  refine (deep_any 16 p _ _ (by omega) hf (hp0.out.later ((Below.refl _ _).alloc (Nat.le_refl _) _))).mono ?_
  rintro e w1 ⟨rfl, hb1⟩
  have hB1 : Below w.heap.size w w1 := ((Below.refl _ _).alloc (Nat.le_refl _) _).trans (hb1.mono (by simp))
  have HX1 := Lib.hid (hbx.out.later hb1 (by simp))
  obtain ⟨_, ⟨c0, c1, c2, c3, c4, c5⟩⟩ := HX1.out
  clear hb1 hbx
  cases hd : deepB 16 p with
  | true =>
    have HM := Lib.hid (show makeE p = 91 by simp [makeE, hd])
    clear hd
    go_wp2_with fail
    go_ret2
    exact ⟨.nilIface, by rw [HM.out]; rfl, fun _ => rfl, (fun h => by rw [HM.out] at h; cases h), hB1⟩
  | false =>
    have hm0 : makeE p = if mayB p then 0 else 90 := by simp [makeE, hd]
    clear hd
    go_wp2_with fail
    refine (may_any p _ _ hf (hp0.out.later hB1)).mono ?_
    rintro e w2 ⟨rfl, hb2⟩
    have hB2 := two hB1 hb2
    have HX2 := Lib.hid (HX1.out.later hb2 HX1.out.lt)
    clear c0 c1 c2 c3 c4 c5
    obtain ⟨_, ⟨c0, c1, c2, c3, c4, c5⟩⟩ := HX2.out
    cases hd : mayB p with
    | true =>
      have HM := Lib.hid (show makeE p = 0 by rw [hm0, hd]; rfl)
      have HY := Lib.hid hd
      clear hd hm0
      go_wp2_with fail
      refine (made_any p _ _ HY.out hf (hp0.out.later hB2)).mono ?_
      rintro e w3 ⟨u, rfl, hu, hb3⟩
      have HU := Lib.hid hu
      have hz : w.heap.size ≤ w2.heap.size := hB2.size
      clear hu
      go_wp2_with fail
      go_ret2
      exact ⟨u, by rw [HM.out]; rfl, fun h => absurd HM.out h, fun _ => HU.out.wide hz (Nat.le_refl _), two hB2 hb3⟩
    | false =>
      have HM := Lib.hid (show makeE p = 90 by rw [hm0, hd]; rfl)
      clear hd hm0
      go_wp2_with fail
      go_ret2
      exact ⟨.nilIface, by rw [HM.out]; rfl, fun _ => rfl, (fun h => by rw [HM.out] at h; cases h), hB2⟩
end Go.Proofs.YtcgphlilijeifaaDoor.V
