import Derived.Test.YtcgphlilijeifaaDoorLitPrintsG12
import Derived.Test.YtcgphlilijeifaaDoorLitPrintsG1
import Derived.Test.YtcgphlilijeifaaDoorLitPrintsG8
/-
  The contracts of nat.order and nat.Compare.
-/
namespace Go.Proofs.YtcgphlilijeifaaDoor
open Go.RowKit

theorem cmpString_any (a b : ByteArray) (w : World) (r : Int) (hr : cmp a.toList b.toList = r) :
    Calls Tryd.prog 103 #[.string a, .string b] w fun e w' => e = .returned (.int .i64 r) ∧ Below w.heap.size w w' := by
  have hl := less_iff a.toList b.toList
  have he := eq_iff a.toList b.toList
  rw [hr] at hl he
  rcases cmp_three a.toList b.toList with h | h | h <;> rw [h] at hr <;> subst hr
  · have hl' : Op.bytesLess a.toList b.toList = true := by rw [hl]; rfl
    clear hl he h
    go_enter Tryd.func103, Tryd.ntmps103
    go_wp2
    go_ret
    exact ⟨rfl, Below.refl _ _⟩
  · have hl' : Op.bytesLess a.toList b.toList = false := by rw [hl]; rfl
    have he' : (a.toList == b.toList) = true := by rw [he]; rfl
    clear hl he h
    go_enter Tryd.func103, Tryd.ntmps103
    go_wp2
    go_ret
    exact ⟨rfl, Below.refl _ _⟩
  · have hl' : Op.bytesLess a.toList b.toList = false := by rw [hl]; rfl
    have he' : (a.toList == b.toList) = false := by rw [he]; rfl
    clear hl he h
    go_enter Tryd.func103, Tryd.ntmps103
    go_wp2
    go_ret
    exact ⟨rfl, Below.refl _ _⟩

theorem order_any (a b : ByteArray) (w : World) (_ha : a.size ≤ 9223372036854775807) (_hb : b.size ≤ 9223372036854775807) (r : Int) (hr : mcmp a.toList b.toList = r) :
    Calls Tryd.prog 72 #[.string a, .string b] w fun e w' => e = .returned (.int .i64 r) ∧ Below w.heap.size w w' := by
  by_cases h1 : a.size < b.size
  · have : r = -1 := by rw [← hr]; unfold mcmp; rw [if_pos (by rw [size_of, size_of]; exact h1)]
    subst this
    clear hr
    go_enter Tryd.func72, Tryd.ntmps72
    go_wp2
    go_ret
    exact ⟨rfl, Below.refl _ _⟩
  · by_cases h2 : b.size < a.size
    · have : r = 1 := by rw [← hr]; unfold mcmp; rw [if_neg (by rw [size_of, size_of]; exact h1), if_pos (by rw [size_of, size_of]; exact h2)]
      subst this
      clear hr
      go_enter Tryd.func72, Tryd.ntmps72
      go_wp2
      go_ret
      exact ⟨rfl, Below.refl _ _⟩
    · have HR := Lib.hid (show cmp a.toList b.toList = r by rw [← hr]; unfold mcmp; rw [if_neg (by rw [size_of, size_of]; exact h1), if_neg (by rw [size_of, size_of]; exact h2)])
      clear hr
      go_enter Tryd.func72, Tryd.ntmps72
      go_wp2_with (first | (go_at_call 103; refine (cmpString_any _ _ _ r HR.out).mono ?_; rintro e w1 ⟨rfl, hb1⟩) | go_in)
      go_ret
      exact ⟨rfl, hb1⟩

/-- What lay there lies there still. -/
theorem keep {W w1 : World} (hb : Below W.heap.size W w1) {p : Addr} {v : Value} (h : W.cell? p = some v) : w1.cell? p = some v := (hb.cell (World.block_lt_of_cell? W p h)).trans h
theorem num2_cells {w w1 : World} {x y : Bool} {a b : ByteArray} {T : TypeId}
    (hb : Below ((w.alloc (.cells #[.bool x, .string a] T)).alloc (.cells #[.bool y, .string b] T)).heap.size ((w.alloc (.cells #[.bool x, .string a] T)).alloc (.cells #[.bool y, .string b] T)) w1) :
    w1.cell? ⟨w.heap.size, 0, none⟩ = some (.bool x) ∧ w1.cell? ⟨w.heap.size, 1, none⟩ = some (.string a) ∧ w1.cell? ⟨w.heap.size + 1, 0, none⟩ = some (.bool y) ∧ w1.cell? ⟨w.heap.size + 1, 1, none⟩ = some (.string b) ∧
      w.heap.size + 1 < w1.heap.size ∧ Below w.heap.size w w1 :=
  ⟨keep hb (by simp), keep hb (by simp), keep hb (by simp), keep hb (by simp), by have := hb.size; simp at this; omega,
    (((Below.refl _ _).alloc (Nat.le_refl _) _).alloc (by simp) _).trans (hb.mono (by simp; omega))⟩

/-- Two numbers that may be. -/
theorem compare_ok (x : Bool) (a : ByteArray) (y : Bool) (b : ByteArray) (w : World) (ha : chk x a.toList = 0) (hb : chk y b.toList = 0) (r : Int) (hr : ncmp x a.toList y b.toList = r) :
    Calls Tryd.prog 29 #[.agg #[.bool x, .string a], .agg #[.bool y, .string b]] w fun e w' => e = .returned (.tuple #[.int .i64 r, .int .i64 0]) ∧ Below w.heap.size w w' := by
  have la := (chk_zero_iff.1 ha).1
  have lb := (chk_zero_iff.1 hb).1
  rw [size_of] at la lb
  have HA := Lib.hid ha
  have HB := Lib.hid hb
  clear ha hb
  cases x <;> cases y
  all_goals
    simp only [ncmp, if_true, if_false, Bool.false_eq_true] at hr
    have HR := Lib.hid hr
    clear hr
    go_enter Tryd.func29, Tryd.ntmps29
    go_wp2_with fail
    refine (check_any _ a _ (by omega) 0 HA.out).mono ?_
    rintro e w1 ⟨rfl, hb1⟩
    obtain ⟨c0, c1, c2, c3, hz, hbw⟩ := num2_cells hb1
    go_wp2_with fail
    refine (check_any _ b _ (by omega) 0 HB.out).mono ?_
    rintro e w2 ⟨rfl, hb2⟩
    have d0 := keep hb2 c0
    have d1 := keep hb2 c1
    have d2 := keep hb2 c2
    have d3 := keep hb2 c3
    have hz2 : w.heap.size + 1 < w2.heap.size := by have := hb2.size; omega
    clear c0 c1 c2 c3
    go_wp2_with (go_at_call 72; refine (order_any _ _ _ (by omega) (by omega) r HR.out).mono ?_; rintro e w3 ⟨rfl, hb3⟩)
    go_ret2
    first | exact ⟨rfl, two (two hbw hb2) hb3⟩ | (subst hr; exact ⟨rfl, two hbw hb2⟩) | (have h := HR.out; subst h; exact ⟨rfl, two hbw hb2⟩)

theorem compare_bad (x : Bool) (a : ByteArray) (y : Bool) (b : ByteArray) (w : World) (ha : a.size ≤ 9223372036854775807) (hb : b.size ≤ 9223372036854775807) (r : Int)
    (hr : (chk x a.toList = r ∧ r ≠ 0) ∨ (chk x a.toList = 0 ∧ chk y b.toList = r ∧ r ≠ 0)) :
    Calls Tryd.prog 29 #[.agg #[.bool x, .string a], .agg #[.bool y, .string b]] w fun e w' => e = .returned (.tuple #[.int .i64 0, .int .i64 r]) ∧ Below w.heap.size w w' := by
  rcases hr with ⟨h1, h2⟩ | ⟨h0, h1, h2⟩
  · have f : (r != 0) = true := by simpa using h2
    have HA := Lib.hid h1
    clear h1 h2
    go_enter Tryd.func29, Tryd.ntmps29
    go_wp2_with fail
    refine (check_any _ a _ (by omega) r HA.out).mono ?_
    rintro e w1 ⟨rfl, hb1⟩
    obtain ⟨_, _, _, _, _, hbw⟩ := num2_cells hb1
    go_wp2
    go_ret2
    exact ⟨rfl, hbw⟩
  · have f : (r != 0) = true := by simpa using h2
    have HA := Lib.hid h0
    have HB := Lib.hid h1
    clear h0 h1 h2
    go_enter Tryd.func29, Tryd.ntmps29
    go_wp2_with fail
    refine (check_any _ a _ (by omega) 0 HA.out).mono ?_
    rintro e w1 ⟨rfl, hb1⟩
    obtain ⟨c0, c1, c2, c3, hz, hbw⟩ := num2_cells hb1
    go_wp2_with fail
    refine (check_any _ b _ (by omega) r HB.out).mono ?_
    rintro e w2 ⟨rfl, hb2⟩
    go_wp2
    go_ret2
    exact ⟨rfl, two hbw hb2⟩
end Go.Proofs.YtcgphlilijeifaaDoor
