/-
  Each call of the layer and the document's: both tell one thing.
-/
import Derived.Test.YtcgphlilijeifaaDoorRefPrint
import Derived.Test.YtcgphlilijeifaaDoorRefTakeB
import Derived.Test.YtcgphlilijeifaaDoorRefSmall
import Derived.Test.YtcgphlilijeifaaDoorRefPut
import Derived.Test.YtcgphlilijeifaaDoorNatReadsW
import Derived.Test.YtcgphlilijeifaaDoorNatSmallW
import Derived.Deep.RegionHeld3
namespace Go.Proofs.YtcgphlilijeifaaDoor
open Go.RowKit

/-- Both functions return the value v, and leave all that was. -/
def Both (f g : Nat) (args : Array Value) (v : Value) : Prop :=
  (∀ w : World, Calls Tryd.prog f args w fun e w' => e = .returned v ∧ Below w.heap.size w w') ∧ ∀ w : World, Calls Tryd.prog g args w fun e w' => e = .returned v ∧ Below w.heap.size w w'

theorem both_check (b : Bool) (s : ByteArray) (hs : s.size ≤ 9223372036854775807) : ∃ r : Int, Both 22 64 #[.agg #[.bool b, .string s]] (.int .i64 r) :=
  ⟨_, fun w => check_any b s w hs _ rfl, fun w => rcheck_any b s w hs _ rfl⟩
theorem both_of (i : Int) (h0 : -9223372036854775808 ≤ i) (h1 : i ≤ 9223372036854775807) : ∃ (b : Bool) (p : ByteArray), Both 31 65 #[.int .i64 i] (.agg #[.bool b, .string p]) := by
  refine ⟨decide (i < 0), ⟨(mag8 i.natAbs).toArray⟩, fun w => ?_, fun w => ?_⟩
  · refine (of_any i w h0 h1 _ rfl).mono ?_
    rintro e w' ⟨q, rfl, hq, hb⟩
    rw [of_list hq.out]
    exact ⟨rfl, hb⟩
  · refine (rof_any i w h0 h1 _ rfl).mono ?_
    rintro e w' ⟨q, rfl, hq, hb⟩
    rw [of_list hq.out]
    exact ⟨rfl, hb⟩
theorem both_small (b : Bool) (s : ByteArray) (hs : s.size ≤ 9223372036854775807) : ∃ (x : Int) (y : Bool), Both 32 66 #[.agg #[.bool b, .string s]] (.tuple #[.int .i64 x, .bool y]) :=
  ⟨_, _, fun w => small_any b s w hs _ rfl, fun w => rsmall_any b s w hs _ rfl⟩
theorem both_compare (x : Bool) (a : ByteArray) (y : Bool) (b : ByteArray) (ha : a.size ≤ 9223372036854775807) (hb : b.size ≤ 9223372036854775807) :
    ∃ (c r : Int), Both 29 67 #[.agg #[.bool x, .string a], .agg #[.bool y, .string b]] (.tuple #[.int .i64 c, .int .i64 r]) := by
  by_cases h1 : chk x a.toList = 0
  · by_cases h2 : chk y b.toList = 0
    · exact ⟨_, _, fun w => compare_ok x a y b w h1 h2 _ rfl, fun w => rcompare_ok x a y b w ha hb h1 h2 _ rfl⟩
    · exact ⟨_, _, fun w => compare_bad x a y b w ha hb _ (.inr ⟨h1, rfl, h2⟩), fun w => rcompare_bad2 x a y b w ha hb h1 _ rfl h2⟩
  · exact ⟨_, _, fun w => compare_bad x a y b w ha hb _ (.inl ⟨rfl, h1⟩), fun w => rcompare_bad1 x a y b w ha _ rfl h1⟩
theorem both_parse (s : ByteArray) (hs : s.size ≤ 9223372036854775807) : ∃ (b : Bool) (p : ByteArray) (r : Int), Both 26 68 #[.string s] (.tuple #[.agg #[.bool b, .string p], .int .i64 r]) := by
  refine ⟨parseE s.toList == 0 && neg s.toList, ⟨(if parseE s.toList = 0 then magN (dv (ds s.toList)) else []).toArray⟩, parseE s.toList, fun w => ?_, fun w => ?_⟩
  · refine (parse_any s w hs).mono ?_
    rintro e w' ⟨q, rfl, hq, hb⟩
    rw [of_list hq.out]
    exact ⟨rfl, hb⟩
  · refine (rparse_any s w hs).mono ?_
    rintro e w' ⟨q, rfl, hq, hb⟩
    rw [of_list hq.out]
    exact ⟨rfl, hb⟩
theorem both_print (b : Bool) (s : ByteArray) (hs : s.size ≤ 9223372036854775807) : ∃ (p : ByteArray) (r : Int), Both 24 69 #[.agg #[.bool b, .string s]] (.tuple #[.string p, .int .i64 r]) := by
  by_cases h : chk b s.toList = 0
  · refine ⟨⟨(digitsOf b s.toList).toArray⟩, 0, fun w => ?_, fun w => ?_⟩
    · refine (print_ok b s w h).mono ?_
      rintro e w' ⟨q, rfl, hq, hb⟩
      rw [of_list hq.out]
      exact ⟨rfl, hb⟩
    · refine (rprint_ok b s w h).mono ?_
      rintro e w' ⟨q, rfl, hq, hb⟩
      rw [of_list hq.out]
      exact ⟨rfl, hb⟩
  · have h1 : (chk b s.toList != 0) = true := by simpa using h
    exact ⟨_, _, fun w => print_bad b s w hs _ rfl h1, fun w => rprint_bad b s w hs _ rfl h1⟩
theorem both_put (b : Bool) (s : ByteArray) (hs : s.size ≤ 9223372036854775807) : ∃ (p : ByteArray) (r : Int), Both 23 70 #[.agg #[.bool b, .string s]] (.tuple #[.string p, .int .i64 r]) := by
  by_cases h : chk b s.toList = 0
  · refine ⟨⟨(putBytes b s.toList).toArray⟩, 0, fun w => ?_, fun w => ?_⟩
    · refine (put_ok b s w h).mono ?_
      rintro e w' ⟨q, rfl, hq, hb⟩
      rw [of_list hq.out]
      exact ⟨rfl, hb⟩
    · refine (rput_ok b s w h).mono ?_
      rintro e w' ⟨q, rfl, hq, hb⟩
      rw [of_list hq.out]
      exact ⟨rfl, hb⟩
  · have h1 : (chk b s.toList != 0) = true := by simpa using h
    have h2 : (chk b s.toList == 0) = false := by simpa using h
    exact ⟨_, _, fun w => put_bad b s w hs _ rfl h2 h1, fun w => rput_bad b s w hs _ rfl h⟩
theorem both_take (s : ByteArray) (i : Int) (hs : s.size ≤ 9223372036854775807) : ∃ (b : Bool) (p : ByteArray) (x r : Int), Both 25 71 #[.string s, .int .i64 i] (.tuple #[.agg #[.bool b, .string p], .int .i64 x, .int .i64 r]) := by
  by_cases h : i < 0 ∨ (s.size : Int) < i
  · exact ⟨_, _, _, _, fun w => take_no s i w hs h, fun w => rtake_no s i w hs h⟩
  · obtain ⟨a, rfl⟩ := Int.eq_ofNat_of_zero_le (show 0 ≤ i by omega)
    have ha : a ≤ s.size := by omega
    have T1 := fun w => take_at s a w hs ha
    have T2 := fun w => rtake_at s a w hs ha
    cases hE : takeE s.toList a with
    | error p =>
      refine ⟨false, ⟨#[]⟩, p, 20, fun w => ?_, fun w => ?_⟩
      · refine (T1 w).mono fun e w' h => ?_
        unfold TakePost at h
        rw [hE] at h
        exact h
      · refine (T2 w).mono fun e w' h => ?_
        unfold TakePost at h
        rw [hE] at h
        exact h
    | ok v =>
      obtain ⟨below, m, f⟩ := v
      refine ⟨below, ⟨m.toArray⟩, f, 0, fun w => ?_, fun w => ?_⟩
      · refine (T1 w).mono fun e w' h => ?_
        unfold TakePost at h
        rw [hE] at h
        obtain ⟨q, rfl, hq, hb⟩ := h
        rw [of_list hq.out]
        exact ⟨rfl, hb⟩
      · refine (T2 w).mono fun e w' h => ?_
        unfold TakePost at h
        rw [hE] at h
        obtain ⟨q, rfl, hq, hb⟩ := h
        rw [of_list hq.out]
        exact ⟨rfl, hb⟩
end Go.Proofs.YtcgphlilijeifaaDoor
