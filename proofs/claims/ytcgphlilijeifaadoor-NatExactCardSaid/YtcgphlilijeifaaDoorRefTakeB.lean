/-
  The document's Take: its contract at every place; what it says of the ways without a loop.
-/
import Derived.Test.YtcgphlilijeifaaDoorRefTake
namespace Go.Proofs.YtcgphlilijeifaaDoor
open Go.RowKit

set_option maxRecDepth 100000 in
theorem rtake_no (s : ByteArray) (i : Int) (w : World) (_hs : s.size ≤ 9223372036854775807) (h : i < 0 ∨ (s.size : Int) < i) :
    Calls Tryd.prog 71 #[.string s, .int .i64 i] w fun e w' => e = .returned (.tuple #[.agg #[.bool false, .string ⟨#[]⟩], .int .i64 0, .int .i64 1]) ∧ Below w.heap.size w w' := by
  rcases (show i < 0 ∨ (¬ i < 0 ∧ (s.size : Int) < i) by omega) with h0 | ⟨h0, h1⟩
  · have q : decide (i < (0 : Int)) = true := by simpa using h0
    go_enter Tryd.func71, Tryd.ntmps71
    go_wp2
    exact bodyPost_ret (v := .tuple #[.agg #[.bool false, .string ⟨#[]⟩], .int .i64 0, .int .i64 1]) (by simp [results, Tryd.results71, go_sem]) rfl ⟨rfl, (Below.refl _ _).alloc (Nat.le_refl _) _⟩
  · have q : decide (i < (0 : Int)) = false := by simpa using h0
    have q2 : decide ((s.size : Int) < i) = true := by simpa using h1
    go_enter Tryd.func71, Tryd.ntmps71
    go_wp2
    exact bodyPost_ret (v := .tuple #[.agg #[.bool false, .string ⟨#[]⟩], .int .i64 0, .int .i64 1]) (by simp [results, Tryd.results71, go_sem]) rfl ⟨rfl, (Below.refl _ _).alloc (Nat.le_refl _) _⟩

set_option maxRecDepth 100000 in
theorem rtake_end (s : ByteArray) (a : Nat) (w : World) (_hs : s.size ≤ 9223372036854775807) (ha : a = s.size) : Calls Tryd.prog 71 #[.string s, .int .i64 a] w (TakePost s a w) := by
  have HZ := Lib.hid (takeE_size (l := s.toList) (a := a) (p := a) (by simp [sizeE, ha, ← size_of]))
  have q0 : decide ((a : Int) < (0 : Int)) = false := by simp
  have q1 : decide (s.size < a) = false := by simp; omega
  have q2 : ((a : Int) == (s.size : Int)) = true := by simp; omega
  clear ha
  go_enter Tryd.func71, Tryd.ntmps71
  go_wp2
  exact bodyPost_ret (v := .tuple #[.agg #[.bool false, .string ⟨#[]⟩], .int .i64 a, .int .i64 20]) (by simp [results, Tryd.results71, go_sem]) rfl (take_post_bad HZ.out rfl ((Below.refl _ _).alloc (Nat.le_refl _) _))

set_option maxRecDepth 100000 in
theorem rtake_zero (s : ByteArray) (a : Nat) (w : World) (_hs : s.size ≤ 9223372036854775807) (ha : a < s.size) (h1 : s[a].toNat = 0) : Calls Tryd.prog 71 #[.string s, .int .i64 a] w (TakePost s a w) := by
  have HZ := Lib.hid (takeE_size (l := s.toList) (a := a) (p := a) (by simp [sizeE, at_some s a ha, h1]))
  have hc := s[a].toNat_lt
  have q0 : decide ((a : Int) < (0 : Int)) = false := by simp
  have q1 : decide (s.size < a) = false := by simp; omega
  have q2 : ((a : Int) == (s.size : Int)) = false := by simp; omega
  have q3 : ((s[a].toNat : Int) == 0) = true := by simp; omega
  clear h1
  go_enter Tryd.func71, Tryd.ntmps71
  go_wp2
  exact bodyPost_ret (v := .tuple #[.agg #[.bool false, .string ⟨#[]⟩], .int .i64 a, .int .i64 20]) (by simp [results, Tryd.results71, go_sem]) rfl (take_post_bad HZ.out rfl ((Below.refl _ _).alloc (Nat.le_refl _) _))

set_option maxRecDepth 100000 in
theorem rtake_longp_end (s : ByteArray) (a : Nat) (w : World) (_hs : s.size ≤ 9223372036854775807) (ha : a < s.size) (h1 : s[a].toNat = 255) (hl : a + 1 = s.size) : Calls Tryd.prog 71 #[.string s, .int .i64 a] w (TakePost s a w) := by
  have HZ := Lib.hid (takeE_size (l := s.toList) (a := a) (p := s.size) (by simp [sizeE, at_some s a ha, h1, hl, ← size_of]))
  have hc := s[a].toNat_lt
  have q0 : decide ((a : Int) < (0 : Int)) = false := by simp
  have q1 : decide (s.size < a) = false := by simp; omega
  have q2 : ((a : Int) == (s.size : Int)) = false := by simp; omega
  have q3 : ((s[a].toNat : Int) == 0) = false := by simp; omega
  have q4 : ((s[a].toNat : Int) == 255) = true := by simp; omega
  have q5 : ((s[a].toNat : Int) == 1) = false := by simp; omega
  have q6 : decide ((s[a].toNat : Int) < 128) = false := by simp; omega
  have q8 : decide ((s[a].toNat : Int) - 128 < 0) = false := by simp; omega
  have q7 : ((a : Int) + 1 == (s.size : Int)) = true := by simp; omega
  have hle : a + 1 ≤ s.size := Nat.le_of_eq hl
  have hge := Nat.le_of_eq hl.symm
  clear hl
  have HC := Lib.hid h1
  clear h1
  go_enter Tryd.func71, Tryd.ntmps71
  go_wp2
  exact bodyPost_ret (v := .tuple #[.agg #[.bool false, .string ⟨#[]⟩], .int .i64 ((a : Int) + 1), .int .i64 20]) (by simp [results, Tryd.results71, go_sem]) rfl (take_post_bad HZ.out (by omega) ((Below.refl _ _).alloc (Nat.le_refl _) _))

set_option maxRecDepth 100000 in
theorem rtake_longp_bad (s : ByteArray) (a : Nat) (w : World) (_hs : s.size ≤ 9223372036854775807) (ha : a < s.size) (h1 : s[a].toNat = 255) (hl : a + 1 < s.size) (h2 : s[a + 1].toNat ≤ 126) : Calls Tryd.prog 71 #[.string s, .int .i64 a] w (TakePost s a w) := by
  have HZ := Lib.hid (takeE_size (l := s.toList) (a := a) (p := a + 1) (by simp [sizeE, at_some s a ha, at_some s (a + 1) hl, h1]; omega))
  have hc2 := s[a + 1].toNat_lt
  have hc := s[a].toNat_lt
  have q0 : decide ((a : Int) < (0 : Int)) = false := by simp
  have q1 : decide (s.size < a) = false := by simp; omega
  have q2 : ((a : Int) == (s.size : Int)) = false := by simp; omega
  have q3 : ((s[a].toNat : Int) == 0) = false := by simp; omega
  have q4 : ((s[a].toNat : Int) == 255) = true := by simp; omega
  have q5 : ((s[a].toNat : Int) == 1) = false := by simp; omega
  have q6 : decide ((s[a].toNat : Int) < 128) = false := by simp; omega
  have q8 : decide ((s[a].toNat : Int) - 128 < 0) = false := by simp; omega
  have q7 : ((a : Int) + 1 == (s.size : Int)) = false := by simp; omega
  have q9 : decide ((s[a + 1].toNat : Int) < 127) = true := by simp; omega
  have HC := Lib.hid h1
  clear h1
  go_enter Tryd.func71, Tryd.ntmps71
  go_wp2
  exact bodyPost_ret (v := .tuple #[.agg #[.bool false, .string ⟨#[]⟩], .int .i64 ((a : Int) + 1), .int .i64 20]) (by simp [results, Tryd.results71, go_sem]) rfl (take_post_bad HZ.out (by omega) ((Below.refl _ _).alloc (Nat.le_refl _) _))

set_option maxRecDepth 100000 in
theorem rtake_longm_end (s : ByteArray) (a : Nat) (w : World) (_hs : s.size ≤ 9223372036854775807) (ha : a < s.size) (h1 : s[a].toNat = 1) (hl : a + 1 = s.size) : Calls Tryd.prog 71 #[.string s, .int .i64 a] w (TakePost s a w) := by
  have HZ := Lib.hid (takeE_size (l := s.toList) (a := a) (p := s.size) (by simp [sizeE, at_some s a ha, h1, hl, ← size_of]))
  have hc := s[a].toNat_lt
  have q0 : decide ((a : Int) < (0 : Int)) = false := by simp
  have q1 : decide (s.size < a) = false := by simp; omega
  have q2 : ((a : Int) == (s.size : Int)) = false := by simp; omega
  have q3 : ((s[a].toNat : Int) == 0) = false := by simp; omega
  have q4 : ((s[a].toNat : Int) == 255) = false := by simp; omega
  have q5 : ((s[a].toNat : Int) == 1) = true := by simp; omega
  have q6 : decide ((s[a].toNat : Int) < 128) = true := by simp; omega
  have q8 : decide ((s[a].toNat : Int) - 128 < 0) = true := by simp; omega
  have q7 : ((a : Int) + 1 == (s.size : Int)) = true := by simp; omega
  have hle : a + 1 ≤ s.size := Nat.le_of_eq hl
  have hge := Nat.le_of_eq hl.symm
  clear hl
  have HC := Lib.hid h1
  clear h1
  go_enter Tryd.func71, Tryd.ntmps71
  go_wp2
  exact bodyPost_ret (v := .tuple #[.agg #[.bool false, .string ⟨#[]⟩], .int .i64 ((a : Int) + 1), .int .i64 20]) (by simp [results, Tryd.results71, go_sem]) rfl (take_post_bad HZ.out (by omega) ((Below.refl _ _).alloc (Nat.le_refl _) _))

set_option maxRecDepth 100000 in
theorem rtake_longm_bad (s : ByteArray) (a : Nat) (w : World) (_hs : s.size ≤ 9223372036854775807) (ha : a < s.size) (h1 : s[a].toNat = 1) (hl : a + 1 < s.size) (h2 : 129 ≤ s[a + 1].toNat) : Calls Tryd.prog 71 #[.string s, .int .i64 a] w (TakePost s a w) := by
  have HZ := Lib.hid (takeE_size (l := s.toList) (a := a) (p := a + 1) (by simp [sizeE, at_some s a ha, at_some s (a + 1) hl, h1]; omega))
  have hc2 := s[a + 1].toNat_lt
  have hc := s[a].toNat_lt
  have q0 : decide ((a : Int) < (0 : Int)) = false := by simp
  have q1 : decide (s.size < a) = false := by simp; omega
  have q2 : ((a : Int) == (s.size : Int)) = false := by simp; omega
  have q3 : ((s[a].toNat : Int) == 0) = false := by simp; omega
  have q4 : ((s[a].toNat : Int) == 255) = false := by simp; omega
  have q5 : ((s[a].toNat : Int) == 1) = true := by simp; omega
  have q6 : decide ((s[a].toNat : Int) < 128) = true := by simp; omega
  have q8 : decide ((s[a].toNat : Int) - 128 < 0) = true := by simp; omega
  have q7 : ((a : Int) + 1 == (s.size : Int)) = false := by simp; omega
  have q9 : decide (255 - (s[a + 1].toNat : Int) < 127) = true := by simp; omega
  have HC := Lib.hid h1
  clear h1
  go_enter Tryd.func71, Tryd.ntmps71
  go_wp2
  exact bodyPost_ret (v := .tuple #[.agg #[.bool false, .string ⟨#[]⟩], .int .i64 ((a : Int) + 1), .int .i64 20]) (by simp [results, Tryd.results71, go_sem]) rfl (take_post_bad HZ.out (by omega) ((Below.refl _ _).alloc (Nat.le_refl _) _))

/-- The document's Take at every place within. -/
theorem rtake_at (s : ByteArray) (a : Nat) (w : World) (hs : s.size ≤ 9223372036854775807) (ha : a ≤ s.size) : Calls Tryd.prog 71 #[.string s, .int .i64 a] w (TakePost s a w) := by
  by_cases h0 : a = s.size
  · exact rtake_end s a w hs h0
  · have ha' : a < s.size := by omega
    by_cases h1 : s[a].toNat = 255
    · by_cases hl : a + 1 < s.size
      · by_cases h2 : 126 < s[a + 1].toNat
        · exact rtake_longp s a w hs ha' h1 hl h2
        · exact rtake_longp_bad s a w hs ha' h1 hl (by omega)
      · exact rtake_longp_end s a w hs ha' h1 (by omega)
    · by_cases h2 : 128 ≤ s[a].toNat
      · exact rtake_high s a w hs ha' h2 h1
      · by_cases h3 : 2 ≤ s[a].toNat
        · exact rtake_low s a w hs ha' (by omega) h3
        · by_cases h4 : s[a].toNat = 1
          · by_cases hl : a + 1 < s.size
            · by_cases h5 : 126 < 255 - s[a + 1].toNat
              · exact rtake_longm s a w hs ha' h4 hl h5
              · exact rtake_longm_bad s a w hs ha' h4 hl (by omega)
            · exact rtake_longm_end s a w hs ha' h4 (by omega)
          · exact rtake_zero s a w hs ha' (by omega)
end Go.Proofs.YtcgphlilijeifaaDoor
