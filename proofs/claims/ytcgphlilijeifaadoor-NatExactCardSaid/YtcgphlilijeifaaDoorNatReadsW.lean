/-
  The walk of the law NatReads.
-/
import Derived.Test.YtcgphlilijeifaaDoorNatBackW
namespace Go.Proofs.YtcgphlilijeifaaDoor
open Go.RowKit

/-- Parse, of what can not be read. -/
theorem parse_no (s : ByteArray) (w : World) (hs : s.size ≤ 9223372036854775807) (c : Int) (h : parseE s.toList = c) (hc : c ≠ 0) :
    Calls Tryd.prog 26 #[.string s] w fun e w' => e = .returned (.tuple #[.agg #[.bool false, .string ⟨#[]⟩], .int .i64 c]) ∧ Below w.heap.size w w' := by
  refine (parse_any s w hs).mono ?_
  rintro e w' ⟨q, rfl, hq, hb1⟩
  have hq' := hq.out
  rw [if_neg (by rw [h]; exact hc)] at hq'
  obtain rfl := of_list hq'
  have h0 : (c == 0) = false := by simpa using hc
  rw [h, h0]
  exact ⟨rfl, hb1⟩

theorem natReads_big (s : ByteArray) (i : Int) (w : World) (h : 2147483647 < s.size) : Calls Tryd.prog 6 #[.string s, .int .i64 i] w (Yes w) := by
  have t1 : decide ((2147483647 : Int) < (s.size : Int)) = true := by simp; omega
  go_enter Tryd.func6, Tryd.ntmps6
  go_wp2
  go_ret
  exact ⟨rfl, Below.refl _ _⟩

theorem emp_eq (w : World) : (binOp .eql 24 (.agg #[.bool false, .string ⟨#[]⟩]) (.agg #[.bool false, .string ⟨#[]⟩])).run Tryd.prog w = .ok (.bool true) w := by kernel_rfl
theorem emp_ne (w : World) : (binOp .neq 24 (.agg #[.bool false, .string ⟨#[]⟩]) (.agg #[.bool false, .string ⟨#[]⟩])).run Tryd.prog w = .ok (.bool false) w := by kernel_rfl

set_option maxRecDepth 100000 in
set_option maxHeartbeats 2000000 in
theorem natReads_ok (s : ByteArray) (a : Nat) (w : World) (hs : s.size ≤ 2147483647) (ha : a ≤ s.size) (b : Bool) (m : List UInt8) (f : Nat) (hE : takeE s.toList a = .ok (b, m, f)) : Calls Tryd.prog 6 #[.string s, .int .i64 a] w (Yes w) := by
  have t1 : decide ((2147483647 : Int) < (s.size : Int)) = false := by simp; omega
  have hpz := parseE_three s.toList
  have g1 := emp_eq
  have g2 := emp_ne
  obtain ⟨hc, haf, hfs, hpb⟩ := takeE_reads hE
  rw [size_of] at hfs
  have HE := Lib.hid hE
  have HC := Lib.hid hc
  have HPB := Lib.hid hpb
  have q0 : decide ((a : Int) < (0 : Int)) = false := by simp
  have q1 : decide ((f : Int) < (a : Int)) = false := by simp; omega
  have q2 : decide ((s.size : Int) < (f : Int)) = false := by simp; omega
  clear hE hc hpb
  go_enter Tryd.func6, Tryd.ntmps6
  go_wp2_with fail
  refine (take_at s a _ (by omega) ha).mono ?_
  intro e w1 ht
  unfold TakePost at ht
  rw [HE.out] at ht
  obtain ⟨n, rfl, hn, hb1⟩ := ht
  go_wp2_with fail
  refine (put_ok b n _ (by rw [hn.out]; exact HC.out)).mono ?_
  rintro e w3 ⟨p, rfl, hp, hb3⟩
  obtain ⟨_, _, hz3, hbw3⟩ := num_cells hb3
  have hbel := two hb1 hbw3
  have q3 : (p.toList == (s.extract a f).toList) = true := by
    rw [hp.out, hn.out, HPB.out, Lib.toList_data, Lib.extract_toList, ← Lib.toList_data]; simp
  clear hb1 hb3 hbw3 HE HC HPB hn hp
  rcases hpz with hpar | hpar | hpar
  · have HP := Lib.hid (print_parse hpar)
    go_wp2_with fail
    refine (parse_yes s _ (by omega) hpar (neg s.toList) rfl).mono ?_
    rintro e w5 ⟨k, rfl, hk, hb5⟩
    have hk' : chk (neg s.toList) k.toList = 0 := by rw [hk.out]; exact HP.out.1
    have hsz := k.size
    have hks : k.size ≤ 255 := by have h1 := (chk_zero_iff.1 hk').1; rw [size_of] at h1; exact h1
    go_wp2_with fail
    refine (print_any (neg s.toList) k _ (by omega) 0 hk').mono ?_
    rintro e w6 ⟨t, rfl, ht, hb6⟩
    obtain ⟨_, _, hz6, hbw6⟩ := num_cells hb6
    have q9 : (t.toList == s.toList) = true := by have h1 := ht.out; rw [if_pos rfl, hk.out, HP.out.2] at h1; rw [h1]; simp
    clear hk hk' ht HP hb6
    go_wp2_with fail
    refine (awake_ok _).mono ?_
    rintro e w7 ⟨rfl, hb7⟩
    go_wp2_with fail
    go_ret
    exact ⟨rfl, two (two (two hbel hb5) hbw6) hb7⟩
  · go_wp2_with fail
    refine (parse_no s _ (by omega) 20 hpar (by decide)).mono ?_
    rintro e w5 ⟨rfl, hb5⟩
    go_wp2_with fail
    refine (awake_ok _).mono ?_
    rintro e w7 ⟨rfl, hb7⟩
    obtain ⟨_, _, hz7, hbw7⟩ := num_cells hb7
    go_wp2_with fail
    go_ret
    exact ⟨rfl, two (two hbel hb5) hbw7⟩
  · go_wp2_with fail
    refine (parse_no s _ (by omega) 21 hpar (by decide)).mono ?_
    rintro e w5 ⟨rfl, hb5⟩
    go_wp2_with fail
    refine (awake_ok _).mono ?_
    rintro e w7 ⟨rfl, hb7⟩
    obtain ⟨_, _, hz7, hbw7⟩ := num_cells hb7
    go_wp2_with fail
    go_ret
    exact ⟨rfl, two (two hbel hb5) hbw7⟩

set_option maxRecDepth 100000 in
set_option maxHeartbeats 2000000 in
theorem natReads_err (s : ByteArray) (a : Nat) (w : World) (hs : s.size ≤ 2147483647) (ha : a ≤ s.size) (f : Nat) (hE : takeE s.toList a = .error f) : Calls Tryd.prog 6 #[.string s, .int .i64 a] w (Yes w) := by
  have t1 : decide ((2147483647 : Int) < (s.size : Int)) = false := by simp; omega
  have hpz := parseE_three s.toList
  have g1 := emp_eq
  have g2 := emp_ne
  obtain ⟨haf, hfs⟩ := takeE_err hE (by rw [size_of]; exact ha)
  rw [size_of] at hfs
  have HE := Lib.hid hE
  have q0 : decide ((a : Int) < (0 : Int)) = false := by simp
  have q1 : decide ((f : Int) < (a : Int)) = false := by simp; omega
  have q2 : decide ((s.size : Int) < (f : Int)) = false := by simp; omega
  have q3 : decide ((s.size : Int) < (a : Int)) = false := by simp; omega
  clear hE
  go_enter Tryd.func6, Tryd.ntmps6
  go_wp2_with fail
  refine (take_at s a _ (by omega) ha).mono ?_
  intro e w1 ht
  unfold TakePost at ht
  rw [HE.out] at ht
  obtain ⟨rfl, hbel⟩ := ht
  clear HE
  rcases hpz with hpar | hpar | hpar
  · have HP := Lib.hid (print_parse hpar)
    go_wp2_with fail
    refine (parse_yes s _ (by omega) hpar (neg s.toList) rfl).mono ?_
    rintro e w5 ⟨k, rfl, hk, hb5⟩
    have hk' : chk (neg s.toList) k.toList = 0 := by rw [hk.out]; exact HP.out.1
    have hsz := k.size
    have hks : k.size ≤ 255 := by have h1 := (chk_zero_iff.1 hk').1; rw [size_of] at h1; exact h1
    go_wp2_with fail
    refine (print_any (neg s.toList) k _ (by omega) 0 hk').mono ?_
    rintro e w6 ⟨t, rfl, ht, hb6⟩
    obtain ⟨_, _, hz6, hbw6⟩ := num_cells hb6
    have q9 : (t.toList == s.toList) = true := by have h1 := ht.out; rw [if_pos rfl, hk.out, HP.out.2] at h1; rw [h1]; simp
    clear hk hk' ht HP hb6
    go_wp2_with fail
    refine (awake_ok _).mono ?_
    rintro e w7 ⟨rfl, hb7⟩
    go_wp2_with fail
    go_ret
    exact ⟨rfl, two (two (two hbel (num_cells hb5).2.2.2) hbw6) hb7⟩
  · go_wp2_with fail
    refine (parse_no s _ (by omega) 20 hpar (by decide)).mono ?_
    rintro e w5 ⟨rfl, hb5⟩
    go_wp2_with fail
    refine (awake_ok _).mono ?_
    rintro e w7 ⟨rfl, hb7⟩
    obtain ⟨_, _, hz7, hbw7⟩ := num_cells hb7
    go_wp2_with fail
    go_ret
    exact ⟨rfl, two (two hbel (num_cells hb5).2.2.2) hbw7⟩
  · go_wp2_with fail
    refine (parse_no s _ (by omega) 21 hpar (by decide)).mono ?_
    rintro e w5 ⟨rfl, hb5⟩
    go_wp2_with fail
    refine (awake_ok _).mono ?_
    rintro e w7 ⟨rfl, hb7⟩
    obtain ⟨_, _, hz7, hbw7⟩ := num_cells hb7
    go_wp2_with fail
    go_ret
    exact ⟨rfl, two (two hbel (num_cells hb5).2.2.2) hbw7⟩

set_option maxRecDepth 100000 in
set_option maxHeartbeats 2000000 in
theorem natReads_out (s : ByteArray) (i : Int) (w : World) (hs : s.size ≤ 2147483647) (h : (decide ((0 : Int) ≤ i) = false ∧ i < 0) ∨ (decide ((0 : Int) ≤ i) = true ∧ decide (i ≤ (s.size : Int)) = false ∧ (s.size : Int) < i)) : Calls Tryd.prog 6 #[.string s, .int .i64 i] w (Yes w) := by
  have t1 : decide ((2147483647 : Int) < (s.size : Int)) = false := by simp; omega
  have hpz := parseE_three s.toList
  have g1 := emp_eq
  have g2 := emp_ne
  rcases h with ⟨q0, hi⟩ | ⟨q0, q1, hi⟩
  · go_enter Tryd.func6, Tryd.ntmps6
    go_wp2_with fail
    refine (take_no s i _ (by omega) (.inl hi)).mono ?_
    rintro e w1 ⟨rfl, hbel⟩
    rcases hpz with hpar | hpar | hpar
    · have HP := Lib.hid (print_parse hpar)
      go_wp2_with fail
      refine (parse_yes s _ (by omega) hpar (neg s.toList) rfl).mono ?_
      rintro e w5 ⟨k, rfl, hk, hb5⟩
      have hk' : chk (neg s.toList) k.toList = 0 := by rw [hk.out]; exact HP.out.1
      have hsz := k.size
      have hks : k.size ≤ 255 := by have h1 := (chk_zero_iff.1 hk').1; rw [size_of] at h1; exact h1
      go_wp2_with fail
      refine (print_any (neg s.toList) k _ (by omega) 0 hk').mono ?_
      rintro e w6 ⟨t, rfl, ht, hb6⟩
      obtain ⟨_, _, hz6, hbw6⟩ := num_cells hb6
      have q9 : (t.toList == s.toList) = true := by have h1 := ht.out; rw [if_pos rfl, hk.out, HP.out.2] at h1; rw [h1]; simp
      clear hk hk' ht HP hb6
      go_wp2_with fail
      refine (awake_ok _).mono ?_
      rintro e w7 ⟨rfl, hb7⟩
      go_wp2_with fail
      go_ret
      exact ⟨rfl, two (two (two hbel (num_cells hb5).2.2.2) hbw6) hb7⟩
    · go_wp2_with fail
      refine (parse_no s _ (by omega) 20 hpar (by decide)).mono ?_
      rintro e w5 ⟨rfl, hb5⟩
      go_wp2_with fail
      refine (awake_ok _).mono ?_
      rintro e w7 ⟨rfl, hb7⟩
      obtain ⟨_, _, hz7, hbw7⟩ := num_cells hb7
      go_wp2_with fail
      go_ret
      exact ⟨rfl, two (two hbel (num_cells hb5).2.2.2) hbw7⟩
    · go_wp2_with fail
      refine (parse_no s _ (by omega) 21 hpar (by decide)).mono ?_
      rintro e w5 ⟨rfl, hb5⟩
      go_wp2_with fail
      refine (awake_ok _).mono ?_
      rintro e w7 ⟨rfl, hb7⟩
      obtain ⟨_, _, hz7, hbw7⟩ := num_cells hb7
      go_wp2_with fail
      go_ret
      exact ⟨rfl, two (two hbel (num_cells hb5).2.2.2) hbw7⟩
  · go_enter Tryd.func6, Tryd.ntmps6
    go_wp2_with fail
    refine (take_no s i _ (by omega) (.inr hi)).mono ?_
    rintro e w1 ⟨rfl, hbel⟩
    rcases hpz with hpar | hpar | hpar
    · have HP := Lib.hid (print_parse hpar)
      go_wp2_with fail
      refine (parse_yes s _ (by omega) hpar (neg s.toList) rfl).mono ?_
      rintro e w5 ⟨k, rfl, hk, hb5⟩
      have hk' : chk (neg s.toList) k.toList = 0 := by rw [hk.out]; exact HP.out.1
      have hsz := k.size
      have hks : k.size ≤ 255 := by have h1 := (chk_zero_iff.1 hk').1; rw [size_of] at h1; exact h1
      go_wp2_with fail
      refine (print_any (neg s.toList) k _ (by omega) 0 hk').mono ?_
      rintro e w6 ⟨t, rfl, ht, hb6⟩
      obtain ⟨_, _, hz6, hbw6⟩ := num_cells hb6
      have q9 : (t.toList == s.toList) = true := by have h1 := ht.out; rw [if_pos rfl, hk.out, HP.out.2] at h1; rw [h1]; simp
      clear hk hk' ht HP hb6
      go_wp2_with fail
      refine (awake_ok _).mono ?_
      rintro e w7 ⟨rfl, hb7⟩
      go_wp2_with fail
      go_ret
      exact ⟨rfl, two (two (two hbel (num_cells hb5).2.2.2) hbw6) hb7⟩
    · go_wp2_with fail
      refine (parse_no s _ (by omega) 20 hpar (by decide)).mono ?_
      rintro e w5 ⟨rfl, hb5⟩
      go_wp2_with fail
      refine (awake_ok _).mono ?_
      rintro e w7 ⟨rfl, hb7⟩
      obtain ⟨_, _, hz7, hbw7⟩ := num_cells hb7
      go_wp2_with fail
      go_ret
      exact ⟨rfl, two (two hbel (num_cells hb5).2.2.2) hbw7⟩
    · go_wp2_with fail
      refine (parse_no s _ (by omega) 21 hpar (by decide)).mono ?_
      rintro e w5 ⟨rfl, hb5⟩
      go_wp2_with fail
      refine (awake_ok _).mono ?_
      rintro e w7 ⟨rfl, hb7⟩
      obtain ⟨_, _, hz7, hbw7⟩ := num_cells hb7
      go_wp2_with fail
      go_ret
      exact ⟨rfl, two (two hbel (num_cells hb5).2.2.2) hbw7⟩

theorem natReads_walk (s : ByteArray) (i : Int) (_w0 : s.size ≤ maxLen) (_w1 : (Lit.int .i64 i).wf = true) (w : World) :
    Calls Tryd.prog 6 #[.string s, .int .i64 i] w fun e w' => e = .returned (.bool true) ∧ Below w.heap.size w w' := by
  by_cases hs : 2147483647 < s.size
  · exact natReads_big s i w hs
  · by_cases h0 : i < 0
    · exact natReads_out s i w (by omega) (.inl ⟨by simp; omega, h0⟩)
    · by_cases h1 : (s.size : Int) < i
      · exact natReads_out s i w (by omega) (.inr ⟨by simp; omega, by simp; omega, h1⟩)
      · obtain ⟨a, rfl⟩ := Int.eq_ofNat_of_zero_le (show 0 ≤ i by omega)
        cases hE : takeE s.toList a with
        | error f => exact natReads_err s a w (by omega) (by omega) f hE
        | ok r => exact natReads_ok s a w (by omega) (by omega) r.1 r.2.1 r.2.2 hE
end Go.Proofs.YtcgphlilijeifaaDoor
