/-
  The walk of the law NatSmall.
-/
import Derived.Test.YtcgphlilijeifaaDoorAwake
namespace Go.Proofs.YtcgphlilijeifaaDoor
open Go.RowKit

/-- Of, of any int. -/
theorem of_any (i : Int) (w : World) (h0 : -9223372036854775808 ≤ i) (h1 : i ≤ 9223372036854775807) (b : Bool) (hb : decide (i < 0) = b) :
    Calls Tryd.prog 31 #[.int .i64 i] w fun e w' => ∃ p : ByteArray, e = .returned (.agg #[.bool b, .string p]) ∧ Hid (p.toList = mag8 i.natAbs) ∧ Below w.heap.size w w' := by
  subst hb
  by_cases h : i < 0
  · rw [decide_eq_true h]; exact of_minus i w h h0
  · rw [decide_eq_false h]; exact of_plus i w (by omega) h1
theorem chk_of (i : Int) (h0 : -9223372036854775808 ≤ i) (h1 : i ≤ 9223372036854775807) : chk (decide (i < 0)) (mag8 i.natAbs) = 0 := by
  refine chk_zero_iff.2 ⟨by have := mag8_length i.natAbs; omega, fun h => ?_, mag8_head _⟩
  have h2 := mag8_nv i.natAbs (by omega)
  rw [h, nv_nil] at h2
  exact decide_eq_false (by omega)
theorem small_of (i : Int) (h0 : -9223372036854775808 ≤ i) (h1 : i ≤ 9223372036854775807) : smallV (decide (i < 0)) (mag8 i.natAbs) = (i, true) := by
  have hc := chk_of i h0 h1
  have h8 := mag8_length i.natAbs
  unfold smallV
  rw [if_neg (by simp [hc]; exact h8), mag8_nv _ (by omega)]
  by_cases h : i < 0
  · rw [decide_eq_true h, if_pos rfl, if_pos (by omega)]
    congr 1; omega
  · rw [decide_eq_false h, if_neg (by simp), if_pos (by omega)]
    congr 1; omega
theorem ncmp_of (i k : Int) (h0 : -9223372036854775808 ≤ i) (h1 : i ≤ 9223372036854775807) (h2 : -9223372036854775808 ≤ k) (h3 : k ≤ 9223372036854775807) :
    ncmp (decide (i < 0)) (mag8 i.natAbs) (decide (k < 0)) (mag8 k.natAbs) = if i < k then -1 else if k < i then 1 else 0 := by
  unfold ncmp
  rw [mcmp_nv (mag8_head _) (mag8_head _), mcmp_nv (mag8_head _) (mag8_head _), mag8_nv _ (by omega), mag8_nv _ (by omega)]
  by_cases a : i < 0 <;> by_cases b : k < 0 <;> simp only [a, b, decide_true, decide_false, if_true, if_false, Bool.false_eq_true]
  all_goals (repeat' split) <;> first | rfl | omega

set_option maxRecDepth 100000 in
theorem natSmall_walk2 (i k : Int) (w : World) (hi0 : -9223372036854775808 ≤ i) (hi1 : i ≤ 9223372036854775807) (hk0 : -9223372036854775808 ≤ k) (hk1 : k ≤ 9223372036854775807) :
    Calls Tryd.prog 9 #[.int .i64 i, .int .i64 k] w fun e w' => e = .returned (.bool true) ∧ Below w.heap.size w w' := by
  have SI := Lib.hid (small_of i hi0 hi1)
  have SK := Lib.hid (small_of k hk0 hk1)
  have CI := Lib.hid (chk_of i hi0 hi1)
  have CK := Lib.hid (chk_of k hk0 hk1)
  have NC := Lib.hid (ncmp_of i k hi0 hi1 hk0 hk1)
  obtain ⟨bi, hbi⟩ : ∃ b, decide (i < 0) = b := ⟨_, rfl⟩
  obtain ⟨bk, hbk⟩ : ∃ b, decide (k < 0) = b := ⟨_, rfl⟩
  have OI := fun W => of_any i W hi0 hi1 bi hbi
  have OK := fun W => of_any k W hk0 hk1 bk hbk
  rw [hbi] at SI CI NC
  rw [hbk] at SK CK NC
  clear hbi hbk
  obtain ⟨r, hr⟩ : ∃ r : Int, (if i < k then -1 else if k < i then 1 else 0) = r := ⟨_, rfl⟩
  have HR := Lib.hid hr
  rw [hr] at NC
  go_enter Tryd.func9, Tryd.ntmps9
  go_wp2_with fail
  refine (OI _).mono ?_
  rintro e w1 ⟨p, rfl, hp, hb1⟩
  go_wp2_with fail
  refine (OK _).mono ?_
  rintro e w2 ⟨q, rfl, hq, hb2⟩
  obtain ⟨c0, c1, hz, hbw⟩ := num_cells hb2
  go_wp2_with fail
  refine (small_any bi p _ (by have := mag8_length i.natAbs; rw [← hp.out, size_of] at this; omega) (i, true) (by rw [hp.out]; exact SI.out)).mono ?_
  rintro e w3 ⟨rfl, hb3⟩
  obtain ⟨d0, d1, hz3, hbw3⟩ := num_cells hb3
  have e0 := (hbw3.cell (p := ⟨w1.heap.size, 0, none⟩) hz).trans c0
  have e1 := (hbw3.cell (p := ⟨w1.heap.size, 1, none⟩) hz).trans c1
  clear c0 c1
  go_wp2_with fail
  refine (small_any bk q _ (by have := mag8_length k.natAbs; rw [← hq.out, size_of] at this; omega) (k, true) (by rw [hq.out]; exact SK.out)).mono ?_
  rintro e w4 ⟨rfl, hb4⟩
  have f0 := keep hb4 e0
  have f1 := keep hb4 e1
  have g0 := keep hb4 d0
  have g1 := keep hb4 d1
  clear e0 e1 d0 d1
  go_wp2_with fail
  refine (compare_ok bi p bk q _ (by rw [hp.out]; exact CI.out) (by rw [hq.out]; exact CK.out) r (by rw [hp.out, hq.out]; exact NC.out)).mono ?_
  rintro e w5 ⟨rfl, hb5⟩
  have e0 := keep hb5 f0
  have e1 := keep hb5 f1
  clear f0 f1 g0 g1
  have hbel := two (two (two (two hb1 hbw) hbw3) hb4) hb5
  have q1 : (i == i) = true := by simp
  have q2 : (k == k) = true := by simp
  rcases (show i < k ∨ (¬ i < k ∧ k < i) ∨ (¬ i < k ∧ ¬ k < i) by omega) with h1 | ⟨h1, h2⟩ | ⟨h1, h2⟩
  · have t1 : decide (i < k) = true := by simpa using h1
    have t2 : decide (k < i) = false := by simp; omega
    have q3 : (r == -1) = true := by rw [if_pos h1] at hr; rw [← hr]; rfl
    clear hr
    go_wp2_with (first
      | (go_at_call 22; refine (check_any bi p _ (by have := mag8_length i.natAbs; rw [← hp.out, size_of] at this; omega) 0 (by rw [hp.out]; exact CI.out)).mono ?_; rintro e w6 ⟨rfl, hb6⟩)
      | (go_at_call 21; refine (awake_ok _).mono ?_; rintro e w7 ⟨rfl, hb7⟩))
    go_ret
    exact ⟨rfl, two (two hbel hb6) hb7⟩
  · have t1 : decide (i < k) = false := by simpa using h1
    have t2 : decide (k < i) = true := by simpa using h2
    have q3 : (r == 1) = true := by rw [if_neg h1, if_pos h2] at hr; rw [← hr]; rfl
    clear hr
    go_wp2_with (first
      | (go_at_call 22; refine (check_any bi p _ (by have := mag8_length i.natAbs; rw [← hp.out, size_of] at this; omega) 0 (by rw [hp.out]; exact CI.out)).mono ?_; rintro e w6 ⟨rfl, hb6⟩)
      | (go_at_call 21; refine (awake_ok _).mono ?_; rintro e w7 ⟨rfl, hb7⟩))
    go_ret
    exact ⟨rfl, two (two hbel hb6) hb7⟩
  · have t1 : decide (i < k) = false := by simpa using h1
    have t2 : decide (k < i) = false := by simpa using h2
    have q3 : (r == 0) = true := by rw [if_neg h1, if_neg h2] at hr; rw [← hr]; rfl
    clear hr
    go_wp2_with (first
      | (go_at_call 22; refine (check_any bi p _ (by have := mag8_length i.natAbs; rw [← hp.out, size_of] at this; omega) 0 (by rw [hp.out]; exact CI.out)).mono ?_; rintro e w6 ⟨rfl, hb6⟩)
      | (go_at_call 21; refine (awake_ok _).mono ?_; rintro e w7 ⟨rfl, hb7⟩))
    go_ret
    exact ⟨rfl, two (two hbel hb6) hb7⟩

theorem i64_wf {i : Int} (h : (Lit.int .i64 i).wf = true) : -9223372036854775808 ≤ i ∧ i ≤ 9223372036854775807 := by
  simp only [Lit.wf, Bool.and_eq_true, decide_eq_true_eq] at h
  exact h
theorem natSmall_walk (i k : Int) (wi : (Lit.int .i64 i).wf = true) (wk : (Lit.int .i64 k).wf = true) (w : World) :
    Calls Tryd.prog 9 #[.int .i64 i, .int .i64 k] w fun e w' => e = .returned (.bool true) ∧ Below w.heap.size w w' :=
  natSmall_walk2 i k w (i64_wf wi).1 (i64_wf wi).2 (i64_wf wk).1 (i64_wf wk).2
end Go.Proofs.YtcgphlilijeifaaDoor
