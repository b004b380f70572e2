/-
  The walk of the law NatBack.
-/
import Derived.Test.YtcgphlilijeifaaDoorNatOrderW
namespace Go.Proofs.YtcgphlilijeifaaDoor
open Go.RowKit

/-- Print, of any number. -/
theorem print_any (x : Bool) (a : ByteArray) (w : World) (ha : a.size ≤ 9223372036854775807) (r : Int) (hr : chk x a.toList = r) :
    Calls Tryd.prog 24 #[.agg #[.bool x, .string a]] w fun e w' => ∃ p : ByteArray, e = .returned (.tuple #[.string p, .int .i64 r]) ∧ Hid (if r = 0 then p.toList = digitsV x a.toList else p = ⟨#[]⟩) ∧ Below w.heap.size w w' := by
  by_cases h : r = 0
  · subst h
    exact (print_ok x a w hr).mono fun e w' ⟨p, he, hp, hb⟩ => ⟨p, he, Lib.hid (by rw [if_pos rfl]; exact hp.out), hb⟩
  · exact (print_bad x a w ha r hr (by simpa using h)).mono fun e w' ⟨he, hb⟩ => ⟨_, he, Lib.hid (by rw [if_neg h]), hb⟩

/-- Parse, of what can be read. -/
theorem parse_yes (s : ByteArray) (w : World) (hs : s.size ≤ 9223372036854775807) (h : parseE s.toList = 0) (b : Bool) (hb : neg s.toList = b) :
    Calls Tryd.prog 26 #[.string s] w fun e w' => ∃ q : ByteArray, e = .returned (.tuple #[.agg #[.bool b, .string q], .int .i64 0]) ∧ Hid (q.toList = magN (dv (ds s.toList))) ∧ Below w.heap.size w w' := by
  refine (parse_any s w hs).mono ?_
  rintro e w' ⟨q, rfl, hq, hb1⟩
  refine ⟨q, ?_, Lib.hid (by rw [hq.out, if_pos h]), hb1⟩
  rw [h, hb]
  rfl
theorem digitsV_len (b : Bool) (m : List UInt8) : (digitsV b m).length ≤ 3 * m.length + 2 := by
  have h := dec_nv_len m
  unfold digitsV
  split
  · simp
  · rw [List.length_append]
    cases b <;> simp <;> omega

/-- One of the arguments is too long. -/
theorem natBack_big (xb : Bool) (a x y : ByteArray) (w : World) (h : 536870911 < a.size ∨ 536870911 < x.size ∨ 536870911 < y.size) :
    Calls Tryd.prog 5 #[.agg #[.bool xb, .string a], .string x, .string y] w (Yes w) := by
  have hbel : Below w.heap.size w (w.alloc (.cells #[.bool xb, .string a] 24)) := (Below.refl _ _).alloc (Nat.le_refl _) _
  by_cases h1 : 536870911 < a.size
  · have t1 : decide ((536870911 : Int) < (a.size : Int)) = true := by simp; omega
    clear h
    go_enter Tryd.func5, Tryd.ntmps5
    go_wp2
    go_ret
    exact ⟨rfl, hbel⟩
  · have t1 : decide ((536870911 : Int) < (a.size : Int)) = false := by simp; omega
    by_cases h2 : 536870911 < x.size
    · have t2 : decide ((536870911 : Int) < (x.size : Int)) = true := by simp; omega
      clear h
      go_enter Tryd.func5, Tryd.ntmps5
      go_wp2
      go_ret
      exact ⟨rfl, hbel⟩
    · have t2 : decide ((536870911 : Int) < (x.size : Int)) = false := by simp; omega
      have t3 : decide ((536870911 : Int) < (y.size : Int)) = true := by simp; omega
      clear h
      go_enter Tryd.func5, Tryd.ntmps5
      go_wp2
      go_ret
      exact ⟨rfl, hbel⟩

set_option maxRecDepth 100000 in
set_option maxHeartbeats 1000000 in
/-- A number that may not be. -/
theorem natBack_bad (xb : Bool) (a x y : ByteArray) (w : World) (ha : a.size ≤ 536870911) (hx : x.size ≤ 536870911) (hy : y.size ≤ 536870911)
    (r : Int) (hr : chk xb a.toList = r) (hr0 : r ≠ 0) :
    Calls Tryd.prog 5 #[.agg #[.bool xb, .string a], .string x, .string y] w (Yes w) := by
  have t1 : decide ((536870911 : Int) < (a.size : Int)) = false := by simp; omega
  have t2 : decide ((536870911 : Int) < (x.size : Int)) = false := by simp; omega
  have t3 : decide ((536870911 : Int) < (y.size : Int)) = false := by simp; omega
  have HR := Lib.hid hr
  have q1 : (r != 0) = true := by simpa using hr0
  have q2 : (r == r) = true := by simp
  obtain ⟨E, hE⟩ : ∃ E, decide ((255 : Int) < (a.size : Int)) = E := ⟨_, rfl⟩
  have q3 : (r == 21) = E := by
    rw [← hE, Bool.eq_iff_iff, beq_iff_eq, decide_eq_true_iff, ← hr, chk_21, size_of]
    omega
  have q4 : ((⟨#[]⟩ : ByteArray).toList == (⟨#[]⟩ : ByteArray).toList) = true := by simp
  clear hr hr0
  go_enter Tryd.func5, Tryd.ntmps5
  go_wp2_with fail
  refine (check_any xb a _ (by omega) r HR.out).mono ?_
  rintro e w1 ⟨rfl, hb1⟩
  obtain ⟨c0, c1, hz, hbw⟩ := num_cells hb1
  go_wp2_with fail
  refine (put_bad xb a _ (by omega) r HR.out (by simpa using q1) q1).mono ?_
  rintro e w2 ⟨rfl, hb2⟩
  have c0 := keep hb2 c0
  have c1 := keep hb2 c1
  go_wp2_with fail
  refine (print_bad xb a _ (by omega) r HR.out q1).mono ?_
  rintro e w3 ⟨rfl, hb3⟩
  have c0 := keep hb3 c0
  have c1 := keep hb3 c1
  have hbel := two (two hbw hb2) hb3
  clear HR hb1 hb2 hb3 hbw
  cases E
  all_goals
    go_wp2_with fail
    refine (awake_ok _).mono ?_
    rintro e w6 ⟨rfl, hb6⟩
    go_wp2_with fail
    go_ret
    exact ⟨rfl, two hbel hb6⟩

set_option maxRecDepth 100000 in
set_option maxHeartbeats 1000000 in
/-- A number that may be. -/
theorem natBack_ok (xb : Bool) (a x y : ByteArray) (w : World) (ha : a.size ≤ 536870911) (hx : x.size ≤ 536870911) (hy : y.size ≤ 536870911) (hr : chk xb a.toList = 0) :
    Calls Tryd.prog 5 #[.agg #[.bool xb, .string a], .string x, .string y] w (Yes w) := by
  have t1 : decide ((536870911 : Int) < (a.size : Int)) = false := by simp; omega
  have t2 : decide ((536870911 : Int) < (x.size : Int)) = false := by simp; omega
  have t3 : decide ((536870911 : Int) < (y.size : Int)) = false := by simp; omega
  have ha2 : a.size ≤ 255 := by have := (chk_zero_iff.1 hr).1; rw [size_of] at this; exact this
  have HR := Lib.hid hr
  have TP := fun u v => Lib.hid (takeE_put hr u v)
  have PP := Lib.hid (parse_print hr)
  have hq24 : ∀ (q : ByteArray), q.toList = a.toList → ∀ w : World, (binOp .eql 24 (.agg #[.bool xb, .string q]) (.agg #[.bool xb, .string a])).run Tryd.prog w = .ok (.bool true) w := fun q h => eql_num _ _ _ _ _ (by rw [h]; simp)
  clear hr
  go_enter Tryd.func5, Tryd.ntmps5
  go_wp2_with fail
  refine (check_any xb a _ (by omega) 0 HR.out).mono ?_
  rintro e w1 ⟨rfl, hb1⟩
  obtain ⟨c0, c1, hz, hbw⟩ := num_cells hb1
  go_wp2_with fail
  refine (put_ok xb a _ HR.out).mono ?_
  rintro e w2 ⟨p, rfl, hp, hb2⟩
  have c0 := keep hb2 c0
  have c1 := keep hb2 c1
  have hpl : p.size ≤ 257 := by have h1 := put_len xb a.toList; rw [← hp.out, size_of, size_of] at h1; omega
  go_wp2_with fail
  refine (print_any xb a _ (by omega) 0 HR.out).mono ?_
  rintro e w3 ⟨d, rfl, hd, hb3⟩
  have c0 := keep hb3 c0
  have c1 := keep hb3 c1
  have hd' := hd.out
  rw [if_pos rfl] at hd'
  have HD := Lib.hid hd'
  have hbel := two (two hbw hb2) hb3
  have hz3 : w.heap.size < w3.heap.size := by have := hb2.size; have := hb3.size; omega
  have hT : takeE (x ++ p ++ y).toList x.size = .ok (xb, a.toList, x.size + p.size) := by
    rw [cat_list, cat_list, hp.out, List.append_assoc, ← size_of x]
    have h := (TP x.toList y.toList).out
    rw [h, ← hp.out, size_of p]
  have HT := Lib.hid hT
  clear hd hd' hb1 hb2 hb3 hbw hT TP
  go_wp2_with fail
  refine (take_at (x ++ p ++ y) x.size _ (by simp; omega) (by simp; omega)).mono ?_
  intro e w4 ht
  unfold TakePost at ht
  rw [HT.out] at ht
  obtain ⟨m, rfl, hm, hb4⟩ := ht
  have c0 := keep hb4 c0
  have c1 := keep hb4 c1
  have hz4 : w.heap.size < w4.heap.size := by have := hb4.size; omega
  go_wp2_with fail
  refine (parse_yes d _ (by have h1 := digitsV_len xb a.toList; rw [← HD.out, size_of, size_of] at h1; omega) (by rw [HD.out]; exact PP.out.1) xb (by rw [HD.out]; exact PP.out.2.1)).mono ?_
  rintro e w5 ⟨k, rfl, hk, hb5⟩
  obtain ⟨d0, d1, hz5, hbw5⟩ := num_cells hb5
  have c0 := (hbw5.cell (p := ⟨w.heap.size, 0, none⟩) hz4).trans c0
  have c1 := (hbw5.cell (p := ⟨w.heap.size, 1, none⟩) hz4).trans c1
  have hz6 : w.heap.size < w5.heap.size := by omega
  have e1 := hq24 m hm.out
  have e2 := hq24 k (by rw [hk.out, HD.out]; exact PP.out.2.2)
  have q5 : ((x.size : Int) + (p.size : Int) == (x.size : Int) + (p.size : Int)) = true := by simp
  have hbel2 := two (two hbel hb4) hbw5
  clear hb4 hb5 hbel hbw5 PP HD HT hq24
  go_wp2_with fail
  refine (awake_ok _).mono ?_
  rintro e w6 ⟨rfl, hb6⟩
  obtain ⟨_, _, _, hbw6⟩ := num_cells hb6
  go_wp2_with fail
  go_ret
  exact ⟨rfl, two hbel2 hbw6⟩

theorem natBack_walk (xb : Bool) (a x y : ByteArray) (_w0 : a.size ≤ maxLen) (_w1 : x.size ≤ maxLen) (_w2 : y.size ≤ maxLen) (w : World) :
    Calls Tryd.prog 5 #[.agg #[.bool xb, .string a], .string x, .string y] w fun e w' => e = .returned (.bool true) ∧ Below w.heap.size w w' := by
  by_cases h : 536870911 < a.size ∨ 536870911 < x.size ∨ 536870911 < y.size
  · exact natBack_big xb a x y w h
  · by_cases hr : chk xb a.toList = 0
    · exact natBack_ok xb a x y w (by omega) (by omega) (by omega) hr
    · exact natBack_bad xb a x y w (by omega) (by omega) (by omega) _ rfl hr
end Go.Proofs.YtcgphlilijeifaaDoor
