import Derived.Test.YtcgphlilijeifaaDoorLitPrintsG29
import Derived.Test.YtcgphlilijeifaaDoorLitPrintsG4
import Derived.Test.YtcgphlilijeifaaDoorLitPrintsG15
section
/-
  The walk of the law NatOrder.
-/
namespace Go.Proofs.YtcgphlilijeifaaDoor
open Go.RowKit

/-- The law's own order. -/
theorem order_law (a b : ByteArray) (w : World) (r : Int) (hr : cmp a.toList b.toList = r) :
    Calls Tryd.prog 30 #[.string a, .string b] w fun e w' => e = .returned (.int .i64 r) ∧ w = w' := by
  have l1 : Op.bytesLess a.toList b.toList = decide (r = -1) := by rw [less_iff, hr]
  have l2 : (a.toList == b.toList) = decide (r = 0) := by rw [eq_iff, hr]
  have h3 := cmp_three a.toList b.toList
  rw [hr] at h3
  clear hr
  rcases h3 with h | h | h
  all_goals
    subst h
    simp only [Int.reduceNeg, Int.reduceEq, decide_true, decide_false] at l1 l2
    go_enter Tryd.func30, Tryd.ntmps30
    go_wp2
    go_ret
    exact ⟨rfl, rfl⟩
/-- Two numbers, as Go compares them. -/
theorem eql_num (x y : Bool) (a b : ByteArray) (E : Bool) (h : (x == y && a.toList == b.toList) = E) (w : World) : (binOp .eql 24 (.agg #[.bool x, .string a]) (.agg #[.bool y, .string b])).run Tryd.prog w = .ok (.bool E) w := by
  subst h
  by_cases hx : x = y <;> by_cases ha : a.toList = b.toList <;> simp [go_sem, hx, ha]

/-- Put, of any number. -/
theorem put_any (x : Bool) (a : ByteArray) (w : World) (ha : a.size ≤ 9223372036854775807) (r : Int) (hr : chk x a.toList = r) :
    Calls Tryd.prog 23 #[.agg #[.bool x, .string a]] w fun e w' => ∃ p : ByteArray, e = .returned (.tuple #[.string p, .int .i64 r]) ∧ Hid (if r = 0 then p.toList = putBytes x a.toList else p = ⟨#[]⟩) ∧ Below w.heap.size w w' := by
  by_cases h : r = 0
  · subst h
    exact (put_ok x a w hr).mono fun e w' ⟨p, he, hp, hb⟩ => ⟨p, he, Lib.hid (by rw [if_pos rfl]; exact hp.out), hb⟩
  · exact (put_bad x a w ha r hr (by simpa using h) (by simpa using h)).mono fun e w' ⟨he, hb⟩ => ⟨_, he, Lib.hid (by rw [if_neg h]), hb⟩

/-- What the law's walk hands back. -/
def Yes (w : World) (e : Ending) (w' : World) : Prop := e = .returned (.bool true) ∧ Below w.heap.size w w'
/-- One of the arguments is too long. -/
theorem natOrder_big (xb : Bool) (a : ByteArray) (yb : Bool) (b : ByteArray) (x y : ByteArray) (w : World)
    (h : 255 < a.size ∨ 255 < b.size ∨ 536870911 < x.size ∨ 536870911 < y.size) :
    Calls Tryd.prog 8 #[.agg #[.bool xb, .string a], .agg #[.bool yb, .string b], .string x, .string y] w (Yes w) := by
  have hbel : Below w.heap.size w ((w.alloc (.cells #[.bool xb, .string a] 24)).alloc (.cells #[.bool yb, .string b] 24)) := ((Below.refl _ _).alloc (Nat.le_refl _) _).alloc (by simp) _
  by_cases h1 : 255 < a.size
  · have t1 : decide ((255 : Int) < (a.size : Int)) = true := by simp; omega
    clear h
    go_enter Tryd.func8, Tryd.ntmps8
    go_wp2
    go_ret
    exact ⟨rfl, hbel⟩
  · have t1 : decide ((255 : Int) < (a.size : Int)) = false := by simp; omega
    by_cases h2 : 255 < b.size
    · have t2 : decide ((255 : Int) < (b.size : Int)) = true := by simp; omega
      clear h
      go_enter Tryd.func8, Tryd.ntmps8
      go_wp2
      go_ret
      exact ⟨rfl, hbel⟩
    · have t2 : decide ((255 : Int) < (b.size : Int)) = false := by simp; omega
      by_cases h3 : 536870911 < x.size
      · have t3 : decide ((536870911 : Int) < (x.size : Int)) = true := by simp; omega
        clear h
        go_enter Tryd.func8, Tryd.ntmps8
        go_wp2
        go_ret
        exact ⟨rfl, hbel⟩
      · have t3 : decide ((536870911 : Int) < (x.size : Int)) = false := by simp; omega
        have t4 : decide ((536870911 : Int) < (y.size : Int)) = true := by simp; omega
        clear h
        go_enter Tryd.func8, Tryd.ntmps8
        go_wp2
        go_ret
        exact ⟨rfl, hbel⟩

set_option maxRecDepth 100000 in
set_option maxHeartbeats 1000000 in
/-- One of the numbers may not be. -/
theorem natOrder_bad (xb : Bool) (a : ByteArray) (yb : Bool) (b : ByteArray) (x y : ByteArray) (w : World) (ha : a.size ≤ 255) (hb : b.size ≤ 255) (hx : x.size ≤ 536870911) (hy : y.size ≤ 536870911)
    (ra rb r r2 : Int) (hra : chk xb a.toList = ra) (hrb : chk yb b.toList = rb) (hq : ((ra != 0) = true) ∨ ((ra != 0) = false ∧ (rb != 0) = true))
    (h1 : (chk xb a.toList = r ∧ r ≠ 0) ∨ (chk xb a.toList = 0 ∧ chk yb b.toList = r ∧ r ≠ 0)) (h2 : (chk yb b.toList = r2 ∧ r2 ≠ 0) ∨ (chk yb b.toList = 0 ∧ chk xb a.toList = r2 ∧ r2 ≠ 0)) (q1 : (r != 0) = true) (q2 : (r2 != 0) = true) :
    Calls Tryd.prog 8 #[.agg #[.bool xb, .string a], .agg #[.bool yb, .string b], .string x, .string y] w (Yes w) := by
  have t1 : decide ((255 : Int) < (a.size : Int)) = false := by simp; omega
  have t2 : decide ((255 : Int) < (b.size : Int)) = false := by simp; omega
  have t3 : decide ((536870911 : Int) < (x.size : Int)) = false := by simp; omega
  have t4 : decide ((536870911 : Int) < (y.size : Int)) = false := by simp; omega
  have HA := Lib.hid hra
  have HB := Lib.hid hrb
  have C1 := fun W => compare_bad xb a yb b W (by omega) (by omega) r h1
  have C2 := fun W => compare_bad yb b xb a W (by omega) (by omega) r2 h2
  clear hra hrb h1 h2
  go_enter Tryd.func8, Tryd.ntmps8
  go_wp2_with fail
  refine (put_any xb a _ (by omega) ra HA.out).mono ?_
  rintro e w1 ⟨p, rfl, hp, hb1⟩
  obtain ⟨c0, c1, c2, c3, hz, hbw⟩ := num2_cells hb1
  clear hp
  go_wp2_with fail
  refine (put_any yb b _ (by omega) rb HB.out).mono ?_
  rintro e w2 ⟨q, rfl, hq, hb2⟩
  have c0 := keep hb2 c0
  have c1 := keep hb2 c1
  have c2 := keep hb2 c2
  have c3 := keep hb2 c3
  clear hq
  go_wp2_with fail
  refine (C1 _).mono ?_
  rintro e w3 ⟨rfl, hb3⟩
  have c0 := keep hb3 c0
  have c1 := keep hb3 c1
  have c2 := keep hb3 c2
  have c3 := keep hb3 c3
  go_wp2_with fail
  refine (C2 _).mono ?_
  rintro e w4 ⟨rfl, hb4⟩
  have hbel := two (two (two hbw hb2) hb3) hb4
  clear C1 C2 c0 c1 c2 c3
  rcases hq with q3 | ⟨q3, q4⟩
  all_goals
    go_wp2_with (go_at_call 21; refine (awake_ok _).mono ?_; rintro e w5 ⟨rfl, hb5⟩)
    go_ret
    exact ⟨rfl, two hbel hb5⟩

theorem put_len (b : Bool) (m : List UInt8) : (putBytes b m).length ≤ m.length + 2 := by
  unfold putBytes putHead
  cases b <;> simp only [if_true, if_false, Bool.false_eq_true] <;> split <;> simp
theorem cat_list (a b : ByteArray) : (a ++ b).toList = a.toList ++ b.toList := by
  rw [Lib.toList_data, Lib.toList_data, Lib.toList_data]
  simp
set_option maxRecDepth 100000 in
set_option maxHeartbeats 1000000 in
/-- Two numbers that may be. -/
theorem natOrder_ok (xb : Bool) (a : ByteArray) (yb : Bool) (b : ByteArray) (x y : ByteArray) (w : World) (ha : a.size ≤ 255) (hb : b.size ≤ 255) (hx : x.size ≤ 536870911) (hy : y.size ≤ 536870911)
    (hra : chk xb a.toList = 0) (hrb : chk yb b.toList = 0) :
    Calls Tryd.prog 8 #[.agg #[.bool xb, .string a], .agg #[.bool yb, .string b], .string x, .string y] w (Yes w) := by
  have t1 : decide ((255 : Int) < (a.size : Int)) = false := by simp; omega
  have t2 : decide ((255 : Int) < (b.size : Int)) = false := by simp; omega
  have t3 : decide ((536870911 : Int) < (x.size : Int)) = false := by simp; omega
  have t4 : decide ((536870911 : Int) < (y.size : Int)) = false := by simp; omega
  have HA := Lib.hid hra
  have HB := Lib.hid hrb
  obtain ⟨r, hr⟩ : ∃ r, ncmp xb a.toList yb b.toList = r := ⟨_, rfl⟩
  obtain ⟨r2, hr2⟩ : ∃ r2, ncmp yb b.toList xb a.toList = r2 := ⟨_, rfl⟩
  have h3 := ncmp_three xb yb a.toList b.toList
  have hrr : r2 = -r := by rw [← hr, ← hr2]; exact ncmp_swap _ _ _ _
  have HR := Lib.hid hr
  have HR2 := Lib.hid hr2
  have HO := fun u v hne => Lib.hid (put_order (x := xb) (y := yb) (a := a.toList) (b := b.toList) u v hra hrb hne)
  rw [hr] at h3 HO
  have hz0 : r = 0 ↔ (xb = yb ∧ a.toList = b.toList) := ⟨fun h => ncmp_zero (hr.trans h), fun ⟨h1, h2⟩ => by rw [← hr, h1, h2]; exact ncmp_self _ _⟩
  clear hra hrb hr hr2
  obtain ⟨E, hE⟩ : ∃ E, (xb == yb && a.toList == b.toList) = E := ⟨_, rfl⟩
  have hq24 : ∀ w : World, (binOp .eql 24 (.agg #[.bool xb, .string a]) (.agg #[.bool yb, .string b])).run Tryd.prog w = .ok (.bool E) w := eql_num _ _ _ _ _ hE
  have q1 : (r != -r2) = false := by simp; omega
  have b1 : -1 ≤ r2 := by omega
  have b2 : r2 ≤ 1 := by omega
  clear h3
  go_enter Tryd.func8, Tryd.ntmps8
  go_wp2_with fail
  refine (put_ok xb a _ HA.out).mono ?_
  rintro e w1 ⟨p, rfl, hp, hb1⟩
  obtain ⟨c0, c1, c2, c3, hz, hbw⟩ := num2_cells hb1
  go_wp2_with fail
  refine (put_ok yb b _ HB.out).mono ?_
  rintro e w2 ⟨q, rfl, hq, hb2⟩
  have c0 := keep hb2 c0
  have c1 := keep hb2 c1
  have c2 := keep hb2 c2
  have c3 := keep hb2 c3
  go_wp2_with fail
  refine (compare_ok xb a yb b _ HA.out HB.out r HR.out).mono ?_
  rintro e w3 ⟨rfl, hb3⟩
  have c0 := keep hb3 c0
  have c1 := keep hb3 c1
  have c2 := keep hb3 c2
  have c3 := keep hb3 c3
  go_wp2_with fail
  refine (compare_ok yb b xb a _ HB.out HA.out r2 HR2.out).mono ?_
  rintro e w4 ⟨rfl, hb4⟩
  have c0 := keep hb4 c0
  have c1 := keep hb4 c1
  have c2 := keep hb4 c2
  have c3 := keep hb4 c3
  have hbel := two (two (two hbw hb2) hb3) hb4
  clear HR HR2 hb1 hb2 hb3 hb4 hbw
  cases E
  · have hne : ¬ (xb = yb ∧ a.toList = b.toList) := by rintro ⟨rfl, h2⟩; rw [h2] at hE; simp at hE
    have q2 : (r == 0) = false := by simpa using fun h => hne (hz0.1 h)
    have hlen1 : p.size ≤ 257 := by have h1 := put_len xb a.toList; rw [← hp.out, size_of, size_of] at h1; omega
    have hlen2 : q.size ≤ 257 := by have h1 := put_len yb b.toList; rw [← hq.out, size_of, size_of] at h1; omega
    have o1 : cmp (p ++ x).toList (q ++ y).toList = r := by rw [cat_list, cat_list, hp.out, hq.out]; exact (HO _ _ hne).out
    have o2 : cmp p.toList q.toList = r := by have := (HO [] [] hne).out; rw [List.append_nil, List.append_nil] at this; rw [hp.out, hq.out]; exact this
    have O1 := Lib.hid o1
    have O2 := Lib.hid o2
    have q3 : (p.toList == q.toList) = false := by rw [eq_iff, o2]; simpa using q2
    have q4 : (r == r) = true := by simp
    clear o1 o2 HO hz0 hne
    go_wp2_with fail
    refine (order_law (p ++ x) (q ++ y) _ r O1.out).mono ?_
    rintro e w5 ⟨rfl, rfl⟩
    go_wp2_with fail
    refine (order_law p q _ r O2.out).mono ?_
    rintro e w5 ⟨rfl, rfl⟩
    go_wp2_with fail
    refine (awake_ok _).mono ?_
    rintro e w6 ⟨rfl, hb6⟩
    go_wp2_with fail
    go_ret
    exact ⟨rfl, two hbel hb6⟩
  · have heq : xb = yb ∧ a.toList = b.toList := by simpa using hE
    have q2 : (r == 0) = true := by simpa using hz0.2 heq
    have q3 : (p.toList == q.toList) = true := by rw [hp.out, hq.out, heq.1, heq.2]; simp
    clear HO hz0 heq
    go_wp2_with (go_at_call 21; refine (awake_ok _).mono ?_; rintro e w5 ⟨rfl, hb5⟩)
    go_ret
    exact ⟨rfl, two hbel hb5⟩

theorem natOrder_walk (xb : Bool) (a : ByteArray) (yb : Bool) (b : ByteArray) (x y : ByteArray) (_w0 : a.size ≤ maxLen) (_w1 : b.size ≤ maxLen) (_w2 : x.size ≤ maxLen) (_w3 : y.size ≤ maxLen) (w : World) :
    Calls Tryd.prog 8 #[.agg #[.bool xb, .string a], .agg #[.bool yb, .string b], .string x, .string y] w fun e w' => e = .returned (.bool true) ∧ Below w.heap.size w w' := by
  by_cases h : 255 < a.size ∨ 255 < b.size ∨ 536870911 < x.size ∨ 536870911 < y.size
  · exact natOrder_big xb a yb b x y w h
  · by_cases ha : chk xb a.toList = 0
    · by_cases hb : chk yb b.toList = 0
      · exact natOrder_ok xb a yb b x y w (by omega) (by omega) (by omega) (by omega) ha hb
      · exact natOrder_bad xb a yb b x y w (by omega) (by omega) (by omega) (by omega) 0 (chk yb b.toList) (chk yb b.toList) (chk yb b.toList) ha rfl (.inr ⟨by simp, by simpa using hb⟩) (.inr ⟨ha, rfl, hb⟩) (.inl ⟨rfl, hb⟩) (by simpa using hb) (by simpa using hb)
    · by_cases hb : chk yb b.toList = 0
      · exact natOrder_bad xb a yb b x y w (by omega) (by omega) (by omega) (by omega) (chk xb a.toList) 0 (chk xb a.toList) (chk xb a.toList) rfl hb (.inl (by simpa using ha)) (.inl ⟨rfl, ha⟩) (.inr ⟨hb, rfl, ha⟩) (by simpa using ha) (by simpa using ha)
      · exact natOrder_bad xb a yb b x y w (by omega) (by omega) (by omega) (by omega) (chk xb a.toList) (chk yb b.toList) (chk xb a.toList) (chk yb b.toList) rfl rfl (.inl (by simpa using ha)) (.inl ⟨rfl, ha⟩) (.inl ⟨rfl, hb⟩) (by simpa using ha) (by simpa using hb)
end Go.Proofs.YtcgphlilijeifaaDoor
end
section
/-
  The walk of the law NatBack.
-/
namespace Go.Proofs.YtcgphlilijeifaaDoor
open Go.RowKit

/-- Print, of any number. -/
theorem print_any (x : Bool) (a : ByteArray) (w : World) (ha : a.size ≤ 9223372036854775807) (r : Int) (hr : chk x a.toList = r) :
    Calls Tryd.prog 24 #[.agg #[.bool x, .string a]] w fun e w' => ∃ p : ByteArray, e = .returned (.tuple #[.string p, .int .i64 r]) ∧ Hid (if r = 0 then p.toList = digitsV x a.toList else p = ⟨#[]⟩) ∧ Below w.heap.size w w' := by
  by_cases h : r = 0
  · subst h
    exact (print_ok x a w hr).mono fun e w' ⟨p, he, hp, hb⟩ => ⟨p, he, Lib.hid (by rw [if_pos rfl]; exact hp.out), hb⟩
  · exact (print_bad x a w ha r hr (by simpa using h)).mono fun e w' ⟨he, hb⟩ => ⟨_, he, Lib.hid (by rw [if_neg h]), hb⟩

/-- Parse, of what can be read. -/
theorem parse_yes (s : ByteArray) (w : World) (hs : s.size ≤ 9223372036854775807) (h : parseE s.toList = 0) (b : Bool) (hb : neg s.toList = b) :
    Calls Tryd.prog 26 #[.string s] w fun e w' => ∃ q : ByteArray, e = .returned (.tuple #[.agg #[.bool b, .string q], .int .i64 0]) ∧ Hid (q.toList = magN (dv (ds s.toList))) ∧ Below w.heap.size w w' := by
  refine (parse_any s w hs).mono ?_
  rintro e w' ⟨q, rfl, hq, hb1⟩
  refine ⟨q, ?_, Lib.hid (by rw [hq.out, if_pos h]), hb1⟩
  rw [h, hb]
  rfl
theorem digitsV_len (b : Bool) (m : List UInt8) : (digitsV b m).length ≤ 3 * m.length + 2 := by
  have h := dec_nv_len m
  unfold digitsV
  split
  · simp
  · rw [List.length_append]
    cases b <;> simp <;> omega

/-- One of the arguments is too long. -/
theorem natBack_big (xb : Bool) (a x y : ByteArray) (w : World) (h : 536870911 < a.size ∨ 536870911 < x.size ∨ 536870911 < y.size) :
    Calls Tryd.prog 5 #[.agg #[.bool xb, .string a], .string x, .string y] w (Yes w) := by
  have hbel : Below w.heap.size w (w.alloc (.cells #[.bool xb, .string a] 24)) := (Below.refl _ _).alloc (Nat.le_refl _) _
  by_cases h1 : 536870911 < a.size
  · have t1 : decide ((536870911 : Int) < (a.size : Int)) = true := by simp; omega
    clear h
    go_enter Tryd.func5, Tryd.ntmps5
    go_wp2
    go_ret
    exact ⟨rfl, hbel⟩
  · have t1 : decide ((536870911 : Int) < (a.size : Int)) = false := by simp; omega
    by_cases h2 : 536870911 < x.size
    · have t2 : decide ((536870911 : Int) < (x.size : Int)) = true := by simp; omega
      clear h
      go_enter Tryd.func5, Tryd.ntmps5
      go_wp2
      go_ret
      exact ⟨rfl, hbel⟩
    · have t2 : decide ((536870911 : Int) < (x.size : Int)) = false := by simp; omega
      have t3 : decide ((536870911 : Int) < (y.size : Int)) = true := by simp; omega
      clear h
      go_enter Tryd.func5, Tryd.ntmps5
      go_wp2
      go_ret
      exact ⟨rfl, hbel⟩

set_option maxRecDepth 100000 in
set_option maxHeartbeats 1000000 in
/-- A number that may not be. -/
theorem natBack_bad (xb : Bool) (a x y : ByteArray) (w : World) (ha : a.size ≤ 536870911) (hx : x.size ≤ 536870911) (hy : y.size ≤ 536870911)
    (r : Int) (hr : chk xb a.toList = r) (hr0 : r ≠ 0) :
    Calls Tryd.prog 5 #[.agg #[.bool xb, .string a], .string x, .string y] w (Yes w) := by
  have t1 : decide ((536870911 : Int) < (a.size : Int)) = false := by simp; omega
  have t2 : decide ((536870911 : Int) < (x.size : Int)) = false := by simp; omega
  have t3 : decide ((536870911 : Int) < (y.size : Int)) = false := by simp; omega
  have HR := Lib.hid hr
  have q1 : (r != 0) = true := by simpa using hr0
  have q2 : (r == r) = true := by simp
  obtain ⟨E, hE⟩ : ∃ E, decide ((255 : Int) < (a.size : Int)) = E := ⟨_, rfl⟩
  have q3 : (r == 21) = E := by
    rw [← hE, Bool.eq_iff_iff, beq_iff_eq, decide_eq_true_iff, ← hr, chk_21, size_of]
    omega
  have q4 : ((⟨#[]⟩ : ByteArray).toList == (⟨#[]⟩ : ByteArray).toList) = true := by simp
  clear hr hr0
  go_enter Tryd.func5, Tryd.ntmps5
  go_wp2_with fail
  refine (check_any xb a _ (by omega) r HR.out).mono ?_
  rintro e w1 ⟨rfl, hb1⟩
  obtain ⟨c0, c1, hz, hbw⟩ := num_cells hb1
  go_wp2_with fail
  refine (put_bad xb a _ (by omega) r HR.out (by simpa using q1) q1).mono ?_
  rintro e w2 ⟨rfl, hb2⟩
  have c0 := keep hb2 c0
  have c1 := keep hb2 c1
  go_wp2_with fail
  refine (print_bad xb a _ (by omega) r HR.out q1).mono ?_
  rintro e w3 ⟨rfl, hb3⟩
  have c0 := keep hb3 c0
  have c1 := keep hb3 c1
  have hbel := two (two hbw hb2) hb3
  clear HR hb1 hb2 hb3 hbw
  cases E
  all_goals
    go_wp2_with fail
    refine (awake_ok _).mono ?_
    rintro e w6 ⟨rfl, hb6⟩
    go_wp2_with fail
    go_ret
    exact ⟨rfl, two hbel hb6⟩

set_option maxRecDepth 100000 in
set_option maxHeartbeats 1000000 in
/-- A number that may be. -/
theorem natBack_ok (xb : Bool) (a x y : ByteArray) (w : World) (ha : a.size ≤ 536870911) (hx : x.size ≤ 536870911) (hy : y.size ≤ 536870911) (hr : chk xb a.toList = 0) :
    Calls Tryd.prog 5 #[.agg #[.bool xb, .string a], .string x, .string y] w (Yes w) := by
  have t1 : decide ((536870911 : Int) < (a.size : Int)) = false := by simp; omega
  have t2 : decide ((536870911 : Int) < (x.size : Int)) = false := by simp; omega
  have t3 : decide ((536870911 : Int) < (y.size : Int)) = false := by simp; omega
  have ha2 : a.size ≤ 255 := by have := (chk_zero_iff.1 hr).1; rw [size_of] at this; exact this
  have HR := Lib.hid hr
  have TP := fun u v => Lib.hid (takeE_put hr u v)
  have PP := Lib.hid (parse_print hr)
  have hq24 : ∀ (q : ByteArray), q.toList = a.toList → ∀ w : World, (binOp .eql 24 (.agg #[.bool xb, .string q]) (.agg #[.bool xb, .string a])).run Tryd.prog w = .ok (.bool true) w := fun q h => eql_num _ _ _ _ _ (by rw [h]; simp)
  clear hr
  go_enter Tryd.func5, Tryd.ntmps5
  go_wp2_with fail
  refine (check_any xb a _ (by omega) 0 HR.out).mono ?_
  rintro e w1 ⟨rfl, hb1⟩
  obtain ⟨c0, c1, hz, hbw⟩ := num_cells hb1
  go_wp2_with fail
  refine (put_ok xb a _ HR.out).mono ?_
  rintro e w2 ⟨p, rfl, hp, hb2⟩
  have c0 := keep hb2 c0
  have c1 := keep hb2 c1
  have hpl : p.size ≤ 257 := by have h1 := put_len xb a.toList; rw [← hp.out, size_of, size_of] at h1; omega
  go_wp2_with fail
  refine (print_any xb a _ (by omega) 0 HR.out).mono ?_
  rintro e w3 ⟨d, rfl, hd, hb3⟩
  have c0 := keep hb3 c0
  have c1 := keep hb3 c1
  have hd' := hd.out
  rw [if_pos rfl] at hd'
  have HD := Lib.hid hd'
  have hbel := two (two hbw hb2) hb3
  have hz3 : w.heap.size < w3.heap.size := by have := hb2.size; have := hb3.size; omega
  have hT : takeE (x ++ p ++ y).toList x.size = .ok (xb, a.toList, x.size + p.size) := by
    rw [cat_list, cat_list, hp.out, List.append_assoc, ← size_of x]
    have h := (TP x.toList y.toList).out
    rw [h, ← hp.out, size_of p]
  have HT := Lib.hid hT
  clear hd hd' hb1 hb2 hb3 hbw hT TP
  go_wp2_with fail
  refine (take_at (x ++ p ++ y) x.size _ (by simp; omega) (by simp; omega)).mono ?_
  intro e w4 ht
  unfold TakePost at ht
  rw [HT.out] at ht
  obtain ⟨m, rfl, hm, hb4⟩ := ht
  have c0 := keep hb4 c0
  have c1 := keep hb4 c1
  have hz4 : w.heap.size < w4.heap.size := by have := hb4.size; omega
  go_wp2_with fail
  refine (parse_yes d _ (by have h1 := digitsV_len xb a.toList; rw [← HD.out, size_of, size_of] at h1; omega) (by rw [HD.out]; exact PP.out.1) xb (by rw [HD.out]; exact PP.out.2.1)).mono ?_
  rintro e w5 ⟨k, rfl, hk, hb5⟩
  obtain ⟨d0, d1, hz5, hbw5⟩ := num_cells hb5
  have c0 := (hbw5.cell (p := ⟨w.heap.size, 0, none⟩) hz4).trans c0
  have c1 := (hbw5.cell (p := ⟨w.heap.size, 1, none⟩) hz4).trans c1
  have hz6 : w.heap.size < w5.heap.size := by omega
  have e1 := hq24 m hm.out
  have e2 := hq24 k (by rw [hk.out, HD.out]; exact PP.out.2.2)
  have q5 : ((x.size : Int) + (p.size : Int) == (x.size : Int) + (p.size : Int)) = true := by simp
  have hbel2 := two (two hbel hb4) hbw5
  clear hb4 hb5 hbel hbw5 PP HD HT hq24
  go_wp2_with fail
  refine (awake_ok _).mono ?_
  rintro e w6 ⟨rfl, hb6⟩
  obtain ⟨_, _, _, hbw6⟩ := num_cells hb6
  go_wp2_with fail
  go_ret
  exact ⟨rfl, two hbel2 hbw6⟩

theorem natBack_walk (xb : Bool) (a x y : ByteArray) (_w0 : a.size ≤ maxLen) (_w1 : x.size ≤ maxLen) (_w2 : y.size ≤ maxLen) (w : World) :
    Calls Tryd.prog 5 #[.agg #[.bool xb, .string a], .string x, .string y] w fun e w' => e = .returned (.bool true) ∧ Below w.heap.size w w' := by
  by_cases h : 536870911 < a.size ∨ 536870911 < x.size ∨ 536870911 < y.size
  · exact natBack_big xb a x y w h
  · by_cases hr : chk xb a.toList = 0
    · exact natBack_ok xb a x y w (by omega) (by omega) (by omega) hr
    · exact natBack_bad xb a x y w (by omega) (by omega) (by omega) _ rfl hr
end Go.Proofs.YtcgphlilijeifaaDoor
end
