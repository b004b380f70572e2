/-
  The walk of the law OrdEscapes: it returns true, for every four texts.
-/
import Derived.Test.YtocmnkcnghapfaaLawOrd
import Derived.Test.YtocmnkcnghapfaaCmpEsc
namespace Go.Proofs.Ytocmnkcnghapfaa
open Go.RowKit

theorem size_of (s : ByteArray) : s.toList.length = s.size := by rw [Lib.toList_data, Lib.size_eq]
theorem app_list (a b : ByteArray) : (a ++ b).toList = a.toList ++ b.toList := by
  rw [Lib.toList_data, Lib.toList_data, Lib.toList_data, ByteArray.data_append, Array.toList_append]
theorem app_size (a b : ByteArray) : (a ++ b).size = a.size + b.size := by
  rw [← size_of, app_list, List.length_append, size_of, size_of]

set_option maxRecDepth 100000 in
/-- Beyond the bound nothing is said. -/
theorem escapes_big (a b x y : ByteArray) (w : World) (h : ¬ (a.size ≤ 268435455 ∧ b.size ≤ 268435455 ∧ x.size ≤ 268435455 ∧ y.size ≤ 268435455)) :
    Calls Try.prog 6 #[.string a, .string b, .string x, .string y] w fun e w' => e = .returned (.bool true) ∧ Below w.heap.size w w' := by
  by_cases h1 : 268435455 < a.size
  · go_enter Try.func6, Try.ntmps6
    go_wp2
    go_ret
    exact ⟨rfl, Below.refl _ _⟩
  · by_cases h2 : 268435455 < b.size
    · clear h
      go_enter Try.func6, Try.ntmps6
      go_wp2
      go_ret
      exact ⟨rfl, Below.refl _ _⟩
    · by_cases h3 : 268435455 < x.size
      · clear h
        go_enter Try.func6, Try.ntmps6
        go_wp2
        go_ret
        exact ⟨rfl, Below.refl _ _⟩
      · have h4 : 268435455 < y.size := by omega
        clear h
        go_enter Try.func6, Try.ntmps6
        go_wp2
        go_ret
        exact ⟨rfl, Below.refl _ _⟩

/-- What the first half of the law finds. -/
theorem escapes_read (a x y : ByteArray) (p : ByteArray) (hp : p.toList = esc a.toList ++ [0, 1]) :
    un (p ++ x).toList = (a.toList, p.size, 0) ∧ un ((y ++ p ++ x).toList.drop y.size) = (a.toList, p.size, 0) := by
  have h := un_esc a.toList x.toList
  have hs : p.size = (esc a.toList).length + 2 := by rw [← size_of, hp]; simp
  have e : (p ++ x).toList = esc a.toList ++ 0 :: 1 :: x.toList := by rw [app_list, hp]; simp
  refine ⟨by rw [e, h, hs], ?_⟩
  rw [app_list, app_list, List.append_assoc, ← size_of y, List.drop_left, ← app_list, e, h, hs]

theorem esc_size (a p : ByteArray) (hp : p.toList = esc a.toList ++ [0, 1]) : p.size ≤ 2 * a.size + 2 := by
  have := esc_len a.toList
  rw [size_of] at this
  rw [← size_of, hp]
  simp; omega

theorem cswap {a b : List UInt8} {c d : Int} (h : cmp a b = c) (hd : -c = d) : cmp b a = d := by rw [cmp_swap, h, hd]
theorem cmp_app {a b x y p q : ByteArray} (hp : p.toList = esc a.toList ++ [0, 1]) (hq : q.toList = esc b.toList ++ [0, 1]) (h : a.toList ≠ b.toList) : cmp (p ++ x).toList (q ++ y).toList = cmp a.toList b.toList := by
  rw [app_list, app_list, hp, hq, List.append_assoc, List.append_assoc]
  exact cmp_esc a.toList b.toList x.toList y.toList h

set_option maxRecDepth 100000 in
set_option maxHeartbeats 800000 in
theorem escapes_eq (a x y : ByteArray) (w : World) (h1 : a.size ≤ 268435455) (h3 : x.size ≤ 268435455) (h4 : y.size ≤ 268435455) :
    Calls Try.prog 6 #[.string a, .string a, .string x, .string y] w fun e w' => e = .returned (.bool true) ∧ Below w.heap.size w w' := by
  go_enter Try.func6, Try.ntmps6
  go_wp2_with fail
  refine (escape_c _ _ (by omega)).mono ?_
  rintro e w1 ⟨p, rfl, hp, hb1⟩
  have zp := esc_size a p hp.out
  go_wp2_with fail
  refine (escape_c _ _ (by omega)).mono ?_
  rintro e w2 ⟨q, rfl, hq, hb2⟩
  have zq := esc_size a q hq.out
  have fpq : (p.toList == q.toList) = true := by rw [hp.out, hq.out]; exact beq_self_eq_true _
  go_wp2_with fail
  refine (unescape_c _ _ a.toList p.size 0 _ (by rw [app_size]; omega) (by decide) (by rw [app_size]; omega) (by simpa using (escapes_read a x y p hp.out).1)).mono ?_
  rintro e w3 ⟨s, n, rfl, hs, hn, hb3⟩
  have f1 : (s.toList == a.toList) = true := by rw [hs.out]; exact beq_self_eq_true _
  have f2 : (n == (p.size : Int)) = true := by rw [hn.out]; simp
  have f2' : (n != (p.size : Int)) = false := by rw [hn.out]; simp
  go_wp2_with fail
  refine (unescape_c _ _ a.toList q.size 0 _ (by rw [app_size, app_size]; omega) (by omega) (by rw [app_size, app_size]; omega) (by rw [Int.toNat_natCast]; exact (escapes_read a x y q hq.out).2)).mono ?_
  rintro e w4 ⟨t, m, rfl, ht, hm, hb4⟩
  have f3 : (t.toList == a.toList) = true := by rw [ht.out]; exact beq_self_eq_true _
  have f4 : (m == (y.size : Int) + (q.size : Int)) = true := by rw [hm.out]; simp
  have f4' : (m != (y.size : Int) + (q.size : Int)) = false := by rw [hm.out]; simp
  go_wp2_with fail
  refine (order_any _ _ _ 0 (cmp_self _)).mono ?_
  rintro e w5 ⟨rfl, hb5⟩
  go_wp2_with fail
  refine (compare_c _ _ _ (by omega) (by omega) 0 (cmp_self _)).mono ?_
  rintro e w6 ⟨rfl, hb6⟩
  go_wp2_with fail
  refine (compare_c _ _ _ (by omega) (by omega) 0 (cmp_self _)).mono ?_
  rintro e w7 ⟨rfl, hb7⟩
  go_wp2_with fail
  refine (awake_any _).mono ?_
  rintro e w8 ⟨rfl, hb8⟩
  go_wp2
  go_ret
  exact ⟨rfl, two (two (two (two (two (two (two hb1 hb2) hb3) hb4) hb5) hb6) hb7) hb8⟩

set_option maxRecDepth 100000 in
set_option maxHeartbeats 800000 in
theorem escapes_ne (a b x y : ByteArray) (w : World) (h1 : a.size ≤ 268435455) (h2 : b.size ≤ 268435455) (h3 : x.size ≤ 268435455) (h4 : y.size ≤ 268435455) (hne : a.toList ≠ b.toList) :
    Calls Try.prog 6 #[.string a, .string b, .string x, .string y] w fun e w' => e = .returned (.bool true) ∧ Below w.heap.size w w' := by
  have hab : (a.toList == b.toList) = false := by simpa using hne
  obtain ⟨c, hc, hor⟩ : ∃ c, cmp a.toList b.toList = c ∧ (c = -1 ∨ c = 1) := by
    refine ⟨_, rfl, ?_⟩
    rcases cmp_three a.toList b.toList with h | h | h
    · exact .inl h
    · exact absurd (cmp_zero h) hne
    · exact .inr h
  have HN := Lib.hid hne
  have HC := Lib.hid hc
  clear hne hc
  rcases hor with rfl | rfl
  all_goals
    go_enter Try.func6, Try.ntmps6
    go_wp2_with fail
    refine (escape_c _ _ (by omega)).mono ?_
    rintro e w1 ⟨p, rfl, hp, hb1⟩
    have zp := esc_size a p hp.out
    go_wp2_with fail
    refine (escape_c _ _ (by omega)).mono ?_
    rintro e w2 ⟨q, rfl, hq, hb2⟩
    have zq := esc_size b q hq.out
    have fpq : (p.toList == q.toList) = false := by
      rw [hp.out, hq.out, beq_eq_false_iff_ne]
      exact fun h => HN.out (esc_inj (z := []) h)
    go_wp2_with fail
    refine (unescape_c _ _ a.toList p.size 0 _ (by rw [app_size]; omega) (by decide) (by rw [app_size]; omega) (by simpa using (escapes_read a x y p hp.out).1)).mono ?_
    rintro e w3 ⟨s, n, rfl, hs, hn, hb3⟩
    have f1 : (s.toList == a.toList) = true := by rw [hs.out]; exact beq_self_eq_true _
    have f2 : (n == (p.size : Int)) = true := by rw [hn.out]; simp
    have f2' : (n != (p.size : Int)) = false := by rw [hn.out]; simp
    go_wp2_with fail
    refine (unescape_c _ _ b.toList q.size 0 _ (by rw [app_size, app_size]; omega) (by omega) (by rw [app_size, app_size]; omega) (by rw [Int.toNat_natCast]; exact (escapes_read b x y q hq.out).2)).mono ?_
    rintro e w4 ⟨t, m, rfl, ht, hm, hb4⟩
    have f3 : (t.toList == b.toList) = true := by rw [ht.out]; exact beq_self_eq_true _
    have f4 : (m == (y.size : Int) + (q.size : Int)) = true := by rw [hm.out]; simp
    have f4' : (m != (y.size : Int) + (q.size : Int)) = false := by rw [hm.out]; simp
    go_wp2_with fail
    refine (order_any _ _ _ _ HC.out).mono ?_
    rintro e w5 ⟨rfl, hb5⟩
    go_wp2_with fail
    refine (compare_c _ _ _ (by omega) (by omega) _ HC.out).mono ?_
    rintro e w6 ⟨rfl, hb6⟩
    go_wp2_with fail
    refine (compare_c _ _ _ (by omega) (by omega) _ (cswap HC.out rfl)).mono ?_
    rintro e w7 ⟨rfl, hb7⟩
    go_wp2_with fail
    refine (begins_any _ _ _ false (by
      rw [hp.out, hq.out, Bool.eq_false_iff]
      exact fun h => esc_no_prefix (fun e => HN.out e.symm) (List.isPrefixOf_iff_prefix.1 h))).mono ?_
    rintro e w8 ⟨rfl, hb8⟩
    go_wp2_with fail
    refine (begins_any _ _ _ false (by
      rw [hp.out, hq.out, Bool.eq_false_iff]
      exact fun h => esc_no_prefix HN.out (List.isPrefixOf_iff_prefix.1 h))).mono ?_
    rintro e w9 ⟨rfl, hb9⟩
    go_wp2_with fail
    refine (order_any _ _ _ _ (by
      exact (cmp_app hp.out hq.out HN.out).trans HC.out)).mono ?_
    rintro e w10 ⟨rfl, hb10⟩
    go_wp2_with fail
    refine (flip_c _ _ (by omega)).mono ?_
    rintro e w11 ⟨u, rfl, hu, hb11⟩
    have zu : u.size ≤ p.size := by rw [← size_of, ← size_of, hu.out]; simp
    go_wp2_with fail
    refine (flip_c _ _ (by omega)).mono ?_
    rintro e w12 ⟨v, rfl, hv, hb12⟩
    have zv : v.size ≤ q.size := by rw [← size_of, ← size_of, hv.out]; simp
    go_wp2_with fail
    refine (order_any _ _ _ _ (by
      rw [app_list, app_list, hu.out, hv.out, hp.out, hq.out, cmp_flip _ _ _ _ (esc_no_prefix HN.out) (esc_no_prefix (fun e => HN.out e.symm)), cmp_esc a.toList b.toList [] [] HN.out, HC.out])).mono ?_
    rintro e w13 ⟨rfl, hb13⟩
    go_wp2_with fail
    refine (awake_any _).mono ?_
    rintro e w14 ⟨rfl, hb14⟩
    go_wp2
    go_ret
    exact ⟨rfl, two (two (two (two (two (two (two (two (two (two (two (two (two hb1 hb2) hb3) hb4) hb5) hb6) hb7) hb8) hb9) hb10) hb11) hb12) hb13) hb14⟩

theorem ordEscapes_walk (a b x y : ByteArray) (_w0 : a.size ≤ maxLen) (_w1 : b.size ≤ maxLen) (_w2 : x.size ≤ maxLen) (_w3 : y.size ≤ maxLen) (w : World) :
    Calls Try.prog 6 #[.string a, .string b, .string x, .string y] w fun e w' => e = .returned (.bool true) ∧ Below w.heap.size w w' := by
  by_cases h : a.size ≤ 268435455 ∧ b.size ≤ 268435455 ∧ x.size ≤ 268435455 ∧ y.size ≤ 268435455
  · by_cases hne : a.toList = b.toList
    · have : a = b := ba_eq (by rw [← Lib.toList_data, ← Lib.toList_data]; exact hne)
      subst this
      exact escapes_eq a x y w h.1 h.2.2.1 h.2.2.2
    · exact escapes_ne a b x y w h.1 h.2.1 h.2.2.1 h.2.2.2 hne
  · exact escapes_big a b x y w h
end Go.Proofs.Ytocmnkcnghapfaa
