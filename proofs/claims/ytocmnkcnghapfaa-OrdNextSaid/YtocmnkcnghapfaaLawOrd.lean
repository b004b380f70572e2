/-
  The callees' contracts as the laws of layer 1 use them; the law's own begins and awake.
-/
import Derived.Test.YtocmnkcnghapfaaFlip
import Derived.Test.YtocmnkcnghapfaaNext
import Derived.Lib.Strings
namespace Go.Proofs.Ytocmnkcnghapfaa
open Go.RowKit

theorem escape_c (s : ByteArray) (w : World) (hs : s.size ≤ 1099511627776) :
    Calls Try.prog 10 #[.string s] w fun e w' => ∃ p : ByteArray, e = .returned (.string p) ∧ Hid (p.toList = esc s.toList ++ [0, 1]) ∧ Below w.heap.size w w' :=
  (escape_any s w hs).mono fun _ _ ⟨he, hb⟩ => ⟨_, he, by show ByteArray.toList _ = _; rw [ByteArray.toList_mk, Lib.toList_data], hb⟩
theorem flip_c (s : ByteArray) (w : World) (hs : s.size ≤ 1099511627776) :
    Calls Try.prog 15 #[.string s] w fun e w' => ∃ p : ByteArray, e = .returned (.string p) ∧ Hid (p.toList = s.toList.map (255 - ·)) ∧ Below w.heap.size w w' :=
  (flip_any s w hs).mono fun _ _ ⟨he, hb⟩ => ⟨_, he, by show ByteArray.toList _ = _; rw [ByteArray.toList_mk, Lib.toList_data], hb⟩
theorem next_none (s : ByteArray) (w : World) (hs : s.size ≤ 1099511627776) (hr : nx s.toList = none) :
    Calls Try.prog 16 #[.string s] w fun e w' => e = .returned (.tuple #[.string ⟨#[]⟩, .bool false]) ∧ Below w.heap.size w w' :=
  next_any s w hs none (by rw [← hr, Lib.toList_data])
theorem next_some (s : ByteArray) (w : World) (hs : s.size ≤ 1099511627776) (m : List UInt8) (hr : nx s.toList = some m) :
    Calls Try.prog 16 #[.string s] w fun e w' => ∃ p : ByteArray, e = .returned (.tuple #[.string p, .bool true]) ∧ Hid (p.toList = m) ∧ Below w.heap.size w w' :=
  (next_any s w hs (some m) (by rw [← hr, Lib.toList_data])).mono fun _ _ ⟨he, hb⟩ => ⟨_, he, by show ByteArray.toList _ = _; rw [ByteArray.toList_mk]; rfl, hb⟩
theorem unescape_c (s : ByteArray) (i : Int) (t : List UInt8) (m : Nat) (c : Int) (w : World) (hs : s.size ≤ 1099511627776) (h0 : 0 ≤ i) (hi : i ≤ s.size) (hr : un (s.toList.drop i.toNat) = (t, m, c)) :
    Calls Try.prog 11 #[.string s, .int .i64 i] w fun e w' => ∃ (p : ByteArray) (n : Int), e = .returned (.tuple #[.string p, .int .i64 n, .int .i64 c]) ∧ Hid (p.toList = t) ∧ Hid (n = i + m) ∧ Below w.heap.size w w' := by
  obtain ⟨k, rfl⟩ := Int.eq_ofNat_of_zero_le h0
  rw [Lib.toList_data] at hr
  exact (unescape_in s k w hs (by omega) _ hr).mono fun _ _ ⟨he, hb⟩ => ⟨_, _, he, by show ByteArray.toList _ = _; rw [ByteArray.toList_mk], by show _ = _; simp, hb⟩
theorem compare_c (a b : ByteArray) (w : World) (ha : a.size ≤ 1099511627776) (hb : b.size ≤ 1099511627776) (r : Int) (hr : cmp a.toList b.toList = r) :
    Calls Try.prog 13 #[.string a, .string b] w fun e w' => e = .returned (.int .i64 r) ∧ Below w.heap.size w w' :=
  compare_any a b w ha hb r (by rw [← hr, Lib.toList_data, Lib.toList_data])

theorem begins_any (a b : ByteArray) (w : World) (r : Bool) (hr : b.toList.isPrefixOf a.toList = r) :
    Calls Try.prog 14 #[.string a, .string b] w fun e w' => e = .returned (.bool r) ∧ Below w.heap.size w w' := by
  rw [Lib.toList_data, Lib.toList_data] at hr
  by_cases h : b.size ≤ a.size
  · have hx : ((a.extract 0 b.size).toList == b.toList) = r := by
      rw [← hr, Lib.extract_toList, Lib.toList_data, List.drop_zero, Nat.sub_zero, Lib.size_eq, Bool.eq_iff_iff]
      simp only [beq_iff_eq, List.isPrefixOf_iff_prefix]
      exact ⟨fun h => h ▸ List.take_prefix _ _, fun h => (List.prefix_iff_eq_take.1 h).symm⟩
    clear hr
    go_enter Try.func14, Try.ntmps14
    go_wp2
    go_ret
    exact ⟨rfl, Below.refl _ _⟩
  · have hr0 : r = false := by
      rw [← hr, Bool.eq_false_iff]
      intro hp
      have := (List.isPrefixOf_iff_prefix.1 hp).length_le
      rw [← Lib.size_eq, ← Lib.size_eq] at this
      omega
    subst hr0
    clear hr
    go_enter Try.func14, Try.ntmps14
    go_wp2
    go_ret
    exact ⟨rfl, Below.refl _ _⟩

theorem two {W a b : World} (h : Below W.heap.size W a) (k : Below a.heap.size a b) : Below W.heap.size W b := h.trans (k.mono h.size)

theorem awake_any (w : World) : Calls Try.prog 9 #[] w fun e w' => e = .returned (.bool true) ∧ Below w.heap.size w w' := by
  go_enter Try.func9, Try.ntmps9
  go_wp2_with fail
  refine (unescape_c _ _ [97, 0] 5 0 _ (by decide) (by decide) (by decide) (by rw [Lib.toList_data]; rfl)).mono ?_
  rintro e w1 ⟨p, n, rfl, hp, hn, hb1⟩
  have f1 : (p.toList == [97, 0]) = true := by rw [hp.out]; rfl
  have f2 : (n == 5) = true := by rw [hn.out]; rfl
  go_wp2_with fail
  refine (next_some _ _ (by decide) [98] (by rw [Lib.toList_data]; rfl)).mono ?_
  rintro e w2 ⟨q, rfl, hq, hb2⟩
  have f3 : (q.toList == [98]) = true := by rw [hq.out]; rfl
  go_wp2_with fail
  refine (compare_c _ _ _ (by decide) (by decide) (-1) (by rw [Lib.toList_data, Lib.toList_data]; rfl)).mono ?_
  rintro e w3 ⟨rfl, hb3⟩
  go_wp2_with fail
  refine (escape_c _ _ (by decide)).mono ?_
  rintro e w4 ⟨r, rfl, hr, hb4⟩
  have f4 : (r.toList == [97, 0, 255, 0, 1]) = true := by rw [hr.out, Lib.toList_data]; rfl
  go_wp2_with fail
  refine (flip_c _ _ (by decide)).mono ?_
  rintro e w5 ⟨t, rfl, ht, hb5⟩
  have f5 : (t.toList == [255, 158]) = true := by rw [ht.out, Lib.toList_data]; rfl
  go_wp2_with fail
  go_ret
  exact ⟨rfl, two (two (two (two hb1 hb2) hb3) hb4) hb5⟩

theorem ordNames_walk (w : World) : Calls Try.prog 5 #[] w fun e w' => e = .returned (.bool true) ∧ Below w.heap.size w w' := by
  go_enter Try.func5, Try.ntmps5
  go_wp2_with fail
  refine (awake_any _).mono ?_
  rintro e w1 ⟨rfl, hb⟩
  go_wp2
  go_ret
  exact ⟨rfl, hb⟩
end Go.Proofs.Ytocmnkcnghapfaa
