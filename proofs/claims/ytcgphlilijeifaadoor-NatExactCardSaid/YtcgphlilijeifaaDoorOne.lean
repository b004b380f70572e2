/-
  The law's 'one' and 'add': a call on both.
-/
import Derived.Test.YtcgphlilijeifaaDoorBoth
namespace Go.Proofs.YtcgphlilijeifaaDoor
open Go.RowKit

set_option maxRecDepth 100000 in
set_option maxHeartbeats 1000000 in
theorem one_1 (ab bb : Bool) (a b s : ByteArray) (i : Int) (w : World) (ha : a.size ≤ 9223372036854775807) :
    Calls Tryd.prog 28 #[.agg #[.int .i64 1, .bool ab, .string a, .bool bb, .string b, .string s, .int .i64 i]] w (Yes w) := by
  obtain ⟨r, hB⟩ := both_check ab a ha
  have HB := Lib.hid hB
  clear hB
  go_enter Tryd.func28, Tryd.ntmps28
  go_wp2_with fail
  obtain ⟨W, hW⟩ : ∃ W, W = w.alloc (.cells #[.int .i64 1, .bool ab, .string a, .bool bb, .string b, .string s, .int .i64 i] 63) := ⟨_, rfl⟩
  have c1 : W.cell? ⟨w.heap.size, 1, none⟩ = some (.bool ab) := by rw [hW]; simp
  have c2 : W.cell? ⟨w.heap.size, 2, none⟩ = some (.string a) := by rw [hW]; simp
  have hb0 : Below w.heap.size w W := by rw [hW]; exact (Below.refl _ _).alloc (Nat.le_refl _) _
  have hb1 := hb0.drew
  rw [← hW]
  clear hW
  go_region_held3 (fun w' => w'.cell? ⟨w.heap.size, 1, none⟩ = some (.bool ab) ∧ w'.cell? ⟨w.heap.size, 2, none⟩ = some (.string a) ∧ Below w.heap.size w w') (go_keep) (first
    | (go_at_call 22; refine (HB.out.1 _).mono ?_; rintro e w2 ⟨rfl, hb2⟩; have k1 := keep hb2 (p := ⟨w.heap.size, 1, none⟩) (v := .bool ab) (by assumption); have k2 := keep hb2 (p := ⟨w.heap.size, 2, none⟩) (v := .string a) (by assumption); have k0 := two (by assumption) hb2)
    | (go_at_call 64; refine (HB.out.2 _).mono ?_; rintro e w2 ⟨rfl, hb2⟩; have k1 := keep hb2 (p := ⟨w.heap.size, 1, none⟩) (v := .bool ab) (by assumption); have k2 := keep hb2 (p := ⟨w.heap.size, 2, none⟩) (v := .string a) (by assumption); have k0 := two (by assumption) hb2))
  go_wp2_with fail
  go_ret
  exact ⟨rfl, by assumption⟩

set_option maxRecDepth 100000 in
set_option maxHeartbeats 1000000 in
theorem one_2 (ab bb : Bool) (a b s : ByteArray) (i : Int) (w : World) (h0 : -9223372036854775808 ≤ i) (h1 : i ≤ 9223372036854775807) :
    Calls Tryd.prog 28 #[.agg #[.int .i64 2, .bool ab, .string a, .bool bb, .string b, .string s, .int .i64 i]] w (Yes w) := by
  obtain ⟨b2, p, hB⟩ := both_of i h0 h1
  have HB := Lib.hid hB
  have heq : ∀ w : World, (binOp .eql 24 (.agg #[.bool b2, .string p]) (.agg #[.bool b2, .string p])).run Tryd.prog w = .ok (.bool true) w := eql_num _ _ _ _ true (by simp)
  clear hB
  go_enter Tryd.func28, Tryd.ntmps28
  go_wp2_with fail
  obtain ⟨W, hW⟩ : ∃ W, W = w.alloc (.cells #[.int .i64 2, .bool ab, .string a, .bool bb, .string b, .string s, .int .i64 i] 63) := ⟨_, rfl⟩
  have c6 : W.cell? ⟨w.heap.size, 6, none⟩ = some (.int .i64 i) := by rw [hW]; simp
  have hb0 : Below w.heap.size w W := by rw [hW]; exact (Below.refl _ _).alloc (Nat.le_refl _) _
  have hb1 := hb0.drew
  rw [← hW]
  clear hW
  go_region_held3 (fun w' => w'.cell? ⟨w.heap.size, 6, none⟩ = some (.int .i64 i) ∧ Below w.heap.size w w') (go_keep) (first
    | (go_at_call 31; refine (HB.out.1 _).mono ?_; rintro e w2 ⟨rfl, hb2⟩; have k6 := keep hb2 (p := ⟨w.heap.size, 6, none⟩) (v := .int .i64 i) (by assumption); have k0 := two (by assumption) hb2)
    | (go_at_call 65; refine (HB.out.2 _).mono ?_; rintro e w2 ⟨rfl, hb2⟩; have k6 := keep hb2 (p := ⟨w.heap.size, 6, none⟩) (v := .int .i64 i) (by assumption); have k0 := two (by assumption) hb2))
  go_wp2_with fail
  go_ret
  exact ⟨rfl, by assumption⟩

set_option maxRecDepth 100000 in
set_option maxHeartbeats 1000000 in
theorem one_3 (ab bb : Bool) (a b s : ByteArray) (i : Int) (w : World) (ha : a.size ≤ 9223372036854775807) :
    Calls Tryd.prog 28 #[.agg #[.int .i64 3, .bool ab, .string a, .bool bb, .string b, .string s, .int .i64 i]] w (Yes w) := by
  obtain ⟨x, y, hB⟩ := both_small ab a ha
  have HB := Lib.hid hB
  clear hB
  go_enter Tryd.func28, Tryd.ntmps28
  go_wp2_with fail
  obtain ⟨W, hW⟩ : ∃ W, W = w.alloc (.cells #[.int .i64 3, .bool ab, .string a, .bool bb, .string b, .string s, .int .i64 i] 63) := ⟨_, rfl⟩
  have c1 : W.cell? ⟨w.heap.size, 1, none⟩ = some (.bool ab) := by rw [hW]; simp
  have c2 : W.cell? ⟨w.heap.size, 2, none⟩ = some (.string a) := by rw [hW]; simp
  have hb0 : Below w.heap.size w W := by rw [hW]; exact (Below.refl _ _).alloc (Nat.le_refl _) _
  rw [← hW]
  clear hW
  go_wp2_with fail
  refine (HB.out.1 _).mono ?_
  rintro e w1 ⟨rfl, hb1⟩
  have d1 := keep hb1 c1
  have d2 := keep hb1 c2
  have hbel := two hb0 hb1
  clear c1 c2 hb0 hb1
  go_wp2_with fail
  refine (HB.out.2 _).mono ?_
  rintro e w2 ⟨rfl, hb2⟩
  have hbel2 := two hbel hb2
  go_wp2_with fail
  go_ret
  exact ⟨rfl, hbel2⟩

set_option maxRecDepth 100000 in
set_option maxHeartbeats 1000000 in
theorem one_4 (ab bb : Bool) (a b s : ByteArray) (i : Int) (w : World) (ha : a.size ≤ 9223372036854775807) (hb : b.size ≤ 9223372036854775807) :
    Calls Tryd.prog 28 #[.agg #[.int .i64 4, .bool ab, .string a, .bool bb, .string b, .string s, .int .i64 i]] w (Yes w) := by
  obtain ⟨c, r, hB⟩ := both_compare ab a bb b ha hb
  have HB := Lib.hid hB
  clear hB
  go_enter Tryd.func28, Tryd.ntmps28
  go_wp2_with fail
  obtain ⟨W, hW⟩ : ∃ W, W = w.alloc (.cells #[.int .i64 4, .bool ab, .string a, .bool bb, .string b, .string s, .int .i64 i] 63) := ⟨_, rfl⟩
  have c1 : W.cell? ⟨w.heap.size, 1, none⟩ = some (.bool ab) := by rw [hW]; simp
  have c2 : W.cell? ⟨w.heap.size, 2, none⟩ = some (.string a) := by rw [hW]; simp
  have c3 : W.cell? ⟨w.heap.size, 3, none⟩ = some (.bool bb) := by rw [hW]; simp
  have c4 : W.cell? ⟨w.heap.size, 4, none⟩ = some (.string b) := by rw [hW]; simp
  have hb0 : Below w.heap.size w W := by rw [hW]; exact (Below.refl _ _).alloc (Nat.le_refl _) _
  rw [← hW]
  clear hW
  go_wp2_with fail
  refine (HB.out.1 _).mono ?_
  rintro e w1 ⟨rfl, hb1⟩
  have d1 := keep hb1 c1
  have d2 := keep hb1 c2
  have d3 := keep hb1 c3
  have d4 := keep hb1 c4
  have hbel := two hb0 hb1
  clear c1 c2 c3 c4 hb0 hb1
  go_wp2_with fail
  refine (HB.out.2 _).mono ?_
  rintro e w2 ⟨rfl, hb2⟩
  have hbel2 := two hbel hb2
  go_wp2_with fail
  go_ret
  exact ⟨rfl, hbel2⟩

set_option maxRecDepth 100000 in
set_option maxHeartbeats 1000000 in
theorem one_5 (ab bb : Bool) (a b s : ByteArray) (i : Int) (w : World) (hs : s.size ≤ 9223372036854775807) :
    Calls Tryd.prog 28 #[.agg #[.int .i64 5, .bool ab, .string a, .bool bb, .string b, .string s, .int .i64 i]] w (Yes w) := by
  obtain ⟨b2, p, r, hB⟩ := both_parse s hs
  have HB := Lib.hid hB
  have heq : ∀ w : World, (binOp .eql 24 (.agg #[.bool b2, .string p]) (.agg #[.bool b2, .string p])).run Tryd.prog w = .ok (.bool true) w := eql_num _ _ _ _ true (by simp)
  clear hB
  go_enter Tryd.func28, Tryd.ntmps28
  go_wp2_with fail
  obtain ⟨W, hW⟩ : ∃ W, W = w.alloc (.cells #[.int .i64 5, .bool ab, .string a, .bool bb, .string b, .string s, .int .i64 i] 63) := ⟨_, rfl⟩
  have c5 : W.cell? ⟨w.heap.size, 5, none⟩ = some (.string s) := by rw [hW]; simp
  have hb0 : Below w.heap.size w W := by rw [hW]; exact (Below.refl _ _).alloc (Nat.le_refl _) _
  rw [← hW]
  clear hW
  go_wp2_with fail
  refine (HB.out.1 _).mono ?_
  rintro e w1 ⟨rfl, hb1⟩
  have d5 := keep hb1 c5
  have hz1 : w.heap.size < w1.heap.size := World.block_lt_of_cell? w1 _ d5
  have hbel := two hb0 hb1
  clear c5 hb0 hb1
  go_wp2_with fail
  refine (HB.out.2 _).mono ?_
  rintro e w2 ⟨rfl, hb2⟩
  obtain ⟨n0, n1, hz, hbw⟩ := num_cells hb2
  have hbel2 := two hbel hbw
  go_wp2_with fail
  go_ret
  exact ⟨rfl, hbel2.alloc (by have := hbel2.size; omega) _⟩

set_option maxRecDepth 100000 in
set_option maxHeartbeats 1000000 in
theorem one_6 (ab bb : Bool) (a b s : ByteArray) (i : Int) (w : World) (ha : a.size ≤ 9223372036854775807) :
    Calls Tryd.prog 28 #[.agg #[.int .i64 6, .bool ab, .string a, .bool bb, .string b, .string s, .int .i64 i]] w (Yes w) := by
  obtain ⟨p, r, hB⟩ := both_print ab a ha
  have HB := Lib.hid hB
  have heq : (p.toList == p.toList) = true := by simp
  clear hB
  go_enter Tryd.func28, Tryd.ntmps28
  go_wp2_with fail
  obtain ⟨W, hW⟩ : ∃ W, W = w.alloc (.cells #[.int .i64 6, .bool ab, .string a, .bool bb, .string b, .string s, .int .i64 i] 63) := ⟨_, rfl⟩
  have c1 : W.cell? ⟨w.heap.size, 1, none⟩ = some (.bool ab) := by rw [hW]; simp
  have c2 : W.cell? ⟨w.heap.size, 2, none⟩ = some (.string a) := by rw [hW]; simp
  have hb0 : Below w.heap.size w W := by rw [hW]; exact (Below.refl _ _).alloc (Nat.le_refl _) _
  rw [← hW]
  clear hW
  go_wp2_with fail
  refine (HB.out.1 _).mono ?_
  rintro e w1 ⟨rfl, hb1⟩
  have d1 := keep hb1 c1
  have d2 := keep hb1 c2
  have hbel := two hb0 hb1
  clear c1 c2 hb0 hb1
  go_wp2_with fail
  refine (HB.out.2 _).mono ?_
  rintro e w2 ⟨rfl, hb2⟩
  have hbel2 := two hbel hb2
  go_wp2_with fail
  go_ret
  exact ⟨rfl, hbel2⟩

set_option maxRecDepth 100000 in
set_option maxHeartbeats 1000000 in
theorem one_7 (ab bb : Bool) (a b s : ByteArray) (i : Int) (w : World) (ha : a.size ≤ 9223372036854775807) :
    Calls Tryd.prog 28 #[.agg #[.int .i64 7, .bool ab, .string a, .bool bb, .string b, .string s, .int .i64 i]] w (Yes w) := by
  obtain ⟨p, r, hB⟩ := both_put ab a ha
  have HB := Lib.hid hB
  have heq : (p.toList == p.toList) = true := by simp
  clear hB
  go_enter Tryd.func28, Tryd.ntmps28
  go_wp2_with fail
  obtain ⟨W, hW⟩ : ∃ W, W = w.alloc (.cells #[.int .i64 7, .bool ab, .string a, .bool bb, .string b, .string s, .int .i64 i] 63) := ⟨_, rfl⟩
  have c1 : W.cell? ⟨w.heap.size, 1, none⟩ = some (.bool ab) := by rw [hW]; simp
  have c2 : W.cell? ⟨w.heap.size, 2, none⟩ = some (.string a) := by rw [hW]; simp
  have hb0 : Below w.heap.size w W := by rw [hW]; exact (Below.refl _ _).alloc (Nat.le_refl _) _
  rw [← hW]
  clear hW
  go_wp2_with fail
  refine (HB.out.1 _).mono ?_
  rintro e w1 ⟨rfl, hb1⟩
  have d1 := keep hb1 c1
  have d2 := keep hb1 c2
  have hbel := two hb0 hb1
  clear c1 c2 hb0 hb1
  go_wp2_with fail
  refine (HB.out.2 _).mono ?_
  rintro e w2 ⟨rfl, hb2⟩
  have hbel2 := two hbel hb2
  go_wp2_with fail
  go_ret
  exact ⟨rfl, hbel2⟩

set_option maxRecDepth 100000 in
set_option maxHeartbeats 1000000 in
theorem one_8 (ab bb : Bool) (a b s : ByteArray) (i : Int) (w : World) (hs : s.size ≤ 9223372036854775807) :
    Calls Tryd.prog 28 #[.agg #[.int .i64 8, .bool ab, .string a, .bool bb, .string b, .string s, .int .i64 i]] w (Yes w) := by
  obtain ⟨b2, p, x, r, hB⟩ := both_take s i hs
  have HB := Lib.hid hB
  have heq : ∀ w : World, (binOp .eql 24 (.agg #[.bool b2, .string p]) (.agg #[.bool b2, .string p])).run Tryd.prog w = .ok (.bool true) w := eql_num _ _ _ _ true (by simp)
  clear hB
  go_enter Tryd.func28, Tryd.ntmps28
  go_wp2_with fail
  obtain ⟨W, hW⟩ : ∃ W, W = w.alloc (.cells #[.int .i64 8, .bool ab, .string a, .bool bb, .string b, .string s, .int .i64 i] 63) := ⟨_, rfl⟩
  have c5 : W.cell? ⟨w.heap.size, 5, none⟩ = some (.string s) := by rw [hW]; simp
  have c6 : W.cell? ⟨w.heap.size, 6, none⟩ = some (.int .i64 i) := by rw [hW]; simp
  have hb0 : Below w.heap.size w W := by rw [hW]; exact (Below.refl _ _).alloc (Nat.le_refl _) _
  rw [← hW]
  clear hW
  go_wp2_with fail
  refine (HB.out.1 _).mono ?_
  rintro e w1 ⟨rfl, hb1⟩
  have d5 := keep hb1 c5
  have d6 := keep hb1 c6
  have hz1 : w.heap.size < w1.heap.size := World.block_lt_of_cell? w1 _ d5
  have hbel := two hb0 hb1
  clear c5 c6 hb0 hb1
  go_wp2_with fail
  refine (HB.out.2 _).mono ?_
  rintro e w2 ⟨rfl, hb2⟩
  obtain ⟨n0, n1, hz, hbw⟩ := num_cells hb2
  have hbel2 := two hbel hbw
  go_wp2_with fail
  go_ret
  exact ⟨rfl, hbel2.alloc (by have := hbel2.size; omega) _⟩

set_option maxRecDepth 100000 in
theorem one_no (k : Int) (ab bb : Bool) (a b s : ByteArray) (i : Int) (w : World) (hk : k < 1 ∨ 8 < k) :
    Calls Tryd.prog 28 #[.agg #[.int .i64 k, .bool ab, .string a, .bool bb, .string b, .string s, .int .i64 i]] w (Yes w) := by
  have q1 : (k == 1) = false := beq_eq_false_iff_ne.2 (by omega)
  have q2 : (k == 2) = false := beq_eq_false_iff_ne.2 (by omega)
  have q3 : (k == 3) = false := beq_eq_false_iff_ne.2 (by omega)
  have q4 : (k == 4) = false := beq_eq_false_iff_ne.2 (by omega)
  have q5 : (k == 5) = false := beq_eq_false_iff_ne.2 (by omega)
  have q6 : (k == 6) = false := beq_eq_false_iff_ne.2 (by omega)
  have q7 : (k == 7) = false := beq_eq_false_iff_ne.2 (by omega)
  have q8 : (k == 8) = false := beq_eq_false_iff_ne.2 (by omega)
  clear hk
  go_enter Tryd.func28, Tryd.ntmps28
  go_wp2_with fail
  go_ret
  exact ⟨rfl, (Below.refl _ _).alloc (Nat.le_refl _) _⟩

theorem one_any (k : Int) (ab bb : Bool) (a b s : ByteArray) (i : Int) (w : World) (ha : a.size ≤ 9223372036854775807) (hb : b.size ≤ 9223372036854775807) (hs : s.size ≤ 9223372036854775807) (h0 : -9223372036854775808 ≤ i) (h1 : i ≤ 9223372036854775807) :
    Calls Tryd.prog 28 #[.agg #[.int .i64 k, .bool ab, .string a, .bool bb, .string b, .string s, .int .i64 i]] w (Yes w) := by
  rcases (show k = 1 ∨ k = 2 ∨ k = 3 ∨ k = 4 ∨ k = 5 ∨ k = 6 ∨ k = 7 ∨ k = 8 ∨ (k < 1 ∨ 8 < k) by omega) with rfl | rfl | rfl | rfl | rfl | rfl | rfl | rfl | h
  · exact one_1 ab bb a b s i w ha
  · exact one_2 ab bb a b s i w h0 h1
  · exact one_3 ab bb a b s i w ha
  · exact one_4 ab bb a b s i w ha hb
  · exact one_5 ab bb a b s i w hs
  · exact one_6 ab bb a b s i w ha
  · exact one_7 ab bb a b s i w ha
  · exact one_8 ab bb a b s i w hs
  · exact one_no k ab bb a b s i w h

theorem add_any (n k : Int) (w : World) (h0 : 0 ≤ n) (h1 : 0 ≤ k) (r : Int) (hr : (if 2147483647 < n ∨ 2147483647 < k then 2147483648 else n + k) = r) :
    Calls Tryd.prog 27 #[.int .i64 n, .int .i64 k] w fun e w' => e = .returned (.int .i64 r) ∧ w' = w := by
  by_cases a1 : 2147483647 < n
  · rw [if_pos (.inl a1)] at hr
    subst hr
    go_enter Tryd.func27, Tryd.ntmps27
    go_wp2_with fail
    go_ret
    exact ⟨rfl, rfl⟩
  · by_cases a2 : 2147483647 < k
    · rw [if_pos (.inr a2)] at hr
      subst hr
      go_enter Tryd.func27, Tryd.ntmps27
      go_wp2_with fail
      go_ret
      exact ⟨rfl, rfl⟩
    · rw [if_neg (by omega)] at hr
      subst hr
      go_enter Tryd.func27, Tryd.ntmps27
      go_wp2_with fail
      go_ret
      exact ⟨rfl, rfl⟩
end Go.Proofs.YtcgphlilijeifaaDoor
