import Derived.BigQuiet
import Derived.BigRegion
import Derived.Test.YtcgphlilijeifaaDoorLitPrintsG17
/-
  The document's Check, magnitudes, Less, Compare: their contracts.
-/
namespace Go.Proofs.YtcgphlilijeifaaDoor
open Go.RowKit

theorem rcheck_any (b : Bool) (s : ByteArray) (w : World) (_hs : s.size ≤ 9223372036854775807) (r : Int) (hr : chk b s.toList = r) :
    Calls Tryd.prog 64 #[.agg #[.bool b, .string s]] w fun e w' => e = .returned (.int .i64 r) ∧ Below w.heap.size w w' := by
  by_cases h1 : 255 < s.size
  · rw [chk_long (by rw [size_of]; exact h1)] at hr
    subst hr
    go_enter Tryd.func64, Tryd.ntmps64
    go_wp2
    go_ret
    exact ⟨rfl, (Below.refl _ _).alloc (Nat.le_refl _) _⟩
  · by_cases h2 : 0 < s.size
    · have hne : s.toList ≠ [] := by intro e; have := size_of s; rw [e] at this; simp at this; omega
      have q1 : ((s.size : Int) == 0) = false := beq_eq_false_iff_ne.2 (by omega)
      have q2 : decide ((0 : Int) < (s.size : Int)) = true := decide_eq_true (by omega)
      by_cases h3 : s[0] = 0
      · rw [chk_zero (by rw [size_of]; exact h1) (by rw [head_of s h2, h3])] at hr
        have h4 := u8_eqb (n := 0) rfl h3
        subst hr
        clear h3 hne
        go_enter Tryd.func64, Tryd.ntmps64
        go_wp2
        go_ret
        exact ⟨rfl, (Below.refl _ _).alloc (Nat.le_refl _) _⟩
      · rw [chk_ok (by rw [size_of]; exact h1) hne (by rw [head_of s h2]; simpa using h3)] at hr
        have h4 := u8_neb (n := 0) rfl h3
        subst hr
        clear h3 hne
        go_enter Tryd.func64, Tryd.ntmps64
        go_wp2
        go_ret
        exact ⟨rfl, (Below.refl _ _).alloc (Nat.le_refl _) _⟩
    · have he := nil_of_size h2
      have q1 : ((s.size : Int) == 0) = true := beq_iff_eq.2 (by omega)
      have q2 : decide ((0 : Int) < (s.size : Int)) = false := decide_eq_false (by omega)
      cases b
      · rw [chk_nil he] at hr
        subst hr
        clear he
        go_enter Tryd.func64, Tryd.ntmps64
        go_wp2
        go_ret
        exact ⟨rfl, (Below.refl _ _).alloc (Nat.le_refl _) _⟩
      · rw [chk_nil_below he] at hr
        subst hr
        clear he
        go_enter Tryd.func64, Tryd.ntmps64
        go_wp2
        go_ret
        exact ⟨rfl, (Below.refl _ _).alloc (Nat.le_refl _) _⟩

theorem Below.drewN_ {B : Nat} {a w : World} (h : Below B a w) (n : Nat) : Below B a (w.drewN n) := ⟨h.os, h.tape, h.output, h.size, h.block⟩
theorem cmp_drop (a b : ByteArray) (k : Nat) (ha : k < a.size) (hb : k < b.size) :
    cmp (a.data.toList.drop k) (b.data.toList.drop k) = if a[k].toNat < b[k].toNat then -1 else if b[k].toNat < a[k].toNat then 1 else cmp (a.data.toList.drop (k + 1)) (b.data.toList.drop (k + 1)) := by
  rw [drop_cons a k ha, drop_cons b k hb]
  simp only [cmp, UInt8.lt_iff_toNat_lt]

theorem magnitudes_any (a b : ByteArray) (w : World) (ha : a.size ≤ 9223372036854775807) (_hb : b.size ≤ 9223372036854775807) (r : Int) (hr : mcmp a.toList b.toList = r) :
    Calls Tryd.prog 120 #[.string a, .string b] w fun e w' => e = .returned (.int .i64 r) ∧ Below w.heap.size w w' := by
  unfold mcmp at hr
  rw [size_of, size_of] at hr
  by_cases h1 : a.size < b.size
  · rw [if_pos h1] at hr
    subst hr
    have q1 : decide ((a.size : Int) < (b.size : Int)) = true := by simpa using h1
    go_enter Tryd.func120, Tryd.ntmps120
    go_wp2
    go_ret
    exact ⟨rfl, Below.refl _ _⟩
  · by_cases h2 : b.size < a.size
    · rw [if_neg h1, if_pos h2] at hr
      subst hr
      have q1 : decide ((a.size : Int) < (b.size : Int)) = false := by simp; omega
      have q2 : decide ((b.size : Int) < (a.size : Int)) = true := by simpa using h2
      go_enter Tryd.func120, Tryd.ntmps120
      go_wp2
      go_ret
      exact ⟨rfl, Below.refl _ _⟩
    · rw [if_neg h1, if_neg h2, Lib.toList_data, Lib.toList_data] at hr
      have HR := Lib.hid hr
      have q1 : decide ((a.size : Int) < (b.size : Int)) = false := by simp; omega
      have q2 : decide ((b.size : Int) < (a.size : Int)) = false := by simp; omega
      clear hr
      go_enter Tryd.func120, Tryd.ntmps120
      go_wp2_with fail
      go_loopw [5] (fun i wr => ∃ k : Nat, k ≤ a.size ∧ i = .int .i64 k ∧ RowKit.Hid (cmp (a.data.toList.drop k) (b.data.toList.drop k) = r) ∧ Below w.heap.size w wr) (fun i _ => a.size - (intOf i).toNat)
      case atStart => exact ⟨0, Nat.zero_le _, rfl, HR, Below.refl _ _⟩
      case round =>
        clear HR
        obtain ⟨k, hk, rfl, HC, hB⟩ := hrel
        by_cases hlt : k < a.size
        · have hltb : k < b.size := by omega
          have hc := HC.out
          rw [cmp_drop a b k hlt hltb] at hc
          clear HC
          by_cases g1 : a[k].toNat < b[k].toNat
          · rw [if_pos g1] at hc
            subst hc
            have q3 : decide ((a[k].toNat : Int) < (b[k].toNat : Int)) = true := by simpa using g1
            go_wp2_with fail
            go_quiet (fail)
            go_wp2_with fail
            go_ret
            exact ⟨rfl, by first | exact Below.drewN_ hB _ | exact Below.drewN_ (Below.drewN_ hB _) _⟩
          · rw [if_neg g1] at hc
            by_cases g2 : b[k].toNat < a[k].toNat
            · rw [if_pos g2] at hc
              subst hc
              go_wp2_with fail
              go_quiet (fail)
              go_wp2_with fail
              go_quiet (fail)
              go_wp2_with fail
              go_ret
              exact ⟨rfl, by first | exact Below.drewN_ hB _ | exact Below.drewN_ (Below.drewN_ hB _) _⟩
            · rw [if_neg g2] at hc
              have HC := Lib.hid hc
              clear hc
              go_wp2_with fail
              go_quiet (fail)
              go_wp2_with fail
              go_quiet (fail)
              go_wp2_with fail
              go_roundw
              case rel => exact ⟨k + 1, by omega, by go_num, HC, by first | exact Below.drewN_ hB _ | exact Below.drewN_ (Below.drewN_ hB _) _⟩
              case measure => simp [intOf]; omega
        · have hc := HC.out
          rw [drop_end a k hlt, drop_end b k (by omega)] at hc
          subst hc
          clear HC
          go_wp2_with fail
          go_ret
          exact ⟨rfl, hB⟩

theorem less_any (x : Bool) (a : ByteArray) (y : Bool) (b : ByteArray) (w : World) (ha : a.size ≤ 9223372036854775807) (hb : b.size ≤ 9223372036854775807) (r : Int) (hr : ncmp x a.toList y b.toList = r) :
    Calls Tryd.prog 100 #[.agg #[.bool x, .string a], .agg #[.bool y, .string b]] w fun e w' => e = .returned (.int .i64 r) ∧ Below w.heap.size w w' := by
  have hnot : ∀ (x : Bool) (w : World), (Op.unary .not (.bool x)).run Tryd.prog w = .ok (.bool (!x)) w := fun _ _ => rfl
  have hbel : Below w.heap.size w ((w.alloc (.cells #[.bool x, .string a] 24)).alloc (.cells #[.bool y, .string b] 24)) := ((Below.refl _ _).alloc (Nat.le_refl _) _).alloc (by simp) _
  cases x <;> cases y <;> simp only [ncmp, if_true, if_false, Bool.false_eq_true] at hr
  · go_enter Tryd.func100, Tryd.ntmps100
    go_wp2_with fail
    refine (magnitudes_any a b _ ha hb r hr).mono ?_
    rintro e w1 ⟨rfl, hb1⟩
    obtain ⟨c0, c1, c2, c3, hz, hbw⟩ := num2_cells hb1
    go_wp2_with fail
    go_ret
    exact ⟨rfl, hbw⟩
  · subst hr
    go_enter Tryd.func100, Tryd.ntmps100
    go_wp2_with fail
    go_ret
    exact ⟨rfl, hbel⟩
  · subst hr
    go_enter Tryd.func100, Tryd.ntmps100
    go_wp2_with fail
    go_ret
    exact ⟨rfl, hbel⟩
  · have h3 := mcmp_three a.toList b.toList
    obtain ⟨q, hq⟩ : ∃ q, mcmp a.toList b.toList = q := ⟨_, rfl⟩
    rw [mcmp_swap, hq] at hr
    rw [hq] at h3
    subst hr
    go_enter Tryd.func100, Tryd.ntmps100
    go_wp2_with fail
    refine (magnitudes_any a b _ ha hb q hq).mono ?_
    rintro e w1 ⟨rfl, hb1⟩
    obtain ⟨c0, c1, c2, c3, hz, hbw⟩ := num2_cells hb1
    have b1 : -1 ≤ q := by omega
    have b2 : q ≤ 1 := by omega
    clear h3 hq
    go_wp2_with fail
    go_ret
    exact ⟨rfl, hbw⟩

theorem rcompare_bad1 (x : Bool) (a : ByteArray) (y : Bool) (b : ByteArray) (w : World) (ha : a.size ≤ 9223372036854775807) (r : Int) (hr : chk x a.toList = r) (h0 : r ≠ 0) :
    Calls Tryd.prog 67 #[.agg #[.bool x, .string a], .agg #[.bool y, .string b]] w fun e w' => e = .returned (.tuple #[.int .i64 0, .int .i64 r]) ∧ Below w.heap.size w w' := by
  have q1 : (r != 0) = true := by simpa using h0
  have HR := Lib.hid hr
  clear hr h0
  go_enter Tryd.func67, Tryd.ntmps67
  go_wp2_with fail
  refine (rcheck_any x a _ ha r HR.out).mono ?_
  rintro e w1 ⟨rfl, hb1⟩
  obtain ⟨c0, c1, c2, c3, hz, hbw⟩ := num2_cells hb1
  go_wp2_with fail
  go_ret2
  exact ⟨rfl, hbw⟩
theorem rcompare_bad2 (x : Bool) (a : ByteArray) (y : Bool) (b : ByteArray) (w : World) (ha : a.size ≤ 9223372036854775807) (hb : b.size ≤ 9223372036854775807) (h1 : chk x a.toList = 0) (r : Int) (hr : chk y b.toList = r) (h0 : r ≠ 0) :
    Calls Tryd.prog 67 #[.agg #[.bool x, .string a], .agg #[.bool y, .string b]] w fun e w' => e = .returned (.tuple #[.int .i64 0, .int .i64 r]) ∧ Below w.heap.size w w' := by
  have q1 : (r != 0) = true := by simpa using h0
  have HR := Lib.hid hr
  have H1 := Lib.hid h1
  clear hr h0 h1
  go_enter Tryd.func67, Tryd.ntmps67
  go_wp2_with fail
  refine (rcheck_any x a _ ha 0 H1.out).mono ?_
  rintro e w1 ⟨rfl, hb1⟩
  obtain ⟨c0, c1, c2, c3, hz, hbw⟩ := num2_cells hb1
  go_wp2_with fail
  refine (rcheck_any y b _ hb r HR.out).mono ?_
  rintro e w2 ⟨rfl, hb2⟩
  go_wp2_with fail
  go_ret2
  exact ⟨rfl, two hbw hb2⟩
theorem rcompare_ok (x : Bool) (a : ByteArray) (y : Bool) (b : ByteArray) (w : World) (ha : a.size ≤ 9223372036854775807) (hb : b.size ≤ 9223372036854775807) (h1 : chk x a.toList = 0) (h2 : chk y b.toList = 0) (r : Int) (hr : ncmp x a.toList y b.toList = r) :
    Calls Tryd.prog 67 #[.agg #[.bool x, .string a], .agg #[.bool y, .string b]] w fun e w' => e = .returned (.tuple #[.int .i64 r, .int .i64 0]) ∧ Below w.heap.size w w' := by
  have HR := Lib.hid hr
  have H1 := Lib.hid h1
  have H2 := Lib.hid h2
  clear hr h1 h2
  go_enter Tryd.func67, Tryd.ntmps67
  go_wp2_with fail
  refine (rcheck_any x a _ ha 0 H1.out).mono ?_
  rintro e w1 ⟨rfl, hb1⟩
  obtain ⟨c0, c1, c2, c3, hz, hbw⟩ := num2_cells hb1
  go_wp2_with fail
  refine (rcheck_any y b _ hb 0 H2.out).mono ?_
  rintro e w2 ⟨rfl, hb2⟩
  have c0 := keep hb2 c0
  have c1 := keep hb2 c1
  have c2 := keep hb2 c2
  have c3 := keep hb2 c3
  go_wp2_with fail
  refine (less_any x a y b _ ha hb r HR.out).mono ?_
  rintro e w3 ⟨rfl, hb3⟩
  go_wp2_with fail
  go_ret2
  exact ⟨rfl, two (two hbw hb2) hb3⟩
end Go.Proofs.YtcgphlilijeifaaDoor
