import Derived.Laws.Bits64b
import Derived.Test.YtcgphlilijeifaaDoorLitPrintsG18
/-
  The contract of nat.Small.
-/
namespace Go.Proofs.YtcgphlilijeifaaDoor
open Go.RowKit

theorem nv_bound (s : ByteArray) (k : Nat) (hk : k ≤ 7) : nv (s.data.toList.take k) < 72057594037927936 := by
  have h := nv_lt (s.data.toList.take k)
  have h2 : 256 ^ (s.data.toList.take k).length ≤ 256 ^ 7 := pow_mono (by have := List.length_take_le k s.data.toList; omega)
  have : 256 ^ 7 = 72057594037927936 := by decide
  omega
theorem nv_take (s : ByteArray) (k : Nat) (h : k < s.size) : nv (s.data.toList.take (k + 1)) = 256 * nv (s.data.toList.take k) + s[k].toNat := by
  rw [take_snoc s k h, nv_snoc]

theorem shl_or (u c : Nat) (hu : u < 72057594037927936) (hc : c < 256) : bits .or .u64 ((u : Int) * 256) (c : Int) = ((256 * u + c : Nat) : Int) := by
  have h := bits_or_u64_nat (256 * u) c (by omega) (by omega)
  rw [show ((u : Int) * 256) = ((256 * u : Nat) : Int) by omega, h]
  have := Nat.two_pow_add_eq_or_of_lt (i := 8) (b := c) (by omega) u
  rw [show 256 * u ||| c = 256 * u + c from this.symm]

/-- What Small tells. -/
def smallV (b : Bool) (m : List UInt8) : Int × Bool :=
  if chk b m ≠ 0 ∨ 8 < m.length then (0, false)
  else if b then (if nv m ≤ 9223372036854775808 then (-(nv m : Int), true) else (0, false))
  else (if nv m < 9223372036854775808 then ((nv m : Int), true) else (0, false))

theorem small_bad (b : Bool) (s : ByteArray) (w : World) (hs : s.size ≤ 9223372036854775807) (h : chk b s.toList ≠ 0 ∨ 8 < s.size) :
    Calls Tryd.prog 32 #[.agg #[.bool b, .string s]] w fun e w' => e = .returned (.tuple #[.int .i64 0, .bool false]) ∧ Below w.heap.size w w' := by
  by_cases h0 : chk b s.toList = 0
  · have h8 : 8 < s.size := h.resolve_left (fun e => e h0)
    have HR := Lib.hid h0
    clear h h0
    go_enter Tryd.func32, Tryd.ntmps32
    go_wp2_with fail
    refine (check_any b s _ hs 0 HR.out).mono ?_
    rintro e w1 ⟨rfl, hb1⟩
    obtain ⟨c0, c1, hz, hbw⟩ := num_cells hb1
    clear hb1
    go_wp2
    go_ret2
    exact ⟨rfl, hbw⟩
  · obtain ⟨r, hr⟩ : ∃ r, chk b s.toList = r := ⟨_, rfl⟩
    have f : (r != 0) = true := by rw [← hr]; simpa using h0
    have HR := Lib.hid hr
    clear h h0 hr
    go_enter Tryd.func32, Tryd.ntmps32
    go_wp2_with fail
    refine (check_any b s _ hs r HR.out).mono ?_
    rintro e w1 ⟨rfl, hb1⟩
    obtain ⟨c0, c1, hz, hbw⟩ := num_cells hb1
    clear hb1
    go_wp2
    go_ret2
    exact ⟨rfl, hbw⟩

theorem ret_small {x y : Int} {a : Bool} (h : x = y) : Ending.returned (.tuple #[.int .i64 x, .bool a]) = Ending.returned (.tuple #[.int .i64 y, .bool a]) := by rw [h]

theorem ret_small2 {x : Int} {a : Bool} {r : Int × Bool} (h : (x, a) = r) : Ending.returned (.tuple #[.int .i64 x, .bool a]) = Ending.returned (.tuple #[.int .i64 r.1, .bool r.2]) := by subst h; rfl

set_option maxHeartbeats 400000 in
theorem small_ok (b : Bool) (s : ByteArray) (w : World) (hr : chk b s.toList = 0) (h8 : s.size ≤ 8) :
    Calls Tryd.prog 32 #[.agg #[.bool b, .string s]] w fun e w' => e = .returned (.tuple #[.int .i64 (smallV b s.toList).1, .bool (smallV b s.toList).2]) ∧ Below w.heap.size w w' := by
  obtain ⟨r, hr2⟩ : ∃ r, smallV b s.toList = r := ⟨_, rfl⟩
  rw [hr2]
  have HS := Lib.hid hr2
  have HR := Lib.hid hr
  clear hr hr2
  go_enter Tryd.func32, Tryd.ntmps32
  go_wp2_with fail
  refine (check_any b s _ (by omega) 0 HR.out).mono ?_
  rintro e w1 ⟨rfl, hb1⟩
  obtain ⟨c0, c1, hz, hbw⟩ := num_cells hb1
  clear hb1
  have hd8 : decide (8 < (s.size : Int)) = false := by simp; omega
  go_wp2
  go_loop [4, 5, 18] (fun u _ i => ∃ k : Nat, k ≤ s.size ∧ i = .int .i64 k ∧ u = .int .u64 (nv (s.data.toList.take k))) (fun _ _ i => s.size - (intOf i).toNat)
  case atStart => exact ⟨0, Nat.zero_le _, rfl, rfl⟩
  case round =>
    obtain ⟨k, hk, rfl, rfl⟩ := hrel
    by_cases hlt : k < s.size
    · have hb := nv_bound s k (by omega)
      have hbd := s[k].toNat_lt
      have HV := Lib.hid (nv_take s k hlt)
      obtain ⟨u, hu⟩ : ∃ u, u = nv (s.data.toList.take k) := ⟨_, rfl⟩
      rw [← hu] at hb HV
      rw [← hu]
      clear hu
      go_wp2
      go_round
      case rel => exact ⟨k + 1, by omega, by go_num, by rw [shl_or u _ hb hbd, HV.out]⟩
      case measure => simp [intOf]; omega
    · rw [take_end s k hlt, ← Lib.toList_data]
      have hlen : s.toList.length ≤ 8 := by rw [size_of]; exact h8
      obtain ⟨u, hu⟩ : ∃ u, u = nv s.toList := ⟨_, rfl⟩
      have hu64 : u < 18446744073709551616 := by
        have h1 := nv_lt s.toList
        have h2 : 256 ^ s.toList.length ≤ 256 ^ 8 := pow_mono hlen
        have : 256 ^ 8 = 18446744073709551616 := by decide
        omega
      have hpos : b = true → 0 < u := by
        intro hbt
        have hc := chk_zero_iff.1 HR.out
        rcases Nat.eq_zero_or_pos u with h | h
        · have := nv_zero hc.2.2 (by rw [← hu]; exact h)
          have := hc.2.1 this
          rw [hbt] at this; cases this
        · exact h
      have hV := HS.out
      unfold smallV at hV
      rw [if_neg (by rw [HR.out]; simp; omega), ← hu] at hV
      rw [← hu]
      have HVV := Lib.hid hV
      clear hV hu hlen HS hd8
      cases b
      · simp only [Bool.false_eq_true, if_false] at HVV
        clear hpos
        by_cases h3 : u < 9223372036854775808
        · have hv := HVV.out
          rw [if_pos h3] at hv
          have H := Lib.hid hv
          clear hv HVV
          have d3 : decide ((u : Int) < 9223372036854775808) = true := by simp; omega
          go_wp2
          go_ret2
          exact ⟨ret_small2 H.out, hbw⟩
        · have hv := HVV.out
          rw [if_neg h3] at hv
          have H := Lib.hid hv
          clear hv HVV
          have d3 : decide ((u : Int) < 9223372036854775808) = false := by simp; omega
          go_wp2
          go_ret2
          exact ⟨ret_small2 H.out, hbw⟩
      · simp only [if_true] at HVV
        have hp := hpos rfl
        clear hpos
        by_cases h3 : u ≤ 9223372036854775808
        · have hv := HVV.out
          rw [if_pos h3] at hv
          have H := Lib.hid hv
          clear hv HVV
          have d3 : decide ((u : Int) ≤ 9223372036854775808) = true := by simp; omega
          go_wp2
          go_ret2
          exact ⟨(ret_small (by omega)).trans (ret_small2 H.out), hbw⟩
        · have hv := HVV.out
          rw [if_neg h3] at hv
          have H := Lib.hid hv
          clear hv HVV
          have d3 : decide ((u : Int) ≤ 9223372036854775808) = false := by simp; omega
          go_wp2
          go_ret2
          exact ⟨ret_small2 H.out, hbw⟩

theorem small_any (b : Bool) (s : ByteArray) (w : World) (hs : s.size ≤ 9223372036854775807) (r : Int × Bool) (hr : smallV b s.toList = r) :
    Calls Tryd.prog 32 #[.agg #[.bool b, .string s]] w fun e w' => e = .returned (.tuple #[.int .i64 r.1, .bool r.2]) ∧ Below w.heap.size w w' := by
  subst hr
  by_cases h : chk b s.toList ≠ 0 ∨ 8 < s.size
  · have : smallV b s.toList = (0, false) := by unfold smallV; rw [if_pos (by rw [size_of]; exact h)]
    rw [this]
    exact small_bad b s w hs h
  · exact small_ok b s w (Classical.byContradiction fun e => h (.inl e)) (by omega)
end Go.Proofs.YtcgphlilijeifaaDoor
