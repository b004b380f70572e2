/-
  The walk of the law NatExact.
-/
import Derived.Test.YtcgphlilijeifaaDoorOne
import Derived.Test.YtcgphlilijeifaaDoorOps
namespace Go.Proofs.YtcgphlilijeifaaDoor
open Go.RowKit

def addR (n k : Int) : Int := if 2147483647 < n ∨ 2147483647 < k then 2147483648 else n + k
theorem addR_bd (n k : Int) (h0 : 0 ≤ n) (h1 : 0 ≤ k) : 0 ≤ addR n k ∧ addR n k ≤ 4294967294 := by
  unfold addR
  split <;> omega
theorem add_c (n k : Int) (w : World) (h0 : 0 ≤ n) (h1 : 0 ≤ k) : Calls Tryd.prog 27 #[.int .i64 n, .int .i64 k] w fun e w' => e = .returned (.int .i64 (addR n k)) ∧ w' = w := add_any n k w h0 h1 _ rfl

theorem OpCells.keep {w w' : World} {b o : Nat} {x : OpV} (h : OpCells w b o x) {B : Nat} (hb : Below B w w') (hB : b < B) : OpCells w' b o x where
  c0 := (hb.cell (p := ⟨b, o, none⟩) hB).trans h.c0
  c1 := (hb.cell (p := ⟨b, o + 1, none⟩) hB).trans h.c1
  c2 := (hb.cell (p := ⟨b, o + 2, none⟩) hB).trans h.c2
  c3 := (hb.cell (p := ⟨b, o + 3, none⟩) hB).trans h.c3
  c4 := (hb.cell (p := ⟨b, o + 4, none⟩) hB).trans h.c4
  c5 := (hb.cell (p := ⟨b, o + 5, none⟩) hB).trans h.c5
  c6 := (hb.cell (p := ⟨b, o + 6, none⟩) hB).trans h.c6
theorem OpCells.lt {w : World} {b o : Nat} {x : OpV} (h : OpCells w b o x) : b < w.heap.size := World.block_lt_of_cell? w _ h.c0

set_option maxRecDepth 100000 in
set_option maxHeartbeats 1000000 in
theorem natExact_some (b off n cap : Nat) (F : Nat → OpV) (W : World) (hn : n ≤ maxLen) (hF : ∀ j, j < n → OpCells W b (off + j * 7) (F j) ∧ OpFits (F j)) :
    Calls Tryd.prog 7 #[.slice (some ⟨b, off, none⟩) n cap] W (Yes W) := by
  have HF := Lib.hid hF
  unfold maxLen at hn
  clear hF
  go_enter Tryd.func7, Tryd.ntmps7
  go_wp2_with fail
  go_loopw [3, 4] (fun m i wr => ∃ (s : Int) (k : Nat), 0 ≤ s ∧ s ≤ 9223372036854775807 ∧ m = .int .i64 s ∧ k ≤ n ∧ i = .int .i64 k ∧ Below W.heap.size W wr) (fun _ i _ => n - (intOf i).toNat)
  case atStart => exact ⟨n, 0, by omega, by omega, rfl, Nat.zero_le _, rfl, Below.refl _ _⟩
  case round =>
    obtain ⟨s, k, hs0, hs1, rfl, hk, rfl, hB⟩ := hrel
    by_cases hlt : k < n
    · have q1 : decide (k < n) = true := by simpa using hlt
      by_cases hs : s ≤ 2147483647
      · obtain ⟨hc, hfit⟩ := HF.out k hlt
        have hc' := hc.keep hB hc.lt
        have d2 := hc'.c2
        have d4 := hc'.c4
        have d5 := hc'.c5
        have p1 := addR_bd ((F k).a.size : Int) ((F k).b.size : Int) (by omega) (by omega)
        have p2 := addR_bd (addR ((F k).a.size : Int) ((F k).b.size : Int)) ((F k).s.size : Int) p1.1 (by omega)
        have p3 := addR_bd s (addR (addR ((F k).a.size : Int) ((F k).b.size : Int)) ((F k).s.size : Int)) hs0 p2.1
        obtain ⟨x1, hx1⟩ := p1
        obtain ⟨x2, hx2⟩ := p2
        obtain ⟨x3, hx3⟩ := p3
        clear hc hc' hfit
        go_wp2_with fail
        go_quiet ((go_at_call 27; exact Calls.quiet_of_same (add_c _ _ _ (by omega) (by omega))))
        go_wp2_with fail
        go_roundw
        case rel => exact ⟨_, k + 1, x3, by omega, rfl, by omega, by go_num, Below.drewN_ hB _⟩
        case measure => simp [intOf]; omega
      · have hgo : decide (s ≤ 2147483647) = false := by simpa using hs
        go_wp2_with fail
        go_ret
        exact ⟨rfl, hB⟩
    · have q1 : decide (k < n) = false := by simpa using hlt
      by_cases hs : 2147483647 < s
      · go_wp2_with fail
        go_ret
        exact ⟨rfl, hB⟩
      · go_wp2_with fail
        go_loopw [5] (fun i wr => ∃ k : Nat, k ≤ n ∧ i = .int .i64 k ∧ Below W.heap.size W wr) (fun i _ => n - (intOf i).toNat)
        case atStart => exact ⟨0, Nat.zero_le _, rfl, hB⟩
        case round =>
          clear hB
          obtain ⟨j, hj, rfl, hB⟩ := hrel
          by_cases hjn : j < n
          · have q2 : decide (j < n) = true := by simpa using hjn
            obtain ⟨hc, hfit⟩ := HF.out j hjn
            have hc' := hc.keep hB hc.lt
            obtain ⟨d0, d1, d2, d3, d4, d5, d6⟩ := hc'
            have HFit := Lib.hid hfit
            clear hc hfit
            go_wp2_with fail
            refine (one_any _ _ _ _ _ _ _ _ (Nat.le_trans HFit.out.a (by unfold maxLen; decide)) (Nat.le_trans HFit.out.b (by unfold maxLen; decide)) (Nat.le_trans HFit.out.s (by unfold maxLen; decide)) HFit.out.lo HFit.out.hi).mono ?_
            rintro e w1 ⟨rfl, hb1⟩
            have hB2 := hB.trans (hb1.mono hB.size)
            clear d0 d1 d2 d3 d4 d5 d6 hB hb1
            go_wp2_with fail
            go_roundw
            case rel => exact ⟨j + 1, by omega, by go_num, hB2⟩
            case measure => simp [intOf]; omega
          · have q2 : decide (j < n) = false := by simpa using hjn
            go_wp2_with fail
            refine (awake_ok _).mono ?_
            rintro e w1 ⟨rfl, hb1⟩
            go_wp2_with fail
            go_ret
            exact ⟨rfl, hB.trans (hb1.mono hB.size)⟩

theorem natExact_none (a : Option Addr) (cap : Nat) (W : World) : Calls Tryd.prog 7 #[.slice a 0 cap] W (Yes W) := by
  go_enter Tryd.func7, Tryd.ntmps7
  go_wp2_with fail
  refine wp_loop_rounds 1 ?_
  rw [rounds_succ]
  go_wp2_with fail
  refine wp_loop_rounds 1 ?_
  rw [rounds_succ]
  go_wp2_with fail
  refine (awake_ok _).mono ?_
  rintro e w1 ⟨rfl, hb1⟩
  go_wp2_with fail
  go_ret
  exact ⟨rfl, hb1⟩

theorem natExact_walk {W : World} (v : Value)
    (h : ∃ (a : Option Addr) (n cap : Nat), v = .slice a n cap ∧ n ≤ maxLen ∧ (0 < n → ∃ (b off : Nat) (F : Nat → OpV), a = some ⟨b, off, none⟩ ∧ ∀ j, j < n → OpCells W b (off + j * 7) (F j) ∧ OpFits (F j))) (_ : World) :
    Calls Tryd.prog 7 #[v] W (Yes W) := by
  obtain ⟨a, n, cap, rfl, hn, h⟩ := h
  by_cases h0 : 0 < n
  · obtain ⟨b, off, F, rfl, hF⟩ := h h0
    exact natExact_some b off n cap F W hn hF
  · obtain rfl : n = 0 := by omega
    exact natExact_none a cap W
end Go.Proofs.YtcgphlilijeifaaDoor
