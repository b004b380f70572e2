/-
  The document's Deeper, Make, Depth, IsRaw; the law's heavy, weight: their contracts.
-/
import Derived.Test.YtcgphlilijeifaaDoorVMayT
namespace Go.Proofs.YtcgphlilijeifaaDoor.V
open Go.RowKit

set_option maxRecDepth 100000 in
set_option maxHeartbeats 1000000 in
theorem rdeep_any (n : Nat) : ∀ (p : Pt) (v : Value) (w : World), n ≤ 1000 → Fit p → PI w 0 w.heap.size p.items v →
    Calls Tryd.prog 45 #[.agg #[.int .u8 p.kind, .bool p.yes, .bool p.neg, .string p.mag, .string p.raw, v], .int .i64 n] w fun e w' => e = .returned (.bool (deepB n p)) ∧ Below w.heap.size w w' := by
  induction n with
  | zero =>
    intro p v w _ hf hp
    have hk := hf.k
    by_cases h7 : p.kind = 7
    · have q1 : ((p.kind : Int) != 7) = false := by rw [h7]; rfl
      have HD := Lib.hid (show deepB 0 p = true by simp [deepB, h7])
      clear h7
      go_enter Tryd.func45, Tryd.ntmps45
      go_wp2_with fail
      go_ret
      exact ⟨by rw [HD.out]; rfl, (Below.refl _ _).alloc (Nat.le_refl _) _⟩
    · have q1 : ((p.kind : Int) != 7) = true := by simp; omega
      have HD := Lib.hid (show deepB 0 p = false by simp [deepB, h7])
      clear h7
      go_enter Tryd.func45, Tryd.ntmps45
      go_wp2_with fail
      go_ret
      exact ⟨by rw [HD.out]; rfl, (Below.refl _ _).alloc (Nat.le_refl _) _⟩
  | succ n ih =>
    intro p v w hn hf hp
    have hk := hf.k
    have hl := hf.l
    by_cases h7 : p.kind = 7
    · have q1 : ((p.kind : Int) != 7) = false := by rw [h7]; rfl
      have q2 : decide ((n : Int) + 1 < 1) = false := decide_eq_false (by omega)
      have HD := Lib.hid (show deepB (n + 1) p = (p.items.drop 0).any (deepB n) by simp [deepB, h7])
      obtain ⟨a, cap, rfl, hcap, hat⟩ := hp.open
      have HA := Lib.hid hat
      have IH := Lib.hid ih
      clear h7 hat ih hp
      go_enter Tryd.func45, Tryd.ntmps45
      go_wp2_with fail
      go_loopw [5] (fun i wr => ∃ k : Nat, k ≤ p.items.length ∧ i = .int .i64 k ∧ RowKit.Hid (deepB (n + 1) p = (p.items.drop k).any (deepB n)) ∧ Below w.heap.size w wr ∧ w.heap.size < wr.heap.size ∧ wr.cell? ⟨w.heap.size, 5, none⟩ = some (.slice a p.items.length cap)) (fun i _ => p.items.length - (intOf i).toNat)
      case atStart => exact ⟨0, Nat.zero_le _, rfl, HD, (Below.refl _ _).alloc (Nat.le_refl _) _, by simp, by simp⟩
      case round =>
        obtain ⟨k, hkl, rfl, HK, hB, hsz, f5⟩ := hrel
        by_cases hlt : k < p.items.length
        · have q3 : decide (k < p.items.length) = true := by simpa using hlt
          obtain ⟨b, off, u, rfl, _, hb, hc, hfit, hpi⟩ := HA.out k hlt
          obtain ⟨d0, d1, d2, d3, d4, d5⟩ := hc.same (Same.of_below hB (Nat.le_refl _)) (Nat.zero_le _) hb
          have HE := Lib.hid (any_drop (f := deepB n) hlt)
          obtain ⟨q, hq⟩ : ∃ q, p.items[k] = q := ⟨_, rfl⟩
          rw [hq] at d0 d1 d2 d3 d4 hfit hpi HE
          obtain ⟨a2, cap2, rfl, _, _⟩ := hpi.open
          have hpi2 := Lib.hid hpi
          clear hc hq hpi
          go_wp2_with fail
          refine (IH.out q _ _ (by omega) hfit (hpi2.out.later hB)).mono ?_
          rintro e w1 ⟨rfl, hb1⟩
          have hB1 : Below w.heap.size w w1 := hB.trans (hb1.mono (by omega))
          have hz1 : w.heap.size < w1.heap.size := by have := hb1.size; omega
          have F5 := Lib.hid (keep hb1 hsz f5)
          cases hd : deepB n q with
          | true =>
            have HD2 := Lib.hid (show deepB (n + 1) p = true by rw [HK.out, HE.out, hd]; rfl)
            clear hd hB hb1 d0 d1 d2 d3 d4 d5 f5 hsz
            go_wp2_with fail
            go_ret
            exact ⟨by rw [HD2.out]; rfl, hB1⟩
          | false =>
            have HD2 := Lib.hid (show deepB (n + 1) p = (p.items.drop (k + 1)).any (deepB n) by rw [HK.out, HE.out, hd]; rfl)
            clear hd hB hb1 d0 d1 d2 d3 d4 d5 f5 hsz
            go_wp2_with fail
            refine ⟨?_, by simp [intOf]; omega⟩
            first
              | exact ⟨k + 1, by omega, rfl, HD2, hB1, hz1, F5.out⟩
              | ((repeat apply Exists.intro); exact ⟨⟨k + 1, by omega, rfl, HD2, hB1, hz1, F5.out⟩, rfl⟩)
        · have q3 : decide (k < p.items.length) = false := by simpa using hlt
          have HD2 := Lib.hid (show deepB (n + 1) p = false by rw [HK.out, List.drop_of_length_le (by omega)]; rfl)
          go_wp2_with fail
          go_ret
          exact ⟨by rw [HD2.out]; rfl, hB⟩
    · have q1 : ((p.kind : Int) != 7) = true := by simp; omega
      have HD := Lib.hid (show deepB (n + 1) p = false by simp [deepB, h7])
      clear h7
      go_enter Tryd.func45, Tryd.ntmps45
      go_wp2_with fail
      go_ret
      exact ⟨by rw [HD.out]; rfl, (Below.refl _ _).alloc (Nat.le_refl _) _⟩

theorem rmake_any (p : Pt) (v : Value) (w : World) (hf : Fit p) (hp : PI w 0 w.heap.size p.items v) :
    Calls Tryd.prog 15 #[.agg #[.int .u8 p.kind, .bool p.yes, .bool p.neg, .string p.mag, .string p.raw, v]] w fun e w' => e = .returned (.int .i64 (makeE p)) ∧ Below w.heap.size w w' := by
  have hp0 := Lib.hid hp
  obtain ⟨a, cap, rfl, _, _⟩ := hp.open
  clear hp
  go_enter Tryd.func15, Tryd.ntmps15
  go_wp2_with fail
  refine (rdeep_any 16 p _ _ (by omega) hf (hp0.out.later ((Below.refl _ _).alloc (Nat.le_refl _) _))).mono ?_
  rintro e w1 ⟨rfl, hb1⟩
  have hB1 : Below w.heap.size w w1 := ((Below.refl _ _).alloc (Nat.le_refl _) _).trans (hb1.mono (by simp))
  have c0 : w1.cell? ⟨w.heap.size, 0, none⟩ = some (.int .u8 p.kind) := keep hb1 (by simp) (by simp)
  have c1 : w1.cell? ⟨w.heap.size, 1, none⟩ = some (.bool p.yes) := keep hb1 (by simp) (by simp)
  have c2 : w1.cell? ⟨w.heap.size, 2, none⟩ = some (.bool p.neg) := keep hb1 (by simp) (by simp)
  have c3 : w1.cell? ⟨w.heap.size, 3, none⟩ = some (.string p.mag) := keep hb1 (by simp) (by simp)
  have c4 : w1.cell? ⟨w.heap.size, 4, none⟩ = some (.string p.raw) := keep hb1 (by simp) (by simp)
  have c5 : w1.cell? ⟨w.heap.size, 5, none⟩ = some (.slice a p.items.length cap) := keep hb1 (by simp) (by simp)
  clear hb1
  cases hd : deepB 16 p with
  | true =>
    have HM := Lib.hid (show makeE p = 91 by simp [makeE, hd])
    clear hd
    go_wp2_with fail
    go_ret
    exact ⟨by rw [HM.out]; rfl, hB1⟩
  | false =>
    have hm0 : makeE p = if mayB p then 0 else 90 := by simp [makeE, hd]
    clear hd
    go_wp2_with fail
    refine (rmay_any p _ _ hf (hp0.out.later hB1)).mono ?_
    rintro e w2 ⟨rfl, hb2⟩
    cases hd : mayB p with
    | true =>
      have HM := Lib.hid (show makeE p = 0 by rw [hm0, hd]; rfl)
      clear hd hm0
      go_wp2_with fail
      go_ret
      exact ⟨by rw [HM.out]; rfl, two hB1 hb2⟩
    | false =>
      have HM := Lib.hid (show makeE p = 90 by rw [hm0, hd]; rfl)
      clear hd hm0
      go_wp2_with fail
      go_ret
      exact ⟨by rw [HM.out]; rfl, two hB1 hb2⟩
end Go.Proofs.YtcgphlilijeifaaDoor.V
