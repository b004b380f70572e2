/-
  ValueMakes' walk.
-/
import Derived.Test.YtcgphlilijeifaaVMadeLaw
namespace Go.Proofs.Ytcgphlilijeifaa.V
open Go.RowKit

set_option maxRecDepth 100000 in
set_option maxHeartbeats 1500000 in
theorem makesLaw_any (p : Pt) (v : Value) (q : Pt) (u : Value) (w : World) (hf : FitA p) (hp : PI w 0 w.heap.size p.items v) (hr : Roomy p) (hfq : FitA q) (hq : PI w 0 w.heap.size q.items u) (hrq : Roomy q) :
    Calls Try.prog 3 #[.agg #[.int .u8 p.kind, .bool p.yes, .bool p.neg, .string p.mag, .string p.raw, v], .agg #[.int .u8 q.kind, .bool q.yes, .bool q.neg, .string q.mag, .string q.raw, u]] w fun e w' => e = .returned (.bool true) ∧ Below w.heap.size w w' := by
  have f0 := Lib.hid hf.fit
  have g0 := Lib.hid hfq.fit
  have HF := Lib.hid hf
  have HFq := Lib.hid hfq
  have HR := Lib.hid hr
  have HRq := Lib.hid hrq
  have hp0 := Lib.hid hp
  have hq0 := Lib.hid hq
  obtain ⟨a, cap, rfl, _, _⟩ := hp.open
  obtain ⟨b, capb, rfl, _, _⟩ := hq.open
  have hA1 := (Below.refl w.heap.size w).alloc (Nat.le_refl _) (.cells #[.int .u8 p.kind, .bool p.yes, .bool p.neg, .string p.mag, .string p.raw, .slice a p.items.length cap] 27)
  have hA2 : Below w.heap.size w _ := hA1.alloc (by simp) (.cells #[.int .u8 q.kind, .bool q.yes, .bool q.neg, .string q.mag, .string q.raw, .slice b q.items.length capb] 27)
  have hbx := Lib.hid ((Box.new w p (.slice a p.items.length cap) 27).later ((Below.refl _ _).alloc (Nat.le_refl _) (.cells #[.int .u8 q.kind, .bool q.yes, .bool q.neg, .string q.mag, .string q.raw, .slice b q.items.length capb] 27)) (by simp))
  have hby : RowKit.Hid (Box ((w.alloc (.cells #[.int .u8 p.kind, .bool p.yes, .bool p.neg, .string p.mag, .string p.raw, .slice a p.items.length cap] 27)).alloc (.cells #[.int .u8 q.kind, .bool q.yes, .bool q.neg, .string q.mag, .string q.raw, .slice b q.items.length capb] 27)) (w.heap.size + 1) q (.slice b q.items.length capb)) :=
    Lib.hid (by have := Box.new (w.alloc (.cells #[.int .u8 p.kind, .bool p.yes, .bool p.neg, .string p.mag, .string p.raw, .slice a p.items.length cap] 27)) q (.slice b q.items.length capb) 27; simpa using this)
  have HA2 := Lib.hid hA2
  clear hp hq hf hfq hA1 hA2 hr hrq
  go_enter Try.func3, Try.ntmps3
  go_wp2_with fail
  refine (awake_any _).mono ?_
  rintro e w1 ⟨rfl, hb1⟩
  have hB1 : Below w.heap.size w w1 := HA2.out.trans (hb1.mono (by simp; omega))
  have hx1 := Lib.hid (hbx.out.later hb1 hbx.out.lt)
  have hy1 := Lib.hid (hby.out.later hb1 hby.out.lt)
  clear hbx hby hb1 HA2
  obtain ⟨_, ⟨c0, c1, c2, c3, c4, c5⟩⟩ := hx1.out
  obtain ⟨_, ⟨d0, d1, d2, d3, d4, d5⟩⟩ := hy1.out
  go_wp2_with fail
  refine (weight_any p _ _ 0 (by decide) (by decide) f0.out (hp0.out.later hB1)).mono ?_
  rintro e w2 ⟨r, rfl, hr0, hr1, hb2⟩
  have hB2 := two hB1 hb2
  have hx2 := Lib.hid (hx1.out.later hb2 hx1.out.lt)
  have hy2 := Lib.hid (hy1.out.later hb2 hy1.out.lt)
  clear c0 c1 c2 c3 c4 c5 d0 d1 d2 d3 d4 d5 hb2 hx1 hy1 hB1
  obtain ⟨_, ⟨c0, c1, c2, c3, c4, c5⟩⟩ := hx2.out
  obtain ⟨_, ⟨d0, d1, d2, d3, d4, d5⟩⟩ := hy2.out
  by_cases hbig : 134217728 < r
  · have q1 : decide (134217728 < r) = true := by simpa using hbig
    go_wp2_with fail
    go_ret
    exact ⟨rfl, hB2⟩
  have q1 : decide (134217728 < r) = false := by simpa using hbig
  clear hbig hr0 hr1
  go_wp2_with fail
  refine (weight_any q _ _ 0 (by decide) (by decide) g0.out (hq0.out.later hB2)).mono ?_
  rintro e w3 ⟨r2, rfl, hr0, hr1, hb3⟩
  have hB3 := two hB2 hb3
  have hx3 := Lib.hid (hx2.out.later hb3 hx2.out.lt)
  have hy3 := Lib.hid (hy2.out.later hb3 hy2.out.lt)
  clear c0 c1 c2 c3 c4 c5 d0 d1 d2 d3 d4 d5 hb3 hx2 hy2 hB2
  obtain ⟨_, ⟨c0, c1, c2, c3, c4, c5⟩⟩ := hx3.out
  obtain ⟨_, ⟨d0, d1, d2, d3, d4, d5⟩⟩ := hy3.out
  by_cases hbig : 134217728 < r2
  · have q2 : decide (134217728 < r2) = true := by simpa using hbig
    go_wp2_with fail
    go_ret
    exact ⟨rfl, hB3⟩
  have q2 : decide (134217728 < r2) = false := by simpa using hbig
  clear hbig hr0 hr1
  go_wp2_with fail
  refine (madeLaw_any p _ _ HF.out HR.out (hp0.out.later hB3)).mono ?_
  rintro e w4 ⟨v1, rfl, _, hv1, hb4⟩
  have hB4 := two hB3 hb4
  have hx4 := Lib.hid (hx3.out.later hb4 hx3.out.lt)
  have hy4 := Lib.hid (hy3.out.later hb4 hy3.out.lt)
  have HV1 := Lib.hid hv1
  clear c0 c1 c2 c3 c4 c5 d0 d1 d2 d3 d4 d5 hb4 hx3 hy3 hB3 hv1
  obtain ⟨_, ⟨c0, c1, c2, c3, c4, c5⟩⟩ := hx4.out
  obtain ⟨_, ⟨d0, d1, d2, d3, d4, d5⟩⟩ := hy4.out
  obtain ⟨E, hE⟩ : ∃ E, makeE p = E := ⟨_, rfl⟩
  obtain ⟨E2, hE2⟩ : ∃ E2, makeE q = E2 := ⟨_, rfl⟩
  go_wp2_with fail
  refine (madeLaw_any q _ _ HFq.out HRq.out (hq0.out.later hB4)).mono ?_
  rintro e w5 ⟨v2, rfl, _, hv2, hb5⟩
  have hB5 := two hB4 hb5
  have hx5 := Lib.hid (hx4.out.later hb5 hx4.out.lt)
  have hy5 := Lib.hid (hy4.out.later hb5 hy4.out.lt)
  have HV2 := Lib.hid hv2
  have HV15 := Lib.hid (fun h => ((HV1.out h).wide (Nat.zero_le _) (Nat.le_refl _)).later hb5)
  clear c0 c1 c2 c3 c4 c5 d0 d1 d2 d3 d4 d5 hb5 hx4 hy4 hB4 hv2 HV1
  obtain ⟨_, ⟨c0, c1, c2, c3, c4, c5⟩⟩ := hx5.out
  obtain ⟨_, ⟨d0, d1, d2, d3, d4, d5⟩⟩ := hy5.out
  go_wp2_with fail
  refine (rmake_any p _ _ f0.out (hp0.out.later hB5)).mono ?_
  rintro e w6 ⟨rfl, hb6⟩
  rw [hE]
  have hB6 := two hB5 hb6
  have hx6 := Lib.hid (hx5.out.later hb6 hx5.out.lt)
  have hy6 := Lib.hid (hy5.out.later hb6 hy5.out.lt)
  have HV16 := Lib.hid (fun h => (HV15.out h).later hb6)
  have HV26 := Lib.hid (fun h => ((HV2.out h).wide (Nat.zero_le _) (Nat.le_refl _)).later hb6)
  clear c0 c1 c2 c3 c4 c5 d0 d1 d2 d3 d4 d5 hb6 hx5 hy5 hB5 HV15 HV2
  obtain ⟨_, ⟨c0, c1, c2, c3, c4, c5⟩⟩ := hx6.out
  obtain ⟨_, ⟨d0, d1, d2, d3, d4, d5⟩⟩ := hy6.out
  go_wp2_with fail
  refine (rmake_any q _ _ g0.out (hq0.out.later hB6)).mono ?_
  rintro e w7 ⟨rfl, hb7⟩
  rw [hE2]
  have hB7 := two hB6 hb7
  have hx7 := Lib.hid (hx6.out.later hb7 hx6.out.lt)
  have hy7 := Lib.hid (hy6.out.later hb7 hy6.out.lt)
  have HV17 := Lib.hid (fun h => (HV16.out h).later hb7)
  have HV27 := Lib.hid (fun h => (HV26.out h).later hb7)
  clear c0 c1 c2 c3 c4 c5 d0 d1 d2 d3 d4 d5 hb7 hx6 hy6 hB6 HV16 HV26
  obtain ⟨_, ⟨c0, c1, c2, c3, c4, c5⟩⟩ := hx7.out
  obtain ⟨_, ⟨d0, d1, d2, d3, d4, d5⟩⟩ := hy7.out
  by_cases h1 : E = 0
  · subst h1
    have HM := Lib.hid (makeE_ok hE).2
    have HD := makeE_depth hE
    have hv1 := Lib.hid (HV17.out hE)
    clear HV17 hE
    go_wp2_with fail
    refine (looks_any p v1 _ a cap HM.out HF.out (by omega) (hp0.out.later hB7) hv1.out).mono ?_
    rintro e w8 ⟨rfl, hb8⟩
    have hB8 := two hB7 hb8
    have hy8 := Lib.hid (hy7.out.later hb8 hy7.out.lt)
    have HV28 := Lib.hid (fun h => (HV27.out h).later hb8)
    clear c0 c1 c2 c3 c4 c5 d0 d1 d2 d3 d4 d5 hb8 hx7 hy7 hB7 HV27 hv1
    obtain ⟨_, ⟨d0, d1, d2, d3, d4, d5⟩⟩ := hy8.out
    by_cases h2 : E2 = 0
    · subst h2
      have HMq := Lib.hid (makeE_ok hE2).2
      have HDq := makeE_depth hE2
      have hv2 := Lib.hid (HV28.out hE2)
      clear HV28 hE2
      go_wp2_with fail
      refine (looks_any q v2 _ b capb HMq.out HFq.out (by omega) (hq0.out.later hB8) hv2.out).mono ?_
      rintro e w9 ⟨rfl, hb9⟩
      have hB9 := two hB8 hb9
      clear d0 d1 d2 d3 d4 d5 hb9
      go_wp2_with fail
      go_ret
      exact ⟨rfl, hB9⟩
    · have y3 : (E2 != 0) = true := by simpa using h2
      clear h2 HV28 hE2
      go_wp2_with fail
      go_ret
      exact ⟨rfl, hB8⟩
  · have y3 : (E != 0) = true := by simpa using h1
    clear h1 HV17 hE
    by_cases h2 : E2 = 0
    · subst h2
      have HMq := Lib.hid (makeE_ok hE2).2
      have HDq := makeE_depth hE2
      have hv2 := Lib.hid (HV27.out hE2)
      clear HV27 hE2
      go_wp2_with fail
      refine (looks_any q v2 _ b capb HMq.out HFq.out (by omega) (hq0.out.later hB7) hv2.out).mono ?_
      rintro e w9 ⟨rfl, hb9⟩
      have hB9 := two hB7 hb9
      clear c0 c1 c2 c3 c4 c5 d0 d1 d2 d3 d4 d5 hb9
      go_wp2_with fail
      go_ret
      exact ⟨rfl, hB9⟩
    · have y4 : (E2 != 0) = true := by simpa using h2
      clear h2 HV27 hE2
      go_wp2_with fail
      go_ret
      exact ⟨rfl, hB7⟩
end Go.Proofs.Ytcgphlilijeifaa.V
