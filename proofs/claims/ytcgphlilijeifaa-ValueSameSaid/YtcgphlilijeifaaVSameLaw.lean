/-
  ValueSame's walk.
-/
import Derived.Test.YtcgphlilijeifaaVLooks
import Derived.Test.YtcgphlilijeifaaVCopied
import Derived.Deep.RegionHeld3
namespace Go.Proofs.Ytcgphlilijeifaa.V
open Go.RowKit

set_option maxRecDepth 100000 in
set_option maxHeartbeats 1500000 in
theorem sameLaw_any (p : Pt) (v : Value) (q : Pt) (u : Value) (w : World) (hf : FitA p) (hp : PI w 0 w.heap.size p.items v) (hfq : FitA q) (hq : PI w 0 w.heap.size q.items u) :
    Calls Try.prog 5 #[.agg #[.int .u8 p.kind, .bool p.yes, .bool p.neg, .string p.mag, .string p.raw, v], .agg #[.int .u8 q.kind, .bool q.yes, .bool q.neg, .string q.mag, .string q.raw, u]] w fun e w' => e = .returned (.bool true) ∧ Below w.heap.size w w' := by
  have f0 := Lib.hid hf.fit
  have g0 := Lib.hid hfq.fit
  have HF := Lib.hid hf
  have hp0 := Lib.hid hp
  have hq0 := Lib.hid hq
  obtain ⟨a, cap, rfl, _, _⟩ := hp.open
  obtain ⟨b, capb, rfl, _, _⟩ := hq.open
  have hA1 := (Below.refl w.heap.size w).alloc (Nat.le_refl _) (.cells #[.int .u8 p.kind, .bool p.yes, .bool p.neg, .string p.mag, .string p.raw, .slice a p.items.length cap] 27)
  have hA2 : Below w.heap.size w _ := hA1.alloc (by simp) (.cells #[.int .u8 q.kind, .bool q.yes, .bool q.neg, .string q.mag, .string q.raw, .slice b q.items.length capb] 27)
  have hbx := Lib.hid ((Box.new w p (.slice a p.items.length cap) 27).later ((Below.refl _ _).alloc (Nat.le_refl _) (.cells #[.int .u8 q.kind, .bool q.yes, .bool q.neg, .string q.mag, .string q.raw, .slice b q.items.length capb] 27)) (by simp))
  have hby : RowKit.Hid (Box ((w.alloc (.cells #[.int .u8 p.kind, .bool p.yes, .bool p.neg, .string p.mag, .string p.raw, .slice a p.items.length cap] 27)).alloc (.cells #[.int .u8 q.kind, .bool q.yes, .bool q.neg, .string q.mag, .string q.raw, .slice b q.items.length capb] 27)) (w.heap.size + 1) q (.slice b q.items.length capb)) :=
    Lib.hid (by have := Box.new (w.alloc (.cells #[.int .u8 p.kind, .bool p.yes, .bool p.neg, .string p.mag, .string p.raw, .slice a p.items.length cap] 27)) q (.slice b q.items.length capb) 27; simpa using this)
  have HA2 := Lib.hid hA2
  clear hp hq hf hfq hA1 hA2
  go_enter Try.func5, Try.ntmps5
  go_wp2_with fail
  refine (awake_any _).mono ?_
  rintro e w1 ⟨rfl, hb1⟩
  have hB1 : Below w.heap.size w w1 := HA2.out.trans (hb1.mono (by simp; omega))
  have hx1 := Lib.hid (hbx.out.later hb1 hbx.out.lt)
  have hy1 := Lib.hid (hby.out.later hb1 hby.out.lt)
  clear hbx hby hb1 HA2
  obtain ⟨_, ⟨c0, c1, c2, c3, c4, c5⟩⟩ := hx1.out
  obtain ⟨_, ⟨d0, d1, d2, d3, d4, d5⟩⟩ := hy1.out
  go_wp2_with fail
  refine (weight_any p _ _ 0 (by decide) (by decide) f0.out (hp0.out.later hB1)).mono ?_
  rintro e w2 ⟨r, rfl, hr0, hr1, hb2⟩
  have hB2 := two hB1 hb2
  have hx2 := Lib.hid (hx1.out.later hb2 hx1.out.lt)
  have hy2 := Lib.hid (hy1.out.later hb2 hy1.out.lt)
  clear c0 c1 c2 c3 c4 c5 d0 d1 d2 d3 d4 d5 hb2 hx1 hy1 hB1
  obtain ⟨_, ⟨c0, c1, c2, c3, c4, c5⟩⟩ := hx2.out
  obtain ⟨_, ⟨d0, d1, d2, d3, d4, d5⟩⟩ := hy2.out
  by_cases hbig : 134217728 < r
  · have q1 : decide (134217728 < r) = true := by simpa using hbig
    go_wp2_with fail
    go_ret
    exact ⟨rfl, hB2⟩
  have q1 : decide (134217728 < r) = false := by simpa using hbig
  clear hbig hr0 hr1
  go_wp2_with fail
  refine (weight_any q _ _ 0 (by decide) (by decide) g0.out (hq0.out.later hB2)).mono ?_
  rintro e w3 ⟨r2, rfl, hr0, hr1, hb3⟩
  have hB3 := two hB2 hb3
  have hx3 := Lib.hid (hx2.out.later hb3 hx2.out.lt)
  have hy3 := Lib.hid (hy2.out.later hb3 hy2.out.lt)
  clear c0 c1 c2 c3 c4 c5 d0 d1 d2 d3 d4 d5 hb3 hx2 hy2 hB2
  obtain ⟨_, ⟨c0, c1, c2, c3, c4, c5⟩⟩ := hx3.out
  obtain ⟨_, ⟨d0, d1, d2, d3, d4, d5⟩⟩ := hy3.out
  by_cases hbig : 134217728 < r2
  · have q2 : decide (134217728 < r2) = true := by simpa using hbig
    go_wp2_with fail
    go_ret
    exact ⟨rfl, hB3⟩
  have q2 : decide (134217728 < r2) = false := by simpa using hbig
  clear hbig hr0 hr1
  go_wp2_with fail
  refine (make_any p _ _ f0.out (hp0.out.later hB3)).mono ?_
  rintro e w4 ⟨v1, rfl, _, hv1, hb4⟩
  have hB4 := two hB3 hb4
  have hx4 := Lib.hid (hx3.out.later hb4 hx3.out.lt)
  have hy4 := Lib.hid (hy3.out.later hb4 hy3.out.lt)
  have HV1 := Lib.hid hv1
  clear c0 c1 c2 c3 c4 c5 d0 d1 d2 d3 d4 d5 hb4 hx3 hy3 hB3 hv1
  obtain ⟨_, ⟨c0, c1, c2, c3, c4, c5⟩⟩ := hx4.out
  obtain ⟨_, ⟨d0, d1, d2, d3, d4, d5⟩⟩ := hy4.out
  obtain ⟨E, hE⟩ : ∃ E, makeE p = E := ⟨_, rfl⟩
  obtain ⟨E2, hE2⟩ : ∃ E2, makeE q = E2 := ⟨_, rfl⟩
  rw [hE]
  go_wp2_with fail
  refine (make_any q _ _ g0.out (hq0.out.later hB4)).mono ?_
  rintro e w5 ⟨v2, rfl, _, hv2, hb5⟩
  rw [hE2]
  have hB5 := two hB4 hb5
  have hx5 := Lib.hid (hx4.out.later hb5 hx4.out.lt)
  have hy5 := Lib.hid (hy4.out.later hb5 hy4.out.lt)
  have HV2 := Lib.hid hv2
  have HV15 := Lib.hid (fun h => ((HV1.out h).wide (Nat.zero_le _) (Nat.le_refl _)).later hb5)
  clear c0 c1 c2 c3 c4 c5 d0 d1 d2 d3 d4 d5 hb5 hx4 hy4 hB4 hv2 HV1
  obtain ⟨_, ⟨c0, c1, c2, c3, c4, c5⟩⟩ := hx5.out
  obtain ⟨_, ⟨d0, d1, d2, d3, d4, d5⟩⟩ := hy5.out
  go_wp2_with fail
  refine (rmake_any p _ _ f0.out (hp0.out.later hB5)).mono ?_
  rintro e w6 ⟨rfl, hb6⟩
  rw [hE]
  have hB6 := two hB5 hb6
  have hx6 := Lib.hid (hx5.out.later hb6 hx5.out.lt)
  have hy6 := Lib.hid (hy5.out.later hb6 hy5.out.lt)
  have HV16 := Lib.hid (fun h => (HV15.out h).later hb6)
  have HV26 := Lib.hid (fun h => ((HV2.out h).wide (Nat.zero_le _) (Nat.le_refl _)).later hb6)
  clear c0 c1 c2 c3 c4 c5 d0 d1 d2 d3 d4 d5 hb6 hx5 hy5 hB5 HV15 HV2
  obtain ⟨_, ⟨c0, c1, c2, c3, c4, c5⟩⟩ := hx6.out
  obtain ⟨_, ⟨d0, d1, d2, d3, d4, d5⟩⟩ := hy6.out
  go_wp2_with fail
  refine (rmake_any q _ _ g0.out (hq0.out.later hB6)).mono ?_
  rintro e w7 ⟨rfl, hb7⟩
  rw [hE2]
  have hB7 := two hB6 hb7
  have hx7 := Lib.hid (hx6.out.later hb7 hx6.out.lt)
  have hy7 := Lib.hid (hy6.out.later hb7 hy6.out.lt)
  have HV17 := Lib.hid (fun h => (HV16.out h).later hb7)
  have HV27 := Lib.hid (fun h => (HV26.out h).later hb7)
  clear c0 c1 c2 c3 c4 c5 d0 d1 d2 d3 d4 d5 hb7 hx6 hy6 hB6 HV16 HV26
  obtain ⟨_, ⟨c0, c1, c2, c3, c4, c5⟩⟩ := hx7.out
  obtain ⟨_, ⟨d0, d1, d2, d3, d4, d5⟩⟩ := hy7.out
  have y1 : (E != E) = false := by simp
  have y2 : (E2 != E2) = false := by simp
  by_cases h1 : E = 0
  · by_cases h2 : E2 = 0
    · subst h1 h2
      have HM := Lib.hid (makeE_ok hE).2
      have HMq := Lib.hid (makeE_ok hE2).2
      have hv1 := Lib.hid (HV17.out hE)
      have hv2 := Lib.hid (HV27.out hE2)
      have HE := Lib.hid hE
      clear HV17 HV27 hE hE2 y1 y2
      go_wp2_with fail
      refine (same_any p q _ _ _ f0.out g0.out (hp0.out.later hB7) (hq0.out.later hB7)).mono ?_
      rintro e w8 ⟨rfl, hb8⟩
      have hB8 := two hB7 hb8
      have hx8 := Lib.hid (hx7.out.later hb8 hx7.out.lt)
      have hv18 := Lib.hid (hv1.out.later hb8)
      have hv28 := Lib.hid (hv2.out.later hb8)
      clear c0 c1 c2 c3 c4 c5 d0 d1 d2 d3 d4 d5 hb8 hx7 hy7 hB7 hv1 hv2
      obtain ⟨_, ⟨c0, c1, c2, c3, c4, c5⟩⟩ := hx8.out
      obtain ⟨S, hS⟩ : ∃ S, sameP p q = S := ⟨_, rfl⟩
      have HS := Lib.hid hS
      rw [hS]
      go_wp2_with fail
      refine (copied_any p _ _ HF.out (roomy_may p HM.out) (hp0.out.later hB8)).mono ?_
      rintro e w9 ⟨a9, cap9, rfl, hown, hb9⟩
      have hB9 := two hB8 hb9
      have hx9 := Lib.hid (hx8.out.later hb9 hx8.out.lt)
      have hv19 := Lib.hid (hv18.out.later hb9)
      have hv29 := Lib.hid (hv28.out.later hb9)
      have ho9 := Lib.hid (hown.reads.wide (Nat.zero_le _) (Nat.le_refl _))
      clear c0 c1 c2 c3 c4 c5 hb9 hx8 hB8 hv18 hv28 hown
      obtain ⟨_, ⟨c0, c1, c2, c3, c4, c5⟩⟩ := hx9.out
      go_wp2_with fail
      refine (make_any p _ _ f0.out ho9.out).mono ?_
      rintro e w10 ⟨v3, rfl, _, hv3, hb10⟩
      rw [HE.out]
      have hB10 := two hB9 hb10
      have hx10 := Lib.hid (hx9.out.later hb10 hx9.out.lt)
      have hv110 := Lib.hid (hv19.out.later hb10)
      have hv210 := Lib.hid (hv29.out.later hb10)
      have hv310 := Lib.hid ((hv3 HE.out).wide (Nat.zero_le _) (Nat.le_refl _))
      clear c0 c1 c2 c3 c4 c5 hb10 hx9 hB9 hv19 hv29 hv3 ho9 hS
      obtain ⟨_, ⟨c0, c1, c2, c3, c4, c5⟩⟩ := hx10.out
      have yS : (S == S) = true := by simp
      have yN : sameP pNull p = ((p.kind : Int) == 0) := by
        by_cases hk : p.kind = 0
        · rw [(same_one (p := pNull) (by decide +kernel) HM.out hk.symm).1 rfl, hk]; rfl
        · rw [oneB_kind (p := pNull) (q := p) (by exact fun h => hk h.symm)]
          exact (beq_eq_false_iff_ne.2 (by omega)).symm
      obtain ⟨N, hN⟩ : ∃ N, ((p.kind : Int) == 0) = N := ⟨_, rfl⟩
      have YN := Lib.hid (yN.trans hN)
      have yN2 : (N == N) = true := by simp
      have hb6 := (Below.refl w10.heap.size w10).drew
      have hbb := Below.refl w10.heap.size w10
      clear yN c1 c2 c3 c4 c5
      go_wp2_with fail
      go_region_held3 (fun w' => w'.cell? ⟨w.heap.size, 0, none⟩ = some (.int .u8 p.kind) ∧ Below w10.heap.size w10 w') (go_keep) (first
        | (go_at_call 17; refine (Same_any p q _ _ _ HM.out HMq.out (hv110.out.later (by assumption)) (hv210.out.later (by assumption))).mono ?_; rintro e w99 ⟨rfl, hb99⟩; have k0 := keeps hb99 (p := ⟨w.heap.size, 0, none⟩) (v := .int .u8 p.kind) (by assumption); have kb := two (a := _) (show Below w10.heap.size w10 _ from by assumption) hb99; rw [HS.out])
        | (go_at_call 17; refine (Same_any q p _ _ _ HMq.out HM.out (hv210.out.later (by assumption)) (hv110.out.later (by assumption))).mono ?_; rintro e w99 ⟨rfl, hb99⟩; have k0 := keeps hb99 (p := ⟨w.heap.size, 0, none⟩) (v := .int .u8 p.kind) (by assumption); have kb := two (a := _) (show Below w10.heap.size w10 _ from by assumption) hb99; rw [sameP_symm q p, HS.out])
        | (go_at_call 17; refine (Same_any p p _ _ _ HM.out HM.out (hv110.out.later (by assumption)) (hv310.out.later (by assumption))).mono ?_; rintro e w99 ⟨rfl, hb99⟩; have k0 := keeps hb99 (p := ⟨w.heap.size, 0, none⟩) (v := .int .u8 p.kind) (by assumption); have kb := two (a := _) (show Below w10.heap.size w10 _ from by assumption) hb99; rw [sameP_self])
        | (go_at_call 17; refine (Same_any pNull p .nilIface _ _ (by decide +kernel) HM.out (.null pNull rfl) (hv110.out.later (by assumption))).mono ?_; rintro e w99 ⟨rfl, hb99⟩; have k0 := keeps hb99 (p := ⟨w.heap.size, 0, none⟩) (v := .int .u8 p.kind) (by assumption); have kb := two (a := _) (show Below w10.heap.size w10 _ from by assumption) hb99; rw [YN.out]))
      have hB14 := two hB10 kb
      go_wp2_with fail
      go_ret
      exact ⟨rfl, hB14⟩
    · have y3 : (E2 != 0) = true := by simpa using h2
      clear h2 HV17 HV27 hE hE2
      subst h1
      go_wp2_with fail
      go_ret
      exact ⟨rfl, hB7⟩
  · have y3 : (E != 0) = true := by simpa using h1
    clear h1 HV17 HV27 hE hE2
    go_wp2_with fail
    go_ret
    exact ⟨rfl, hB7⟩
end Go.Proofs.Ytcgphlilijeifaa.V
