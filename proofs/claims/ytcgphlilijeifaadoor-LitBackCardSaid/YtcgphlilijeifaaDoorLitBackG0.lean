import Derived.Test.YtcgphlilijeifaaDoorLitPrintsG35
import Derived.Test.YtcgphlilijeifaaDoorLitPrintsG14
/-
  LitBack's walk (printed by wip/tools/mk-litlaws.py).
-/
namespace Go.Proofs.YtcgphlilijeifaaDoor.L
open Go.RowKit
open V (Pt)

set_option maxRecDepth 100000 in
set_option maxHeartbeats 8000000 in
theorem litBack_any (p : Pt) (v : Value) (q : Pt) (u : Value) (s : ByteArray) (w : World) (hf : V.FitA p) (hp : V.PI w 0 w.heap.size p.items v) (hg : V.FitA q) (hq : V.PI w 0 w.heap.size q.items u) (_w2 : s.size ≤ maxLen) :
    Calls Tryd.prog 11 #[.agg #[.int .u8 p.kind, .bool p.yes, .bool p.neg, .string p.mag, .string p.raw, v], .agg #[.int .u8 q.kind, .bool q.yes, .bool q.neg, .string q.mag, .string q.raw, u], .string s] w fun e w' => e = .returned (.bool true) ∧ Below w.heap.size w w' := by
  have f0 := Lib.hid hf.fit
  have g0 := Lib.hid hg.fit
  have HF := Lib.hid hf
  have HG := Lib.hid hg
  have hp0 := Lib.hid hp
  have hq0 := Lib.hid hq
  obtain ⟨a, cap, rfl, _, _⟩ := hp.open
  obtain ⟨a', cap', rfl, _, _⟩ := hq.open
  have hA1 := (Below.refl w.heap.size w).alloc (Nat.le_refl _) (.cells #[.int .u8 p.kind, .bool p.yes, .bool p.neg, .string p.mag, .string p.raw, .slice a p.items.length cap] 27)
  have hA2 := hA1.alloc (by simp) (.cells #[.int .u8 q.kind, .bool q.yes, .bool q.neg, .string q.mag, .string q.raw, .slice a' q.items.length cap'] 27)
  have hbx := Lib.hid ((V.Box.new w p (.slice a p.items.length cap) 27).later ((Below.refl _ _).alloc (Nat.le_refl _) (.cells #[.int .u8 q.kind, .bool q.yes, .bool q.neg, .string q.mag, .string q.raw, .slice a' q.items.length cap'] 27)) (by simp))
  have hby : RowKit.Hid (V.Box ((w.alloc (.cells #[.int .u8 p.kind, .bool p.yes, .bool p.neg, .string p.mag, .string p.raw, .slice a p.items.length cap] 27)).alloc (.cells #[.int .u8 q.kind, .bool q.yes, .bool q.neg, .string q.mag, .string q.raw, .slice a' q.items.length cap'] 27)) (w.heap.size + 1) q (.slice a' q.items.length cap')) :=
    Lib.hid (by have := V.Box.new (w.alloc (.cells #[.int .u8 p.kind, .bool p.yes, .bool p.neg, .string p.mag, .string p.raw, .slice a p.items.length cap] 27)) q (.slice a' q.items.length cap') 27; simpa using this)
  clear hp hf hq hg
  go_enter Tryd.func11, Tryd.ntmps11
  go_wp2_with fail
  refine (awake10_any _).mono ?_
  rintro e w1 ⟨rfl, hb1⟩
  have hB1 : Below w.heap.size w w1 := hA2.trans (hb1.mono (by simp; omega))
  have hx1 := Lib.hid (hbx.out.later hb1 hbx.out.lt)
  have hy1 := Lib.hid (hby.out.later hb1 hby.out.lt)
  clear hbx hby hb1 hA1 hA2
  obtain ⟨_, ⟨c0, c1, c2, c3, c4, c5⟩⟩ := hx1.out
  go_wp2_with fail
  refine (V.weight10_any p _ _ 0 (by decide) (by decide) f0.out (hp0.out.later hB1)).mono ?_
  rintro e w2 ⟨r, rfl, hr0, hr1, hb2⟩
  have hB2 := V.two hB1 hb2
  have hx2 := Lib.hid (hx1.out.later hb2 hx1.out.lt)
  have hy2 := Lib.hid (hy1.out.later hb2 hy1.out.lt)
  clear c0 c1 c2 c3 c4 c5 hb2 hx1 hy1 hB1
  obtain ⟨_, ⟨d0, d1, d2, d3, d4, d5⟩⟩ := hy2.out
  by_cases hbig : 134217728 < r
  · have q1 : decide (134217728 < r) = true := by simpa using hbig
    go_wp2_with fail
    go_ret
    exact ⟨rfl, hB2⟩
  have q1 : decide (134217728 < r) = false := by simpa using hbig
  clear hbig hr0 hr1
  go_wp2_with fail
  refine (V.weight10_any q _ _ 0 (by decide) (by decide) g0.out (hq0.out.later hB2)).mono ?_
  rintro e w3 ⟨r2, rfl, hr0, hr1, hb3⟩
  have hB3 := V.two hB2 hb3
  have hx3 := Lib.hid (hx2.out.later hb3 hx2.out.lt)
  have hy3 := Lib.hid (hy2.out.later hb3 hy2.out.lt)
  clear d0 d1 d2 d3 d4 d5 hb3 hx2 hy2 hB2
  obtain ⟨_, ⟨c0, c1, c2, c3, c4, c5⟩⟩ := hx3.out
  by_cases hbig : 134217728 < r2
  · have q2 : decide (134217728 < r2) = true := by simpa using hbig
    go_wp2_with fail
    go_ret
    exact ⟨rfl, hB3⟩
  have q2 : decide (134217728 < r2) = false := by simpa using hbig
  clear hbig hr0 hr1
  by_cases hbig : 134217728 < s.size
  · have q3 : decide ((134217728 : Int) < (s.size : Int)) = true := by simp; omega
    go_wp2_with fail
    go_ret
    exact ⟨rfl, hB3⟩
  have q3 : decide ((134217728 : Int) < (s.size : Int)) = false := by simp; omega
  clear hbig
  go_wp2_with fail
  refine (V.make_any p _ _ f0.out (hp0.out.later hB3)).mono ?_
  rintro e w4 ⟨v1, rfl, hn4, hv4, hb4⟩
  have hB4 := V.two hB3 hb4
  have hy4 := Lib.hid (hy3.out.later hb4 hy3.out.lt)
  have HV4 := Lib.hid hv4
  have HN4 := Lib.hid hn4
  clear c0 c1 c2 c3 c4 c5 hb4 hx3 hy3 hB3 hv4 hn4
  obtain ⟨_, ⟨d0, d1, d2, d3, d4, d5⟩⟩ := hy4.out
  go_wp2_with fail
  refine (V.make_any q _ _ g0.out (hq0.out.later hB4)).mono ?_
  rintro e w5 ⟨v2, rfl, hn5, hv5, hb5⟩
  have hB5 := V.two hB4 hb5
  have HV5 := Lib.hid hv5
  have HB5 := Lib.hid hb5
  clear d0 d1 d2 d3 d4 d5 hb5 hy4 hB4 hv5 hn5
  obtain ⟨E, hE⟩ : ∃ E, V.makeE p = E := ⟨_, rfl⟩
  obtain ⟨E2, hE2⟩ : ∃ E, V.makeE q = E := ⟨_, rfl⟩
  rw [hE, hE2]
  by_cases h1 : E = 0
  rotate_left
  · have q4 : (E == 0) = false := by simpa using h1
    clear h1 hE hE2 HV4 HV5 HN4
    go_wp2_with fail
    refine (lparse_any s _).mono ?_
    rintro e x1 ⟨hb1, ⟨hl, rfl⟩ | ⟨n, hl, hn, _, rfl⟩ | ⟨r, u, hl, hr, hu, rfl⟩⟩
    · have hBx := V.two hB5 hb1
      have l1 : decide ((65536 : Int) < (s.size : Int)) = true := by simp; omega
      clear hl
      go_wp2_with fail
      go_ret
      exact ⟨rfl, hBx⟩
    · have hBx := V.two hB5 hb1
      have l0 : decide ((0 : Int) ≤ (n : Int)) = true := by simp
      have l1 : decide ((n : Int) ≤ (s.size : Int)) = true := by simp; omega
      clear hl
      go_wp2_with fail
      all_goals first
        | (exfalso; omega)
        | (go_ret; exact ⟨rfl, hBx⟩)
    · have hBx := V.two hB5 hb1
      obtain ⟨k1, k2, k3⟩ := whole_text hr
      have K1 := Lib.hid k1
      have K2 := Lib.hid k2
      have K3 := Lib.hid (k3 hl)
      have KL := Lib.hid hl
      have KU := Lib.hid (hu.wide (Nat.zero_le _) (Nat.le_refl _))
      clear k1 k2 k3 hl hr hu hb1
      go_wp2_with fail
      refine (lprint_any r u _ K3.out (by have := K2.out; omega) KU.out).mono ?_
      rintro e x2 ⟨hb2, ⟨_, y, rfl, hy⟩ | ⟨hgt, _⟩⟩
      rotate_left
      · exact absurd hgt (by rw [← K1.out, size_of]; have := KL.out; omega)
      obtain rfl : y = s := V.ba_same (by rw [hy.out, K1.out])
      have hBy := V.two hBx hb2
      clear hy hb2
      go_wp2_with fail
      go_ret
      exact ⟨rfl, hBy⟩
  subst h1
  by_cases h2 : E2 = 0
  rotate_left
  · have q4 : (E2 == 0) = false := by simpa using h2
    clear h2 hE hE2 HV4 HV5 HN4
    go_wp2_with fail
    refine (lparse_any s _).mono ?_
    rintro e x1 ⟨hb1, ⟨hl, rfl⟩ | ⟨n, hl, hn, _, rfl⟩ | ⟨r, u, hl, hr, hu, rfl⟩⟩
    · have hBx := V.two hB5 hb1
      have l1 : decide ((65536 : Int) < (s.size : Int)) = true := by simp; omega
      clear hl
      go_wp2_with fail
      go_ret
      exact ⟨rfl, hBx⟩
    · have hBx := V.two hB5 hb1
      have l0 : decide ((0 : Int) ≤ (n : Int)) = true := by simp
      have l1 : decide ((n : Int) ≤ (s.size : Int)) = true := by simp; omega
      clear hl
      go_wp2_with fail
      all_goals first
        | (exfalso; omega)
        | (go_ret; exact ⟨rfl, hBx⟩)
    · have hBx := V.two hB5 hb1
      obtain ⟨k1, k2, k3⟩ := whole_text hr
      have K1 := Lib.hid k1
      have K2 := Lib.hid k2
      have K3 := Lib.hid (k3 hl)
      have KL := Lib.hid hl
      have KU := Lib.hid (hu.wide (Nat.zero_le _) (Nat.le_refl _))
      clear k1 k2 k3 hl hr hu hb1
      go_wp2_with fail
      refine (lprint_any r u _ K3.out (by have := K2.out; omega) KU.out).mono ?_
      rintro e x2 ⟨hb2, ⟨_, y, rfl, hy⟩ | ⟨hgt, _⟩⟩
      rotate_left
      · exact absurd hgt (by rw [← K1.out, size_of]; have := KL.out; omega)
      obtain rfl : y = s := V.ba_same (by rw [hy.out, K1.out])
      have hBy := V.two hBx hb2
      clear hy hb2
      go_wp2_with fail
      go_ret
      exact ⟨rfl, hBy⟩
  subst h2
  have HM1 := Lib.hid (V.makeE_ok hE).2
  have HD1 := Lib.hid (V.makeE_depth hE)
  have HM2 := Lib.hid (V.makeE_ok hE2).2
  have HD2 := Lib.hid (V.makeE_depth hE2)
  have ha5 := Lib.hid (((HV4.out hE).wide (Nat.zero_le _) (Nat.le_refl _)).later HB5.out)
  have hb5 := Lib.hid ((HV5.out hE2).wide (Nat.zero_le _) (Nat.le_refl _))
  clear hE hE2 HV4 HV5 HN4 HB5
  go_wp2_with fail
  refine (lprint_any p v1 _ HM1.out (by have := HD1.out; omega) ha5.out).mono ?_
  rintro e w6 ⟨hb6, h6⟩
  have hB6 := V.two hB5 hb6
  have ha6 := Lib.hid (ha5.out.later hb6)
  have hb6' := Lib.hid (hb5.out.later hb6)
  clear hb6 ha5 hb5 hB5
  rcases h6 with ⟨hle, y, rfl, hy⟩ | ⟨hgt, rfl⟩
  rotate_left
  · clear hgt
    go_wp2_with fail
    refine (lprint_any q v2 _ HM2.out (by have := HD2.out; omega) hb6'.out).mono ?_
    rintro e w7 ⟨hb7, h7⟩
    have hB7 := V.two hB6 hb7
    have ha7 := Lib.hid (ha6.out.later hb7)
    have hb7' := Lib.hid (hb6'.out.later hb7)
    clear hb7 ha6 hb6' hB6
    rcases h7 with ⟨hle2, z, rfl, hz⟩ | ⟨hgt2, rfl⟩
    · clear hle2 hz ha7 hb7'
      go_wp2_with fail
      refine (lparse_any s _).mono ?_
      rintro e x1 ⟨hb1, ⟨hl, rfl⟩ | ⟨n, hl, hn, _, rfl⟩ | ⟨r, u, hl, hr, hu, rfl⟩⟩
      · have hBx := V.two hB7 hb1
        have l1 : decide ((65536 : Int) < (s.size : Int)) = true := by simp; omega
        clear hl
        go_wp2_with fail
        go_ret
        exact ⟨rfl, hBx⟩
      · have hBx := V.two hB7 hb1
        have l0 : decide ((0 : Int) ≤ (n : Int)) = true := by simp
        have l1 : decide ((n : Int) ≤ (s.size : Int)) = true := by simp; omega
        clear hl
        go_wp2_with fail
        all_goals first
          | (exfalso; omega)
          | (go_ret; exact ⟨rfl, hBx⟩)
      · have hBx := V.two hB7 hb1
        obtain ⟨k1, k2, k3⟩ := whole_text hr
        have K1 := Lib.hid k1
        have K2 := Lib.hid k2
        have K3 := Lib.hid (k3 hl)
        have KL := Lib.hid hl
        have KU := Lib.hid (hu.wide (Nat.zero_le _) (Nat.le_refl _))
        clear k1 k2 k3 hl hr hu hb1
        go_wp2_with fail
        refine (lprint_any r u _ K3.out (by have := K2.out; omega) KU.out).mono ?_
        rintro e x2 ⟨hb2, ⟨_, y, rfl, hy⟩ | ⟨hgt, _⟩⟩
        rotate_left
        · exact absurd hgt (by rw [← K1.out, size_of]; have := KL.out; omega)
        obtain rfl : y = s := V.ba_same (by rw [hy.out, K1.out])
        have hBy := V.two hBx hb2
        clear hy hb2
        go_wp2_with fail
        go_ret
        exact ⟨rfl, hBy⟩
    · clear hgt2 ha7 hb7'
      go_wp2_with fail
      refine (lparse_any s _).mono ?_
      rintro e x1 ⟨hb1, ⟨hl, rfl⟩ | ⟨n, hl, hn, _, rfl⟩ | ⟨r, u, hl, hr, hu, rfl⟩⟩
      · have hBx := V.two hB7 hb1
        have l1 : decide ((65536 : Int) < (s.size : Int)) = true := by simp; omega
        clear hl
        go_wp2_with fail
        go_ret
        exact ⟨rfl, hBx⟩
      · have hBx := V.two hB7 hb1
        have l0 : decide ((0 : Int) ≤ (n : Int)) = true := by simp
        have l1 : decide ((n : Int) ≤ (s.size : Int)) = true := by simp; omega
        clear hl
        go_wp2_with fail
        all_goals first
          | (exfalso; omega)
          | (go_ret; exact ⟨rfl, hBx⟩)
      · have hBx := V.two hB7 hb1
        obtain ⟨k1, k2, k3⟩ := whole_text hr
        have K1 := Lib.hid k1
        have K2 := Lib.hid k2
        have K3 := Lib.hid (k3 hl)
        have KL := Lib.hid hl
        have KU := Lib.hid (hu.wide (Nat.zero_le _) (Nat.le_refl _))
        clear k1 k2 k3 hl hr hu hb1
        go_wp2_with fail
        refine (lprint_any r u _ K3.out (by have := K2.out; omega) KU.out).mono ?_
        rintro e x2 ⟨hb2, ⟨_, y, rfl, hy⟩ | ⟨hgt, _⟩⟩
        rotate_left
        · exact absurd hgt (by rw [← K1.out, size_of]; have := KL.out; omega)
        obtain rfl : y = s := V.ba_same (by rw [hy.out, K1.out])
        have hBy := V.two hBx hb2
        clear hy hb2
        go_wp2_with fail
        go_ret
        exact ⟨rfl, hBy⟩
  go_wp2_with fail
  refine (lprint_any q v2 _ HM2.out (by have := HD2.out; omega) hb6'.out).mono ?_
  rintro e w7 ⟨hb7, h7⟩
  have hB7 := V.two hB6 hb7
  have ha7 := Lib.hid (ha6.out.later hb7)
  have hb7' := Lib.hid (hb6'.out.later hb7)
  clear hb7 ha6 hb6' hB6
  rcases h7 with ⟨hle2, z, rfl, hz⟩ | ⟨hgt2, rfl⟩
  · have f1 : (y.toList == z.toList) = V.sameP p q := by
      rw [← texts_same HM1.out HM2.out HD1.out HD2.out, ← hy.out, ← hz.out]
    clear hle2 hz
    go_wp2_with fail
    refine (V.Same_any p q _ _ _ HM1.out HM2.out ha7.out hb7'.out).mono ?_
    rintro e w8 ⟨rfl, hb8⟩
    have hB8' := V.two hB7 hb8
    have ha8' := Lib.hid (ha7.out.later hb8)
    clear hb8 ha7 hb7' hB7
    obtain ⟨S, hS⟩ : ∃ S, V.sameP p q = S := ⟨_, rfl⟩
    rw [hS] at f1 ⊢
    clear hS
    cases S
    · skip
      have hy1 := hy.out
      have PY := Lib.hid (text_whole HM1.out HD1.out hy1)
      have LY := Lib.hid (show y.size ≤ 65536 by rw [← size_of, hy1]; exact hle)
      have l5 : decide ((65536 : Int) < (y.size : Int)) = false := by have := LY.out; simp; omega
      clear hle hy1
      go_wp2_with fail
      refine (lparse_any y _).mono ?_
      rintro e x3 hx3
      obtain ⟨hb3, m, hm3, rfl⟩ := hx3.yes LY.out PY.out
      have hB8 := V.two hB8' hb3
      have hm4 := Lib.hid (hm3.wide (Nat.zero_le _) (Nat.le_refl _))
      have ha8 := Lib.hid (ha8'.out.later hb3)
      clear hm3 hb3
      go_wp2_with fail
      refine (V.Same_any p p _ _ _ HM1.out HM1.out hm4.out ha8.out).mono ?_
      rintro e x4 ⟨rfl, hb4⟩
      have hB9 := V.two hB8 hb4
      rw [sameP_self]
      clear hb4 hm4 ha8 hB8
      go_wp2_with fail
      refine (lparse_any s _).mono ?_
      rintro e x1 ⟨hb1, ⟨hl, rfl⟩ | ⟨n, hl, hn, _, rfl⟩ | ⟨r, u, hl, hr, hu, rfl⟩⟩
      · have hBx := V.two hB9 hb1
        have l1 : decide ((65536 : Int) < (s.size : Int)) = true := by simp; omega
        clear hl
        go_wp2_with fail
        go_ret
        exact ⟨rfl, hBx⟩
      · have hBx := V.two hB9 hb1
        have l0 : decide ((0 : Int) ≤ (n : Int)) = true := by simp
        have l1 : decide ((n : Int) ≤ (s.size : Int)) = true := by simp; omega
        clear hl
        go_wp2_with fail
        all_goals first
          | (exfalso; omega)
          | (go_ret; exact ⟨rfl, hBx⟩)
      · have hBx := V.two hB9 hb1
        obtain ⟨k1, k2, k3⟩ := whole_text hr
        have K1 := Lib.hid k1
        have K2 := Lib.hid k2
        have K3 := Lib.hid (k3 hl)
        have KL := Lib.hid hl
        have KU := Lib.hid (hu.wide (Nat.zero_le _) (Nat.le_refl _))
        clear k1 k2 k3 hl hr hu hb1
        go_wp2_with fail
        refine (lprint_any r u _ K3.out (by have := K2.out; omega) KU.out).mono ?_
        rintro e x2 ⟨hb2, ⟨_, y, rfl, hy⟩ | ⟨hgt, _⟩⟩
        rotate_left
        · exact absurd hgt (by rw [← K1.out, size_of]; have := KL.out; omega)
        obtain rfl : y = s := V.ba_same (by rw [hy.out, K1.out])
        have hBy := V.two hBx hb2
        clear hy hb2
        go_wp2_with fail
        go_ret
        exact ⟨rfl, hBy⟩
    · skip
      have hy1 := hy.out
      have PY := Lib.hid (text_whole HM1.out HD1.out hy1)
      have LY := Lib.hid (show y.size ≤ 65536 by rw [← size_of, hy1]; exact hle)
      have l5 : decide ((65536 : Int) < (y.size : Int)) = false := by have := LY.out; simp; omega
      clear hle hy1
      go_wp2_with fail
      refine (lparse_any y _).mono ?_
      rintro e x3 hx3
      obtain ⟨hb3, m, hm3, rfl⟩ := hx3.yes LY.out PY.out
      have hB8 := V.two hB8' hb3
      have hm4 := Lib.hid (hm3.wide (Nat.zero_le _) (Nat.le_refl _))
      have ha8 := Lib.hid (ha8'.out.later hb3)
      clear hm3 hb3
      go_wp2_with fail
      refine (V.Same_any p p _ _ _ HM1.out HM1.out hm4.out ha8.out).mono ?_
      rintro e x4 ⟨rfl, hb4⟩
      have hB9 := V.two hB8 hb4
      rw [sameP_self]
      clear hb4 hm4 ha8 hB8
      go_wp2_with fail
      refine (lparse_any s _).mono ?_
      rintro e x1 ⟨hb1, ⟨hl, rfl⟩ | ⟨n, hl, hn, _, rfl⟩ | ⟨r, u, hl, hr, hu, rfl⟩⟩
      · have hBx := V.two hB9 hb1
        have l1 : decide ((65536 : Int) < (s.size : Int)) = true := by simp; omega
        clear hl
        go_wp2_with fail
        go_ret
        exact ⟨rfl, hBx⟩
      · have hBx := V.two hB9 hb1
        have l0 : decide ((0 : Int) ≤ (n : Int)) = true := by simp
        have l1 : decide ((n : Int) ≤ (s.size : Int)) = true := by simp; omega
        clear hl
        go_wp2_with fail
        all_goals first
          | (exfalso; omega)
          | (go_ret; exact ⟨rfl, hBx⟩)
      · have hBx := V.two hB9 hb1
        obtain ⟨k1, k2, k3⟩ := whole_text hr
        have K1 := Lib.hid k1
        have K2 := Lib.hid k2
        have K3 := Lib.hid (k3 hl)
        have KL := Lib.hid hl
        have KU := Lib.hid (hu.wide (Nat.zero_le _) (Nat.le_refl _))
        clear k1 k2 k3 hl hr hu hb1
        go_wp2_with fail
        refine (lprint_any r u _ K3.out (by have := K2.out; omega) KU.out).mono ?_
        rintro e x2 ⟨hb2, ⟨_, y, rfl, hy⟩ | ⟨hgt, _⟩⟩
        rotate_left
        · exact absurd hgt (by rw [← K1.out, size_of]; have := KL.out; omega)
        obtain rfl : y = s := V.ba_same (by rw [hy.out, K1.out])
        have hBy := V.two hBx hb2
        clear hy hb2
        go_wp2_with fail
        go_ret
        exact ⟨rfl, hBy⟩
  · clear hgt2 hb7'
    have hy1 := hy.out
    have PY := Lib.hid (text_whole HM1.out HD1.out hy1)
    have LY := Lib.hid (show y.size ≤ 65536 by rw [← size_of, hy1]; exact hle)
    have l5 : decide ((65536 : Int) < (y.size : Int)) = false := by have := LY.out; simp; omega
    clear hle hy1
    go_wp2_with fail
    refine (lparse_any y _).mono ?_
    rintro e x3 hx3
    obtain ⟨hb3, m, hm3, rfl⟩ := hx3.yes LY.out PY.out
    have hB8 := V.two hB7 hb3
    have hm4 := Lib.hid (hm3.wide (Nat.zero_le _) (Nat.le_refl _))
    have ha8 := Lib.hid (ha7.out.later hb3)
    clear hm3 hb3
    go_wp2_with fail
    refine (V.Same_any p p _ _ _ HM1.out HM1.out hm4.out ha8.out).mono ?_
    rintro e x4 ⟨rfl, hb4⟩
    have hB9 := V.two hB8 hb4
    rw [sameP_self]
    clear hb4 hm4 ha8 hB8
    go_wp2_with fail
    refine (lparse_any s _).mono ?_
    rintro e x1 ⟨hb1, ⟨hl, rfl⟩ | ⟨n, hl, hn, _, rfl⟩ | ⟨r, u, hl, hr, hu, rfl⟩⟩
    · have hBx := V.two hB9 hb1
      have l1 : decide ((65536 : Int) < (s.size : Int)) = true := by simp; omega
      clear hl
      go_wp2_with fail
      go_ret
      exact ⟨rfl, hBx⟩
    · have hBx := V.two hB9 hb1
      have l0 : decide ((0 : Int) ≤ (n : Int)) = true := by simp
      have l1 : decide ((n : Int) ≤ (s.size : Int)) = true := by simp; omega
      clear hl
      go_wp2_with fail
      all_goals first
        | (exfalso; omega)
        | (go_ret; exact ⟨rfl, hBx⟩)
    · have hBx := V.two hB9 hb1
      obtain ⟨k1, k2, k3⟩ := whole_text hr
      have K1 := Lib.hid k1
      have K2 := Lib.hid k2
      have K3 := Lib.hid (k3 hl)
      have KL := Lib.hid hl
      have KU := Lib.hid (hu.wide (Nat.zero_le _) (Nat.le_refl _))
      clear k1 k2 k3 hl hr hu hb1
      go_wp2_with fail
      refine (lprint_any r u _ K3.out (by have := K2.out; omega) KU.out).mono ?_
      rintro e x2 ⟨hb2, ⟨_, y, rfl, hy⟩ | ⟨hgt, _⟩⟩
      rotate_left
      · exact absurd hgt (by rw [← K1.out, size_of]; have := KL.out; omega)
      obtain rfl : y = s := V.ba_same (by rw [hy.out, K1.out])
      have hBy := V.two hBx hb2
      clear hy hb2
      go_wp2_with fail
      go_ret
      exact ⟨rfl, hBy⟩
end Go.Proofs.YtcgphlilijeifaaDoor.L
