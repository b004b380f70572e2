import Derived.Test.YtcgphlilijeifaaDoorLitPrintsG34
import Derived.Test.YtcgphlilijeifaaDoorLitPrintsG14
section
/-
  The law's awake: its contract.
-/
namespace Go.Proofs.YtcgphlilijeifaaDoor.L
open Go.RowKit
open V (Pt)

def S0 : ByteArray := ⟨#[40, 49, 32, 40, 110, 117, 108, 108, 41, 32, 39, 97, 34, 39, 32, 34, 98, 92, 120, 48, 97, 34, 32, 120, 102, 102, 32, 110, 111, 41]⟩
def S1 : ByteArray := ⟨#[40, 49, 32, 32, 50, 41]⟩
def P0 : Pt := .mk 7 false false ⟨#[]⟩ ⟨#[]⟩ [.mk 2 false false ⟨#[1]⟩ ⟨#[]⟩ [], .mk 7 false false ⟨#[]⟩ ⟨#[]⟩ [.mk 0 false false ⟨#[]⟩ ⟨#[]⟩ []], .mk 5 false false ⟨#[]⟩ ⟨#[97, 34]⟩ [], .mk 6 false false ⟨#[]⟩ ⟨#[98, 10]⟩ [], .mk 3 false false ⟨#[]⟩ ⟨#[255]⟩ [], .mk 1 false false ⟨#[]⟩ ⟨#[]⟩ []]
theorem P0_may : V.mayB P0 = true := by decide +kernel
theorem P0_depth : V.depthP P0 = 2 := by decide +kernel
theorem S0_text : S0.toList = textP P0 := by decide +kernel
theorem S0_whole : partF 16 S0.toList = .ok P0 [] := text_whole P0_may (by rw [P0_depth]; decide) S0_text
theorem S1_bad : partF 16 S1.toList = .bad 3 := by
  have h : (match partF 16 S1.toList with | .bad n => n == 3 | .ok _ _ => false) = true := by decide +kernel
  cases hp : partF 16 S1.toList with
  | ok p r => rw [hp] at h; cases h
  | bad n =>
    rw [hp] at h
    have : n = 3 := by simpa using h
    rw [this]
theorem S1_fails : (∀ m, Fails S1 m → m = 3) ∧ ∀ q, partF 16 S1.toList ≠ .ok q [] := by
  refine ⟨fun m hm => ?_, fun q hq => by rw [S1_bad] at hq; cases hq⟩
  rcases hm with ⟨k, hk, he⟩ | ⟨p, c, r, hk, _⟩
  · rw [S1_bad] at hk
    cases hk
    rw [he]; decide
  · rw [S1_bad] at hk; cases hk

set_option maxRecDepth 100000 in
set_option maxHeartbeats 2000000 in
theorem awake10_any (w : World) : Calls Tryd.prog 33 #[] w fun e w' => e = .returned (.bool true) ∧ Below w.heap.size w w' := by
  have hneq : ∀ (T : TypeId) (v : Value) (w : World), (binOp BinOp.neq 33 (.iface T v) .nilIface).run Tryd.prog w = .ok (.bool true) w := fun _ _ _ => by kernel_rfl
  have heq : ∀ (w : World), (binOp BinOp.eql 33 .nilIface .nilIface).run Tryd.prog w = .ok (.bool true) w := fun _ => by kernel_rfl
  go_enter Tryd.func33, Tryd.ntmps33
  go_wp2_with fail
  refine (lparse_any S0 _).mono ?_
  rintro e w1 hx1
  obtain ⟨hb1, v, hv, rfl⟩ := hx1.yes (by decide) S0_whole
  have HV := Lib.hid (hv.wide (Nat.zero_le _) (Nat.le_refl _))
  obtain ⟨T, u, rfl⟩ := hv.ifaceOf (by decide)
  clear hx1 hv
  go_wp2_with fail
  refine (lprint_any P0 _ _ P0_may (by rw [P0_depth]; decide) HV.out).mono ?_
  rintro e w2 ⟨hb2, ⟨hle, t, rfl, ht⟩ | ⟨hgt, _⟩⟩
  rotate_left
  · exact absurd hgt (by rw [← S0_text]; decide +kernel)
  obtain rfl : t = ⟨#[40, 49, 32, 40, 110, 117, 108, 108, 41, 32, 39, 97, 34, 39, 32, 34, 98, 92, 120, 48, 97, 34, 32, 120, 102, 102, 32, 110, 111, 41]⟩ := V.ba_same (ht.out.trans S0_text.symm)
  have hB2 := V.two hb1 hb2
  clear ht hle hb1 hb2 HV
  go_wp2_with fail
  refine (lparse_any S1 _).mono ?_
  rintro e w3 hx3
  obtain ⟨hb3, rfl⟩ := hx3.no (by decide) S1_fails.1 S1_fails.2
  have hB3 := V.two hB2 hb3
  clear hb3 hB2 hx3
  go_wp2_with fail
  go_ret
  exact ⟨rfl, hB3⟩
end Go.Proofs.YtcgphlilijeifaaDoor.L
end
section
/-
  LitPrints's walk (printed by wip/tools/mk-litlaws.py).
-/
namespace Go.Proofs.YtcgphlilijeifaaDoor.L
open Go.RowKit
open V (Pt)

set_option maxRecDepth 100000 in
set_option maxHeartbeats 4000000 in
theorem litPrints_any (p : Pt) (v : Value) (w : World) (hf : V.FitA p) (hp : V.PI w 0 w.heap.size p.items v) :
    Calls Tryd.prog 10 #[.agg #[.int .u8 p.kind, .bool p.yes, .bool p.neg, .string p.mag, .string p.raw, v]] w fun e w' => e = .returned (.bool true) ∧ Below w.heap.size w w' := by
  have f0 := Lib.hid hf.fit
  have HF := Lib.hid hf
  have hp0 := Lib.hid hp
  obtain ⟨a, cap, rfl, _, _⟩ := hp.open
  have hbx := Lib.hid (V.Box.new w p (.slice a p.items.length cap) 27)
  clear hp hf
  go_enter Tryd.func10, Tryd.ntmps10
  go_wp2_with fail
  refine (awake10_any _).mono ?_
  rintro e w1 ⟨rfl, hb1⟩
  have hB1 : Below w.heap.size w w1 := ((Below.refl _ _).alloc (Nat.le_refl _) _).trans (hb1.mono (by simp))
  have hx1 := Lib.hid (hbx.out.later hb1 (by simp))
  clear hbx hb1
  obtain ⟨_, ⟨c0, c1, c2, c3, c4, c5⟩⟩ := hx1.out
  go_wp2_with fail
  refine (V.weight10_any p _ _ 0 (by decide) (by decide) f0.out (hp0.out.later hB1)).mono ?_
  rintro e w2 ⟨r, rfl, hr0, hr1, hb2⟩
  have hB2 := V.two hB1 hb2
  have hx2 := Lib.hid (hx1.out.later hb2 hx1.out.lt)
  clear c0 c1 c2 c3 c4 c5 hb2 hx1 hB1
  obtain ⟨_, ⟨c0, c1, c2, c3, c4, c5⟩⟩ := hx2.out
  by_cases hbig : 134217728 < r
  · have q1 : decide (134217728 < r) = true := by simpa using hbig
    go_wp2_with fail
    go_ret
    exact ⟨rfl, hB2⟩
  have q1 : decide (134217728 < r) = false := by simpa using hbig
  clear hbig hr0 hr1
  go_wp2_with fail
  refine (V.rmake_any p _ _ f0.out (hp0.out.later hB2)).mono ?_
  rintro e w3 ⟨rfl, hb3⟩
  have hB3 := V.two hB2 hb3
  have hx3 := Lib.hid (hx2.out.later hb3 hx2.out.lt)
  clear c0 c1 c2 c3 c4 c5 hb3 hx2 hB2
  obtain ⟨_, ⟨c0, c1, c2, c3, c4, c5⟩⟩ := hx3.out
  rcases V.makeE_three p with hm | hm | hm
  rotate_left
  · rw [hm]
    clear hm
    go_wp2_with fail
    go_ret
    exact ⟨rfl, hB3⟩
  · rw [hm]
    clear hm
    go_wp2_with fail
    go_ret
    exact ⟨rfl, hB3⟩
  have HM := Lib.hid (V.makeE_ok hm).2
  have HD := Lib.hid (V.makeE_depth hm)
  have HE := Lib.hid hm
  rw [hm]
  clear hm
  go_wp2_with fail
  refine (V.make_any p _ _ f0.out (hp0.out.later hB3)).mono ?_
  rintro e w4 ⟨u, rfl, _, hv, hb4⟩
  have hv4 := Lib.hid ((hv HE.out).wide (Nat.zero_le _) (Nat.le_refl _))
  rw [HE.out]
  have hB4 := V.two hB3 hb4
  have hx4 := Lib.hid (hx3.out.later hb4 hx3.out.lt)
  clear c0 c1 c2 c3 c4 c5 hv hb4 hx3 hB3
  obtain ⟨_, ⟨c0, c1, c2, c3, c4, c5⟩⟩ := hx4.out
  go_wp2_with fail
  refine (lprint_any p u _ HM.out (by have := HD.out; omega) hv4.out).mono ?_
  rintro e w5 ⟨hb5, ⟨hle, t, rfl, ht⟩ | ⟨hgt, rfl⟩⟩
  · have hB5 := V.two hB4 hb5
    have hx5 := Lib.hid (hx4.out.later hb5 hx4.out.lt)
    have hv5 := Lib.hid (hv4.out.later hb5)
    clear c0 c1 c2 c3 c4 c5 hb5 hx4 hv4 hB4
    obtain ⟨_, ⟨c0, c1, c2, c3, c4, c5⟩⟩ := hx5.out
    go_wp2_with fail
    refine (rprint10_any p a cap _ HM.out (by have := HD.out; omega) (hp0.out.later hB5)).mono ?_
    rintro e w6 ⟨hb6, ⟨hle2, t2, rfl, ht2⟩ | ⟨hgt2, rfl⟩⟩
    rotate_left
    · exact absurd hgt2 (by omega)
    obtain rfl : t2 = t := V.ba_same (by rw [ht.out, ht2.out])
    clear ht ht2 hle hle2
    have hB6 := V.two hB5 hb6
    have hx6 := Lib.hid (hx5.out.later hb6 hx5.out.lt)
    have hv6 := Lib.hid (hv5.out.later hb6)
    clear c0 c1 c2 c3 c4 c5 hb6 hx5 hv5 hB5
    obtain ⟨_, ⟨c0, c1, c2, c3, c4, c5⟩⟩ := hx6.out
    go_wp2_with fail
    refine (V.tell_any p u _ HM.out HF.out hv6.out).mono ?_
    rintro e w7 ⟨a2, cap2, rfl, hown, hb7⟩
    have hB7 := V.two hB6 hb7
    have hx7 := Lib.hid (hx6.out.later hb7 hx6.out.lt)
    have ho7 := Lib.hid (hown.reads.wide (Nat.zero_le _) (Nat.le_refl _))
    clear c0 c1 c2 c3 c4 c5 hb7 hown hx6 hv6 hB6
    obtain ⟨_, ⟨c0, c1, c2, c3, c4, c5⟩⟩ := hx7.out
    have hy7 := Lib.hid (V.Box.new w7 p (.slice a2 p.items.length cap2) 27)
    have hA7 : Below w7.heap.size w7 (w7.alloc (.cells #[.int .u8 p.kind, .bool p.yes, .bool p.neg, .string p.mag, .string p.raw, .slice a2 p.items.length cap2] 27)) := (Below.refl _ _).alloc (Nat.le_refl _) _
    go_wp2_with fail
    first
      | (refine (V.same_any p p _ _ _ f0.out f0.out (ho7.out.later hA7) (hp0.out.later (V.two hB7 hA7))).mono ?_
         rintro e w8 ⟨rfl, hb8⟩
         have hB8 := V.two (V.two hB7 hA7) hb8)
      | (refine (V.same_any p p _ _ _ f0.out f0.out ho7.out (hp0.out.later hB7)).mono ?_
         rintro e w8 ⟨rfl, hb8⟩
         have hB8 := V.two hB7 hb8)
    rw [sameP_self]
    clear c0 c1 c2 c3 c4 c5
    go_wp2_with fail
    go_ret
    exact ⟨rfl, hB8⟩
  · have hB5 := V.two hB4 hb5
    have hx5 := Lib.hid (hx4.out.later hb5 hx4.out.lt)
    have hv5 := Lib.hid (hv4.out.later hb5)
    clear c0 c1 c2 c3 c4 c5 hb5 hx4 hv4 hB4
    obtain ⟨_, ⟨c0, c1, c2, c3, c4, c5⟩⟩ := hx5.out
    go_wp2_with fail
    refine (rprint10_any p a cap _ HM.out (by have := HD.out; omega) (hp0.out.later hB5)).mono ?_
    rintro e w6 ⟨hb6, ⟨hle2, t2, rfl, ht2⟩ | ⟨hgt2, rfl⟩⟩
    · exact absurd hle2 (by omega)
    clear hgt hgt2
    have hB6 := V.two hB5 hb6
    have hx6 := Lib.hid (hx5.out.later hb6 hx5.out.lt)
    have hv6 := Lib.hid (hv5.out.later hb6)
    clear c0 c1 c2 c3 c4 c5 hb6 hx5 hv5 hB5
    obtain ⟨_, ⟨c0, c1, c2, c3, c4, c5⟩⟩ := hx6.out
    go_wp2_with fail
    refine (V.tell_any p u _ HM.out HF.out hv6.out).mono ?_
    rintro e w7 ⟨a2, cap2, rfl, hown, hb7⟩
    have hB7 := V.two hB6 hb7
    have hx7 := Lib.hid (hx6.out.later hb7 hx6.out.lt)
    have ho7 := Lib.hid (hown.reads.wide (Nat.zero_le _) (Nat.le_refl _))
    clear c0 c1 c2 c3 c4 c5 hb7 hown hx6 hv6 hB6
    obtain ⟨_, ⟨c0, c1, c2, c3, c4, c5⟩⟩ := hx7.out
    have hy7 := Lib.hid (V.Box.new w7 p (.slice a2 p.items.length cap2) 27)
    have hA7 : Below w7.heap.size w7 (w7.alloc (.cells #[.int .u8 p.kind, .bool p.yes, .bool p.neg, .string p.mag, .string p.raw, .slice a2 p.items.length cap2] 27)) := (Below.refl _ _).alloc (Nat.le_refl _) _
    go_wp2_with fail
    first
      | (refine (V.same_any p p _ _ _ f0.out f0.out (ho7.out.later hA7) (hp0.out.later (V.two hB7 hA7))).mono ?_
         rintro e w8 ⟨rfl, hb8⟩
         have hB8 := V.two (V.two hB7 hA7) hb8)
      | (refine (V.same_any p p _ _ _ f0.out f0.out ho7.out (hp0.out.later hB7)).mono ?_
         rintro e w8 ⟨rfl, hb8⟩
         have hB8 := V.two hB7 hb8)
    rw [sameP_self]
    clear c0 c1 c2 c3 c4 c5
    go_wp2_with fail
    go_ret
    exact ⟨rfl, hB8⟩
end Go.Proofs.YtcgphlilijeifaaDoor.L
end
