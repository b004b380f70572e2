/-
  The law's made: its contract.
-/
import Derived.Test.YtcgphlilijeifaaVLooks
import Derived.Test.YtcgphlilijeifaaVLent
namespace Go.Proofs.Ytcgphlilijeifaa.V
open Go.RowKit

def MadeLawPost (p : Pt) (w : World) (e : Ending) (w' : World) : Prop := ∃ u, e = .returned (.tuple #[u, .bool true]) ∧ (makeE p ≠ 0 → u = .nilIface) ∧ (makeE p = 0 → VI w' w.heap.size w'.heap.size p u) ∧ Below w.heap.size w w'

set_option maxRecDepth 100000 in
set_option maxHeartbeats 2000000 in
theorem madeLaw_any (p : Pt) (v : Value) (w : World) (hf : FitA p) (hr : Roomy p) (hp : PI w 0 w.heap.size p.items v) :
    Calls Try.prog 9 #[.agg #[.int .u8 p.kind, .bool p.yes, .bool p.neg, .string p.mag, .string p.raw, v]] w (MadeLawPost p w) := by
  have f0 := Lib.hid hf.fit
  have HF := Lib.hid hf
  have HR := Lib.hid hr
  have hp0 := Lib.hid hp
  obtain ⟨a, cap, rfl, _, _⟩ := hp.open
  have hbx := Lib.hid (Box.new w p (.slice a p.items.length cap) 27)
  have hA0 := (Below.refl w.heap.size w).alloc (Nat.le_refl _) (.cells #[.int .u8 p.kind, .bool p.yes, .bool p.neg, .string p.mag, .string p.raw, .slice a p.items.length cap] 27)
  clear hp hf hr
  go_enter Try.func9, Try.ntmps9
  go_wp2_with fail
  refine (lent_any p _ _ HF.out HR.out (hp0.out.later hA0)).mono ?_
  rintro e w1 ⟨g1, rfl, hown, hb1⟩
  have hB1 : Below w.heap.size w w1 := hA0.trans (hb1.mono (by simp))
  have hx1 := Lib.hid (hbx.out.later hb1 (by simp))
  have hz1 : w.heap.size + 1 ≤ w1.heap.size := by have := hb1.size; simp at this; omega
  have HO1 : RowKit.Hid (OwnI w1 true (w.heap.size + 1) w1.heap.size p.items (.slice (some ⟨g1, 0, none⟩) p.items.length (p.items.length + 2))) := Lib.hid (by simpa using hown)
  clear hb1 hbx hA0 hown
  obtain ⟨_, ⟨c0, c1, c2, c3, c4, c5⟩⟩ := hx1.out
  have hA1 := (Below.refl w1.heap.size w1).alloc (Nat.le_refl _) (.cells #[.int .u8 p.kind, .bool p.yes, .bool p.neg, .string p.mag, .string p.raw, .slice (some ⟨g1, 0, none⟩) p.items.length (p.items.length + 2)] 27)
  have hy1 := Lib.hid (Box.new w1 p (.slice (some ⟨g1, 0, none⟩) p.items.length (p.items.length + 2)) 27)
  go_wp2_with fail
  refine (make_any p _ _ f0.out (((HO1.out.reads.wide (Nat.zero_le _) (Nat.le_refl _))).later hA1)).mono ?_
  rintro e w2 ⟨u, rfl, hnil, hv, hb2⟩
  have hA2 := hA1.trans (hb2.mono (by simp))
  have hB2 := two hB1 hA2
  have hx2 := Lib.hid (hx1.out.later hA2 hx1.out.lt)
  have hy2 := Lib.hid (hy1.out.later hb2 (by simp))
  have HO2 := Lib.hid (HO1.out.same (Same.of_below hA2 (Nat.le_refl _)))
  have hz2 : w1.heap.size + 1 ≤ w2.heap.size := by have := hb2.size; simp at this; omega
  have HV2 := Lib.hid (fun h => (hv h).wide (lo' := w1.heap.size + 1) (by simp) (Nat.le_refl w2.heap.size))
  have HN := Lib.hid hnil
  clear c0 c1 c2 c3 c4 c5 hb2 hx1 hy1 hB1 hA1 hA2 HO1 hv hnil
  obtain ⟨_, ⟨c0, c1, c2, c3, c4, c5⟩⟩ := hx2.out
  obtain ⟨_, ⟨d0, d1, d2, d3, d4, d5⟩⟩ := hy2.out
  obtain ⟨E, hE⟩ : ∃ E, makeE p = E := ⟨_, rfl⟩
  rw [hE]
  go_wp2_with fail
  refine (kept_any p _ _ _ _ _ _ HR.out HO2.out (by omega) (hp0.out.later hB2)).mono ?_
  rintro e w3 ⟨rfl, hb3⟩
  have hB3 := two hB2 hb3
  have hx3 := Lib.hid (hx2.out.later hb3 hx2.out.lt)
  have hy3 := Lib.hid (hy2.out.later hb3 hy2.out.lt)
  have HO3 := Lib.hid (HO2.out.same (Same.of_below hb3 (by omega)))
  have HV3 := Lib.hid (fun h => (HV2.out h).same (Same.of_below hb3 (Nat.le_refl _)))
  have hz3 : w2.heap.size ≤ w3.heap.size := hb3.size
  clear c0 c1 c2 c3 c4 c5 d0 d1 d2 d3 d4 d5 hb3 hx2 hy2 hB2 HO2 HV2
  obtain ⟨_, ⟨c0, c1, c2, c3, c4, c5⟩⟩ := hx3.out
  obtain ⟨_, ⟨d0, d1, d2, d3, d4, d5⟩⟩ := hy3.out
  go_wp2_with fail
  refine (write_any p _ _ true (w.heap.size + 1) w1.heap.size HR.out HO3.out (by omega) (by omega)).mono ?_
  rintro e w4 ⟨rfl, hb4, hs4⟩
  have hB4 : Below w.heap.size w w4 := hB3.trans (hb4.mono (by omega))
  have hx4 := Lib.hid (hx3.out.later hb4 (by omega))
  have HV4 := Lib.hid (fun h => (HV3.out h).same (hs4.mono (by omega) hz3))
  have hz4 : w3.heap.size ≤ w4.heap.size := hb4.size
  clear c0 c1 c2 c3 c4 c5 d0 d1 d2 d3 d4 d5 hb4 hs4 hx3 hy3 hB3 HO3 HV3
  obtain ⟨_, ⟨c0, c1, c2, c3, c4, c5⟩⟩ := hx4.out
  go_wp2_with fail
  refine (rmake_any p _ _ f0.out (hp0.out.later hB4)).mono ?_
  rintro e w5 ⟨rfl, hb5⟩
  rw [hE]
  have hB5 := two hB4 hb5
  have hx5 := Lib.hid (hx4.out.later hb5 hx4.out.lt)
  have HV5 := Lib.hid (fun h => (HV4.out h).same (Same.of_below hb5 (by omega)))
  have hz5 : w4.heap.size ≤ w5.heap.size := hb5.size
  clear c0 c1 c2 c3 c4 c5 hb5 hx4 hB4 HV4
  obtain ⟨_, ⟨c0, c1, c2, c3, c4, c5⟩⟩ := hx5.out
  have y1 : (E != E) = false := by simp
  by_cases h1 : E = 0
  · subst h1
    have HM := Lib.hid (makeE_ok hE).2
    have HD := makeE_depth hE
    have HE := Lib.hid hE
    have HVI := Lib.hid (HV5.out hE)
    clear HV5 hE HN
    go_wp2_with fail
    refine (looks_any p u _ a cap HM.out HF.out (by omega) (hp0.out.later hB5) (HVI.out.wide (Nat.zero_le _) (by omega))).mono ?_
    rintro e w6 ⟨rfl, hb6⟩
    have hB6 := two hB5 hb6
    have hx6 := Lib.hid (hx5.out.later hb6 hx5.out.lt)
    have HVI6 := Lib.hid (HVI.out.same (Same.of_below hb6 (by omega)))
    have hz6 : w5.heap.size ≤ w6.heap.size := hb6.size
    clear c0 c1 c2 c3 c4 c5 hb6 hx5 hB5 HVI
    obtain ⟨_, ⟨c0, c1, c2, c3, c4, c5⟩⟩ := hx6.out
    go_wp2_with fail
    refine (tell_any p u _ HM.out HF.out (HVI6.out.wide (Nat.zero_le _) (by omega))).mono ?_
    rintro e w7 ⟨a7, cap7, rfl, hown, hb7⟩
    have hA7 := (Below.refl w7.heap.size w7).alloc (Nat.le_refl _) (.cells #[.int .u8 p.kind, .bool p.yes, .bool p.neg, .string p.mag, .string p.raw, .slice a7 p.items.length cap7] 27)
    have hB7 := two hB6 hb7
    have hx7 := Lib.hid (hx6.out.later hb7 hx6.out.lt)
    have HVI7 := Lib.hid (HVI6.out.same (Same.of_below hb7 (by omega)))
    have HO7 := Lib.hid (hown.same (Same.of_below hA7 (Nat.le_refl _)))
    have hz7 : w6.heap.size ≤ w7.heap.size := hb7.size
    clear c0 c1 c2 c3 c4 c5 hb7 hx6 hB6 HVI6 hown
    obtain ⟨_, ⟨c0, c1, c2, c3, c4, c5⟩⟩ := hx7.out
    go_wp2_with fail
    refine (write_any p _ _ false w6.heap.size w7.heap.size HR.out HO7.out hz7 (by simp)).mono ?_
    rintro e w8 ⟨rfl, hb8, _⟩
    have hA8 : Below w6.heap.size w7 w8 := (hA7.mono hz7).trans hb8
    have hB8 : Below w.heap.size w w8 := hB7.trans (hA8.mono (by omega))
    have hx8 := Lib.hid (hx7.out.later hA8 (by omega))
    have HVI8 := Lib.hid (HVI7.out.same (Same.of_below hA8 (by omega)))
    have hz8 : w7.heap.size ≤ w8.heap.size := hA8.size
    clear c0 c1 c2 c3 c4 c5 hb8 hA8 hA7 hx7 hB7 HVI7 HO7
    obtain ⟨_, ⟨c0, c1, c2, c3, c4, c5⟩⟩ := hx8.out
    go_wp2_with fail
    refine (looks_any p u _ a cap HM.out HF.out (by omega) (hp0.out.later hB8) (HVI8.out.wide (Nat.zero_le _) (by omega))).mono ?_
    rintro e w9 ⟨rfl, hb9⟩
    have hB9 := two hB8 hb9
    have HVI9 := Lib.hid (HVI8.out.same (Same.of_below hb9 (by omega)))
    have hz9 : w8.heap.size ≤ w9.heap.size := hb9.size
    clear c0 c1 c2 c3 c4 c5 hb9 hx8 hB8 HVI8
    go_wp2_with fail
    go_ret2
    exact ⟨u, rfl, fun h => absurd HE.out h, fun _ => HVI9.out.wide (by omega) (by omega), hB9⟩
  · obtain rfl := HN.out (by rw [hE]; exact h1)
    have y3 : (E != 0) = true := by simpa using h1
    have HE := Lib.hid (show makeE p ≠ 0 by rw [hE]; exact h1)
    clear h1 hE HV5
    go_wp2_with fail
    go_ret2
    exact ⟨.nilIface, rfl, fun _ => rfl, fun h => absurd h HE.out, hB5⟩
end Go.Proofs.Ytcgphlilijeifaa.V
