/-
  Want, the document's Want, and ValueWant's walk.
-/
import Derived.Test.YtcgphlilijeifaaDoorVLooks
import Derived.Test.YtcgphlilijeifaaDoorWantIs
namespace Go.Proofs.YtcgphlilijeifaaDoor.V
open Go.RowKit

def FaultPost (n : Int) (w : World) (e : Ending) (w' : World) : Prop := ∃ b, e = .returned (.tuple #[.nilIface, .iface 45 (.pointer (some ⟨b, 0, none⟩))]) ∧ FaultAt w' b n ∧ Below w.heap.size w w'
theorem fault_new {w W : World} {n : Int} (h : W = w.alloc (.cells #[.int .i64 n, .int .i64 0, .slice none 0 0, .nilIface] 48)) : FaultAt W w.heap.size n ∧ Below w.heap.size w W := by
  subst h
  exact ⟨by constructor <;> simp, (Below.refl _ _).alloc (Nat.le_refl _) _⟩
theorem want_arg (v : Value) (k : Nat) (w : World) (hk : 7 < k) (hv : v = .nilIface ∨ ∃ T V, v = .iface T V) : Calls Tryd.prog 17 #[v, .int .u8 k] w (FaultPost 1 w) := by
  have q1 : decide ((7 : Int) < (k : Int)) = true := decide_eq_true (by omega)
  rcases hv with rfl | ⟨T, V, rfl⟩
  all_goals
    clear hk
    go_enter Tryd.func17, Tryd.ntmps17
    go_wp2_with fail
    go_ret2
    exact ⟨w.heap.size, rfl, (fault_new rfl).1, (fault_new rfl).2⟩
theorem want_kind (p : Pt) (v : Value) (k : Nat) (w : World) {W : World} {lo hi : Nat} (hk : k ≤ 7) (hv : VI W lo hi p v) (hne : p.kind ≠ k) : Calls Tryd.prog 17 #[v, .int .u8 k] w (FaultPost 4 w) := by
  have q1 : decide ((7 : Int) < (k : Int)) = false := decide_eq_false (by omega)
  by_cases h0 : p.kind = 0
  · obtain rfl := hv.nilOf h0
    have q2 : ((0 : Int) != (k : Int)) = true := by simp; omega
    clear hk hv hne h0
    go_enter Tryd.func17, Tryd.ntmps17
    go_wp2_with fail
    go_ret2
    exact ⟨w.heap.size, rfl, (fault_new rfl).1, (fault_new rfl).2⟩
  · obtain ⟨T, V, f, rfl, m1, r1, c1⟩ := hv.kindOf h0
    have q2 : ((p.kind : Int) != (k : Int)) = true := by simp; omega
    have C1 := Lib.hid c1
    clear hk hv hne h0 c1
    go_enter Tryd.func17, Tryd.ntmps17
    go_wp2_with fail
    refine (C1.out _).mono ?_
    rintro e w1 ⟨rfl, hb1⟩
    go_wp2_with fail
    go_ret2
    exact ⟨w1.heap.size, rfl, (fault_new rfl).1, two hb1 (fault_new rfl).2⟩
theorem want_ok (p : Pt) (v : Value) (w : World) {W : World} {lo hi : Nat} (hk : p.kind ≤ 7) (hv : VI W lo hi p v) : Calls Tryd.prog 17 #[v, .int .u8 p.kind] w fun e w' => e = .returned (.tuple #[v, .nilIface]) ∧ Below w.heap.size w w' := by
  have q1 : decide ((7 : Int) < (p.kind : Int)) = false := decide_eq_false (by omega)
  by_cases h0 : p.kind = 0
  · obtain rfl := hv.nilOf h0
    have q2 : ((0 : Int) != (p.kind : Int)) = false := by simp; omega
    clear hk hv h0
    go_enter Tryd.func17, Tryd.ntmps17
    go_wp2_with fail
    go_ret2
    exact ⟨rfl, Below.refl _ _⟩
  · obtain ⟨T, V, f, rfl, m1, r1, c1⟩ := hv.kindOf h0
    have q2 : ((p.kind : Int) != (p.kind : Int)) = false := by simp
    have C1 := Lib.hid c1
    clear hk hv h0 c1
    go_enter Tryd.func17, Tryd.ntmps17
    go_wp2_with fail
    refine (C1.out _).mono ?_
    rintro e w1 ⟨rfl, hb1⟩
    go_wp2_with fail
    go_ret2
    exact ⟨rfl, hb1⟩

/-- The document's answer. -/
def wantE (p : Pt) (k : Nat) : Int := if 7 < k then 1 else if p.kind ≠ k then 4 else 0
theorem rwant_any (p : Pt) (a : Option Addr) (n cap k : Nat) (w : World) (_hk8 : p.kind < 256) :
    Calls Tryd.prog 18 #[.agg #[.int .u8 p.kind, .bool p.yes, .bool p.neg, .string p.mag, .string p.raw, .slice a n cap], .int .u8 k] w fun e w' => e = .returned (.int .i64 (wantE p k)) ∧ Below w.heap.size w w' := by
  by_cases h1 : 7 < k
  · have q1 : decide ((7 : Int) < (k : Int)) = true := decide_eq_true (by omega)
    have HW := Lib.hid (show wantE p k = 1 by simp [wantE, h1])
    clear h1
    go_enter Tryd.func18, Tryd.ntmps18
    go_wp2_with fail
    go_ret
    exact ⟨by rw [HW.out]; rfl, (Below.refl _ _).alloc (Nat.le_refl _) _⟩
  · have q1 : decide ((7 : Int) < (k : Int)) = false := decide_eq_false (by omega)
    by_cases h2 : p.kind = k
    · have q2 : ((p.kind : Int) != (k : Int)) = false := by simp; omega
      have HW := Lib.hid (show wantE p k = 0 by simp [wantE, h1, h2])
      clear h1 h2
      go_enter Tryd.func18, Tryd.ntmps18
      go_wp2_with fail
      go_ret
      exact ⟨by rw [HW.out]; rfl, (Below.refl _ _).alloc (Nat.le_refl _) _⟩
    · have q2 : ((p.kind : Int) != (k : Int)) = true := by simp; omega
      have HW := Lib.hid (show wantE p k = 4 by simp [wantE, h1, h2])
      clear h1 h2
      go_enter Tryd.func18, Tryd.ntmps18
      go_wp2_with fail
      go_ret
      exact ⟨by rw [HW.out]; rfl, (Below.refl _ _).alloc (Nat.le_refl _) _⟩

theorem assertFault (v : Value) (w : World) : (Instr.typeAssert (.iface 45 v) 37 45 true).run Tryd.prog w = .ok (.tuple #[v, .bool true]) w := by kernel_rfl

set_option maxRecDepth 100000 in
set_option maxHeartbeats 4000000 in
theorem wantLaw_any (p : Pt) (v : Value) (k : Nat) (w : World) (hf : FitA p) (hp : PI w 0 w.heap.size p.items v) (hg : w.cell? ⟨0, 0, none⟩ = some (.iface 180 (.agg #[.pointer (some ⟨4, 37, none⟩)]))) :
    Calls Tryd.prog 3 #[.agg #[.int .u8 p.kind, .bool p.yes, .bool p.neg, .string p.mag, .string p.raw, v], .int .u8 k] w fun e w' => e = .returned (.bool true) ∧ Below w.heap.size w w' := by
  have f0 := Lib.hid hf.fit
  have HF := Lib.hid hf
  have hp0 := Lib.hid hp
  have HG := Lib.hid hg
  have h0l : 0 < w.heap.size := World.block_lt_of_cell? w _ hg
  obtain ⟨a, cap, rfl, _, _⟩ := hp.open
  have hbx := Lib.hid (Box.new w p (.slice a p.items.length cap) 27)
  clear hp hf hg
  go_enter Tryd.func3, Tryd.ntmps3
  go_wp2_with fail
  refine (awake_any _).mono ?_
  rintro e w1 ⟨rfl, hb1⟩
  have hB1 : Below w.heap.size w w1 := ((Below.refl _ _).alloc (Nat.le_refl _) _).trans (hb1.mono (by simp))
  have hx1 := Lib.hid (hbx.out.later hb1 (by simp))
  clear hbx hb1
  obtain ⟨_, ⟨c0, c1, c2, c3, c4, c5⟩⟩ := hx1.out
  go_wp2_with fail
  refine (weight_any p _ _ 0 (by decide) (by decide) f0.out (hp0.out.later hB1)).mono ?_
  rintro e w2 ⟨r, rfl, hr0, hr1, hb2⟩
  have hB2 := two hB1 hb2
  have hx2 := Lib.hid (hx1.out.later hb2 hx1.out.lt)
  clear c0 c1 c2 c3 c4 c5 hb2 hx1 hB1
  obtain ⟨_, ⟨c0, c1, c2, c3, c4, c5⟩⟩ := hx2.out
  by_cases hbig : 134217728 < r
  · have q1 : decide (134217728 < r) = true := by simpa using hbig
    go_wp2_with fail
    go_ret
    exact ⟨rfl, hB2⟩
  have q1 : decide (134217728 < r) = false := by simpa using hbig
  clear hbig hr0 hr1
  go_wp2_with fail
  refine (rmake_any p _ _ f0.out (hp0.out.later hB2)).mono ?_
  rintro e w3 ⟨rfl, hb3⟩
  have hB3 := two hB2 hb3
  have hx3 := Lib.hid (hx2.out.later hb3 hx2.out.lt)
  clear c0 c1 c2 c3 c4 c5 hb3 hx2 hB2
  obtain ⟨_, ⟨c0, c1, c2, c3, c4, c5⟩⟩ := hx3.out
  obtain ⟨E, hE⟩ : ∃ E, makeE p = E := ⟨_, rfl⟩
  rw [hE]
  by_cases h1 : E = 0
  · subst h1
    have HM := Lib.hid (makeE_ok hE).2
    have HD := makeE_depth hE
    have HE := Lib.hid hE
    have hk7 := may_kind7 HM.out
    clear hE
    go_wp2_with fail
    refine (make_any p _ _ f0.out (hp0.out.later hB3)).mono ?_
    rintro e w4 ⟨u, rfl, _, hv, hb4⟩
    rw [HE.out]
    have hB4 := two hB3 hb4
    have hx4 := Lib.hid (hx3.out.later hb4 hx3.out.lt)
    have HV := Lib.hid ((hv HE.out).wide (Nat.zero_le _) (Nat.le_refl _))
    have hform : u = .nilIface ∨ ∃ T V, u = .iface T V := by
      by_cases hk : p.kind = 0
      · exact .inl (HV.out.nilOf hk)
      · exact .inr (HV.out.ifaceOf hk)
    clear c0 c1 c2 c3 c4 c5 hb4 hx3 hB3 hv
    obtain ⟨_, ⟨c0, c1, c2, c3, c4, c5⟩⟩ := hx4.out
    rcases (show (7 < k ∧ wantE p k = 1) ∨ (k ≤ 7 ∧ p.kind ≠ k ∧ wantE p k = 4) ∨ (p.kind = k ∧ wantE p k = 0) by
      unfold wantE
      by_cases h7 : 7 < k
      · exact .inl ⟨h7, if_pos h7⟩
      · rw [if_neg h7]
        by_cases hk : p.kind = k
        · exact .inr (.inr ⟨hk, by simp [hk]⟩)
        · exact .inr (.inl ⟨by omega, hk, by simp [hk]⟩)) with ⟨h7, hW⟩ | ⟨h7, hk, hW⟩ | ⟨hk, hW⟩
    · have HW := Lib.hid hW
      have same := Isf.same1
      have HS := Lib.hid same
      have as1 := assertFault
      clear hW same
      go_wp2_with fail
      refine (want_arg u k _ h7 hform).mono ?_
      rintro e w5 ⟨b, rfl, hfa, hb5⟩
      have hB5 := two hB4 hb5
      have hx5 := Lib.hid (hx4.out.later hb5 hx4.out.lt)
      have HFA := Lib.hid hfa
      clear c0 c1 c2 c3 c4 c5 hb5 hx4 hB4 hfa
      obtain ⟨_, ⟨c0, c1, c2, c3, c4, c5⟩⟩ := hx5.out
      go_wp2_with fail
      refine (rwant_any p _ _ _ k _ (by omega)).mono ?_
      rintro e w6 ⟨rfl, hb6⟩
      rw [HW.out]
      have hB6 := two hB5 hb6
      have HFA6 := Lib.hid (HFA.out.later hb6 HFA.out.lt)
      clear c0 c1 c2 c3 c4 c5 hb6 hx5 hB5 HFA
      go_wp2_with fail
      refine (is_one b 1 _ (by decide) HFA6.out ((hB6.cell h0l).trans HG.out) HS.out).mono ?_
      rintro e w7 ⟨rfl, hb7⟩
      have hB7 := two hB6 hb7
      obtain ⟨f0', f1', f2', f3'⟩ := HFA6.out.later hb7 HFA6.out.lt
      go_wp2_with fail
      go_ret
      exact ⟨rfl, hB7⟩
    · have HW := Lib.hid hW
      have same := Isf.same4
      have HS := Lib.hid same
      have as1 := assertFault
      clear hW same
      go_wp2_with fail
      refine (want_kind p u k _ h7 HV.out hk).mono ?_
      rintro e w5 ⟨b, rfl, hfa, hb5⟩
      have hB5 := two hB4 hb5
      have hx5 := Lib.hid (hx4.out.later hb5 hx4.out.lt)
      have HFA := Lib.hid hfa
      clear c0 c1 c2 c3 c4 c5 hb5 hx4 hB4 hfa
      obtain ⟨_, ⟨c0, c1, c2, c3, c4, c5⟩⟩ := hx5.out
      go_wp2_with fail
      refine (rwant_any p _ _ _ k _ (by omega)).mono ?_
      rintro e w6 ⟨rfl, hb6⟩
      rw [HW.out]
      have hB6 := two hB5 hb6
      have HFA6 := Lib.hid (HFA.out.later hb6 HFA.out.lt)
      clear c0 c1 c2 c3 c4 c5 hb6 hx5 hB5 HFA
      go_wp2_with fail
      refine (is_one b 4 _ (by decide) HFA6.out ((hB6.cell h0l).trans HG.out) HS.out).mono ?_
      rintro e w7 ⟨rfl, hb7⟩
      have hB7 := two hB6 hb7
      obtain ⟨f0', f1', f2', f3'⟩ := HFA6.out.later hb7 HFA6.out.lt
      go_wp2_with fail
      go_ret
      exact ⟨rfl, hB7⟩
    · subst hk
      have HW := Lib.hid hW
      clear hW
      go_wp2_with fail
      refine (want_ok p u _ hk7 HV.out).mono ?_
      rintro e w5 ⟨rfl, hb5⟩
      have hB5 := two hB4 hb5
      have hx5 := Lib.hid (hx4.out.later hb5 hx4.out.lt)
      have HV5 := Lib.hid (HV.out.later hb5)
      clear c0 c1 c2 c3 c4 c5 hb5 hx4 hB4 HV
      obtain ⟨_, ⟨c0, c1, c2, c3, c4, c5⟩⟩ := hx5.out
      go_wp2_with fail
      refine (rwant_any p _ _ _ p.kind _ (by omega)).mono ?_
      rintro e w6 ⟨rfl, hb6⟩
      rw [HW.out]
      have hB6 := two hB5 hb6
      have hx6 := Lib.hid (hx5.out.later hb6 hx5.out.lt)
      have HV6 := Lib.hid (HV5.out.later hb6)
      clear c0 c1 c2 c3 c4 c5 hb6 hx5 hB5 HV5
      obtain ⟨_, ⟨c0, c1, c2, c3, c4, c5⟩⟩ := hx6.out
      go_wp2_with fail
      refine (is_none _).mono ?_
      rintro e w7 ⟨rfl, hb7⟩
      have hB7 := two hB6 hb7
      have hx7 := Lib.hid (hx6.out.later hb7 hx6.out.lt)
      have HV7 := Lib.hid (HV6.out.later hb7)
      clear c0 c1 c2 c3 c4 c5 hb7 hx6 hB6 HV6
      obtain ⟨_, ⟨c0, c1, c2, c3, c4, c5⟩⟩ := hx7.out
      go_wp2_with fail
      refine (looks_any p u _ a cap HM.out HF.out (by omega) (hp0.out.later hB7) HV7.out).mono ?_
      rintro e w8 ⟨rfl, hb8⟩
      have hB8 := two hB7 hb8
      clear c0 c1 c2 c3 c4 c5
      go_wp2_with fail
      go_ret
      exact ⟨rfl, hB8⟩
  · have y3 : (E != 0) = true := by simpa using h1
    clear h1 hE
    go_wp2_with fail
    go_ret
    exact ⟨rfl, hB3⟩
end Go.Proofs.YtcgphlilijeifaaDoor.V
