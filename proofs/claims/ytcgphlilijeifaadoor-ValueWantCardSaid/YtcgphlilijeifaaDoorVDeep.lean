/-
  Is a part deeper than so many: the program's and the document's.
-/
import Derived.Test.YtcgphlilijeifaaDoorVMem
namespace Go.Proofs.YtcgphlilijeifaaDoor.V
open Go.RowKit

theorem PI.later {w w1 : World} {l : List Pt} {v : Value} (h : PI w 0 w.heap.size l v) (hb : Below w.heap.size w w1) : PI w1 0 w1.heap.size l v :=
  (h.same (Same.of_below hb (Nat.le_refl _))).wide (Nat.le_refl _) hb.size
theorem VI.later {w w1 : World} {p : Pt} {v : Value} (h : VI w 0 w.heap.size p v) (hb : Below w.heap.size w w1) : VI w1 0 w1.heap.size p v :=
  (h.same (Same.of_below hb (Nat.le_refl _))).wide (Nat.le_refl _) hb.size
theorem any_drop {f : Pt → Bool} {l : List Pt} {k : Nat} (h : k < l.length) : (l.drop k).any f = (f l[k] || (l.drop (k + 1)).any f) := by
  rw [List.drop_eq_getElem_cons h]; rfl
theorem all_drop {f : Pt → Bool} {l : List Pt} {k : Nat} (h : k < l.length) : (l.drop k).all f = (f l[k] && (l.drop (k + 1)).all f) := by
  rw [List.drop_eq_getElem_cons h]; rfl

set_option maxRecDepth 100000 in
set_option maxHeartbeats 1000000 in
theorem deep_any (n : Nat) : ∀ (p : Pt) (v : Value) (w : World), n ≤ 1000 → Fit p → PI w 0 w.heap.size p.items v →
    Calls Tryd.prog 47 #[.agg #[.int .u8 p.kind, .bool p.yes, .bool p.neg, .string p.mag, .string p.raw, v], .int .i64 n] w fun e w' => e = .returned (.bool (deepB n p)) ∧ Below w.heap.size w w' := by
  induction n with
  | zero =>
    intro p v w _ hf hp
    have hk := hf.k
    by_cases h7 : p.kind = 7
    · have q1 : ((p.kind : Int) != 7) = false := by rw [h7]; rfl
      have HD := Lib.hid (show deepB 0 p = true by simp [deepB, h7])
      clear h7
      go_enter Tryd.func47, Tryd.ntmps47
      go_wp2_with fail
      go_ret
      exact ⟨by rw [HD.out]; rfl, (Below.refl _ _).alloc (Nat.le_refl _) _⟩
    · have q1 : ((p.kind : Int) != 7) = true := by simp; omega
      have HD := Lib.hid (show deepB 0 p = false by simp [deepB, h7])
      clear h7
      go_enter Tryd.func47, Tryd.ntmps47
      go_wp2_with fail
      go_ret
      exact ⟨by rw [HD.out]; rfl, (Below.refl _ _).alloc (Nat.le_refl _) _⟩
  | succ n ih =>
    intro p v w hn hf hp
    have hk := hf.k
    have hl := hf.l
    by_cases h7 : p.kind = 7
    · have q1 : ((p.kind : Int) != 7) = false := by rw [h7]; rfl
      have q2 : ((n : Int) + 1 == 0) = false := beq_eq_false_iff_ne.2 (by omega)
      have HD := Lib.hid (show deepB (n + 1) p = (p.items.drop 0).any (deepB n) by simp [deepB, h7])
      obtain ⟨a, cap, rfl, hcap, hat⟩ := hp.open
      have HA := Lib.hid hat
      have IH := Lib.hid ih
      clear h7 hat ih hp
      go_enter Tryd.func47, Tryd.ntmps47
      go_wp2_with fail
      go_loopw [15] (fun i wr => ∃ k : Nat, k ≤ p.items.length ∧ i = .int .i64 k ∧ RowKit.Hid (deepB (n + 1) p = (p.items.drop k).any (deepB n)) ∧ Below w.heap.size w wr ∧ w.heap.size < wr.heap.size) (fun i _ => p.items.length - (intOf i).toNat)
      case atStart => exact ⟨0, Nat.zero_le _, rfl, HD, (Below.refl _ _).alloc (Nat.le_refl _) _, by simp⟩
      case round =>
        obtain ⟨k, hkl, rfl, HK, hB, hsz⟩ := hrel
        by_cases hlt : k < p.items.length
        · have q3 : decide (k < p.items.length) = true := by simpa using hlt
          obtain ⟨b, off, u, rfl, _, hb, hc, hfit, hpi⟩ := HA.out k hlt
          obtain ⟨d0, d1, d2, d3, d4, d5⟩ := hc.same (Same.of_below hB (Nat.le_refl _)) (Nat.zero_le _) hb
          have HE := Lib.hid (any_drop (f := deepB n) hlt)
          obtain ⟨q, hq⟩ : ∃ q, p.items[k] = q := ⟨_, rfl⟩
          rw [hq] at d0 d1 d2 d3 d4 hfit hpi HE
          obtain ⟨a2, cap2, rfl, _, _⟩ := hpi.open
          have hpi2 := Lib.hid hpi
          clear hc hq hpi
          go_wp2_with fail
          have hpw : PI (wr.alloc (.cells #[.int .u8 q.kind, .bool q.yes, .bool q.neg, .string q.mag, .string q.raw, .slice a2 q.items.length cap2] 27)) 0 (wr.alloc (.cells #[.int .u8 q.kind, .bool q.yes, .bool q.neg, .string q.mag, .string q.raw, .slice a2 q.items.length cap2] 27)).heap.size q.items (.slice a2 q.items.length cap2) :=
            hpi2.out.later (hB.alloc (Nat.le_of_lt hsz) _)
          refine (IH.out q _ _ (by omega) hfit hpw).mono ?_
          rintro e w1 ⟨rfl, hb1⟩
          have hB1 : Below w.heap.size w w1 := (hB.alloc (Nat.le_of_lt hsz) _).trans (hb1.mono (by simp; omega))
          have hz1 : w.heap.size < w1.heap.size := by have := hb1.size; simp at this; omega
          cases hd : deepB n q with
          | true =>
            have HD2 := Lib.hid (show deepB (n + 1) p = true by rw [HK.out, HE.out, hd]; rfl)
            clear hd hB hb1 hpw d0 d1 d2 d3 d4 d5
            go_wp2_with fail
            go_ret
            exact ⟨by rw [HD2.out]; rfl, hB1⟩
          | false =>
            have HD2 := Lib.hid (show deepB (n + 1) p = (p.items.drop (k + 1)).any (deepB n) by rw [HK.out, HE.out, hd]; rfl)
            clear hd hB hb1 hpw d0 d1 d2 d3 d4 d5
            go_wp2_with fail
            refine ⟨?_, by simp [intOf]; omega⟩
            (repeat apply Exists.intro)
            exact ⟨⟨k + 1, by omega, rfl, HD2, hB1, hz1⟩, rfl⟩
        · have q3 : decide (k < p.items.length) = false := by simpa using hlt
          have HD2 := Lib.hid (show deepB (n + 1) p = false by rw [HK.out, List.drop_of_length_le (by omega)]; rfl)
          go_wp2_with fail
          go_ret
          exact ⟨by rw [HD2.out]; rfl, hB⟩
    · have q1 : ((p.kind : Int) != 7) = true := by simp; omega
      have HD := Lib.hid (show deepB (n + 1) p = false by simp [deepB, h7])
      clear h7
      go_enter Tryd.func47, Tryd.ntmps47
      go_wp2_with fail
      go_ret
      exact ⟨by rw [HD.out]; rfl, (Below.refl _ _).alloc (Nat.le_refl _) _⟩
end Go.Proofs.YtcgphlilijeifaaDoor.V
