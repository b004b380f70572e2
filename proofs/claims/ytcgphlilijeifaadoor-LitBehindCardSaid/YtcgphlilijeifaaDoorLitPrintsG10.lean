import Derived.Test.YtcgphlilijeifaaDoorLitPrintsG9
section
/-
  May a part be: tuples; every part.
-/
namespace Go.Proofs.YtcgphlilijeifaaDoor.V
open Go.RowKit

set_option maxRecDepth 100000 in
set_option maxHeartbeats 2000000 in
theorem may_7 (p : Pt) (v : Value) (w : World) (hf : Fit p) (hp : PI w 0 w.heap.size p.items v) (hk : p.kind = 7)
    (ih : ∀ q ∈ p.items, ∀ (v : Value) (w : World), Fit q → PI w 0 w.heap.size q.items v → Calls Tryd.prog 48 #[.agg #[.int .u8 q.kind, .bool q.yes, .bool q.neg, .string q.mag, .string q.raw, v]] w fun e w' => e = .returned (.bool (mayB q)) ∧ Below w.heap.size w w') :
    Calls Tryd.prog 48 #[.agg #[.int .u8 p.kind, .bool p.yes, .bool p.neg, .string p.mag, .string p.raw, v]] w fun e w' => e = .returned (.bool (mayB p)) ∧ Below w.heap.size w w' := by
  obtain ⟨a, cap, rfl, _, hat⟩ := hp.open
  have HA := Lib.hid hat
  have IH := Lib.hid ih
  clear hp hat ih
  have hm := hf.m
  have hr := hf.r
  have hl := hf.l
  obtain ⟨y, hy⟩ : ∃ y, p.yes = y := ⟨_, rfl⟩
  obtain ⟨z, hz⟩ : ∃ z, (!p.neg && p.mag.toList.isEmpty) = z := ⟨_, rfl⟩
  obtain ⟨t, ht⟩ : ∃ t, p.items.isEmpty = t := ⟨_, rfl⟩
  have hM := may_kind hy hz ht (p.raw.toList.isEmpty && decide (p.items.length ≤ 1024)) (by simp [hk])
  have h24 := eql_num p.neg false p.mag ⟨#[]⟩ z (by rw [← hz]; cases p.neg <;> simp)
  have h24n := neq_num p.neg false p.mag ⟨#[]⟩ z (by rw [← hz]; cases p.neg <;> simp)
  have e0 : ((p.kind : Int) == 0) = false := beq_eq_false_iff_ne.2 (by omega)
  have n0 : ((p.kind : Int) != 0) = true := by rw [bne, e0]; rfl
  have e1 : ((p.kind : Int) == 1) = false := beq_eq_false_iff_ne.2 (by omega)
  have n1 : ((p.kind : Int) != 1) = true := by rw [bne, e1]; rfl
  have e2 : ((p.kind : Int) == 2) = false := beq_eq_false_iff_ne.2 (by omega)
  have n2 : ((p.kind : Int) != 2) = true := by rw [bne, e2]; rfl
  have e3 : ((p.kind : Int) == 3) = false := beq_eq_false_iff_ne.2 (by omega)
  have n3 : ((p.kind : Int) != 3) = true := by rw [bne, e3]; rfl
  have e4 : ((p.kind : Int) == 4) = false := beq_eq_false_iff_ne.2 (by omega)
  have n4 : ((p.kind : Int) != 4) = true := by rw [bne, e4]; rfl
  have e5 : ((p.kind : Int) == 5) = false := beq_eq_false_iff_ne.2 (by omega)
  have n5 : ((p.kind : Int) != 5) = true := by rw [bne, e5]; rfl
  have e6 : ((p.kind : Int) == 6) = false := beq_eq_false_iff_ne.2 (by omega)
  have n6 : ((p.kind : Int) != 6) = true := by rw [bne, e6]; rfl
  have e7 : ((p.kind : Int) == 7) = true := beq_iff_eq.2 (by omega)
  have n7 : ((p.kind : Int) != 7) = false := by rw [bne, e7]; rfl
  have HM := Lib.hid (show mayB p = (!y && z && (p.raw.toList.isEmpty && decide (p.items.length ≤ 1024)) && p.items.all mayB) by rw [hM]; simp [hk])
  clear hM hz ht hk
  cases y with
  | true =>
    go_enter Tryd.func48, Tryd.ntmps48
    go_wp2_with fail
    go_ret
    exact ⟨by rw [HM.out]; rfl, (Below.refl _ _).alloc (Nat.le_refl _) _⟩
  | false =>
  rw [hy]
  clear hy
  cases z with
  | false =>
    go_enter Tryd.func48, Tryd.ntmps48
    go_wp2_with fail
    go_ret
    exact ⟨by rw [HM.out]; rfl, (Below.refl _ _).alloc (Nat.le_refl _) _⟩
  | true =>
  obtain ⟨x, hx⟩ : ∃ x, p.raw.toList.isEmpty = x := ⟨_, rfl⟩
  rw [hx] at HM
  cases x with
  | false =>
    go_enter Tryd.func48, Tryd.ntmps48
    go_wp2_with fail
    go_ret
    exact ⟨by rw [HM.out]; rfl, (Below.refl _ _).alloc (Nat.le_refl _) _⟩
  | true =>
  have hlen : p.raw.size = 0 := by rw [← size_of, List.isEmpty_iff.1 hx]; rfl
  have hl64 : decide (65536 < (p.raw.size : Int)) = false := by simp; omega
  clear hlen
  by_cases hbig : 1024 < p.items.length
  · have hlx : decide (1024 < (p.items.length : Int)) = true := by simp; omega
    have HM2 := Lib.hid (show mayB p = false by rw [HM.out]; simp; omega)
    go_enter Tryd.func48, Tryd.ntmps48
    go_wp2_with fail
    go_ret
    exact ⟨by rw [HM2.out]; rfl, (Below.refl _ _).alloc (Nat.le_refl _) _⟩
  · have hlx : decide (1024 < (p.items.length : Int)) = false := by simp; omega
    have HM2 := Lib.hid (show mayB p = (p.items.drop 0).all mayB by rw [HM.out, show decide (p.items.length ≤ 1024) = true from decide_eq_true (by omega)]; simp)
    clear HM
    go_enter Tryd.func48, Tryd.ntmps48
    go_wp2_with fail
    go_loopw [91] (fun i wr => ∃ k : Nat, k ≤ p.items.length ∧ i = .int .i64 k ∧ RowKit.Hid (mayB p = (p.items.drop k).all mayB) ∧ Below w.heap.size w wr ∧ w.heap.size < wr.heap.size ∧ wr.cell? ⟨w.heap.size, 5, none⟩ = some (.slice a p.items.length cap)) (fun i _ => p.items.length - (intOf i).toNat)
    case atStart => exact ⟨0, Nat.zero_le _, rfl, HM2, (Below.refl _ _).alloc (Nat.le_refl _) _, by simp, by simp⟩
    case round =>
      obtain ⟨k, hkl, rfl, HK, hB, hsz, f5⟩ := hrel
      by_cases hlt : k < p.items.length
      · have q3 : decide (k < p.items.length) = true := by simpa using hlt
        obtain ⟨b, off, u, rfl, _, hb, hc, hfit, hpi⟩ := HA.out k hlt
        obtain ⟨d0, d1, d2, d3, d4, d5⟩ := hc.same (Same.of_below hB (Nat.le_refl _)) (Nat.zero_le _) hb
        have HE := Lib.hid (all_drop (f := mayB) hlt)
        have hmem : p.items[k] ∈ p.items := List.getElem_mem _
        obtain ⟨q, hq⟩ : ∃ q, p.items[k] = q := ⟨_, rfl⟩
        rw [hq] at d0 d1 d2 d3 d4 hfit hpi HE hmem
        obtain ⟨a2, cap2, rfl, _, _⟩ := hpi.open
        have hpi2 := Lib.hid hpi
        clear hc hq hpi
        go_wp2_with fail
        have hpw : PI (wr.alloc (.cells #[.int .u8 q.kind, .bool q.yes, .bool q.neg, .string q.mag, .string q.raw, .slice a2 q.items.length cap2] 27)) 0 (wr.alloc (.cells #[.int .u8 q.kind, .bool q.yes, .bool q.neg, .string q.mag, .string q.raw, .slice a2 q.items.length cap2] 27)).heap.size q.items (.slice a2 q.items.length cap2) :=
          hpi2.out.later (hB.alloc (Nat.le_of_lt hsz) _)
        refine (IH.out q hmem _ _ hfit hpw).mono ?_
        rintro e w1 ⟨rfl, hb1⟩
        have hB1 : Below w.heap.size w w1 := (hB.alloc (Nat.le_of_lt hsz) _).trans (hb1.mono (by simp; omega))
        have hz1 : w.heap.size < w1.heap.size := by have := hb1.size; simp at this; omega
        have HPC1 := Lib.hid (keep (hb1.mono (B' := wr.heap.size) (by simp)) hsz (keep ((Below.refl wr.heap.size wr).alloc (Nat.le_refl _) (.cells #[.int .u8 q.kind, .bool q.yes, .bool q.neg, .string q.mag, .string q.raw, .slice a2 q.items.length cap2] 27)) hsz f5))
        clear hpw
        clear d0 d1 d2 d3 d4 d5 f5 hB hb1 hsz
        cases hd : mayB q with
        | true =>
          have HD2 := Lib.hid (show mayB p = (p.items.drop (k + 1)).all mayB by rw [HK.out, HE.out, hd]; rfl)
          clear hd
          go_wp2_with fail
          refine ⟨?_, by simp [intOf]; omega⟩
          first
            | exact ⟨k + 1, by omega, rfl, HD2, hB1, hz1, HPC1.out⟩
            | ((repeat apply Exists.intro); exact ⟨⟨k + 1, by omega, rfl, HD2, hB1, hz1, HPC1.out⟩, rfl⟩)
        | false =>
          have HD2 := Lib.hid (show mayB p = false by rw [HK.out, HE.out, hd]; rfl)
          clear hd
          go_wp2_with fail
          go_ret
          exact ⟨by rw [HD2.out]; rfl, hB1⟩
      · have q3 : decide (k < p.items.length) = false := by simpa using hlt
        have HD2 := Lib.hid (show mayB p = true by rw [HK.out, List.drop_of_length_le (by omega)]; rfl)
        go_wp2_with fail
        go_ret
        exact ⟨by rw [HD2.out]; rfl, hB⟩

theorem may_any (p : Pt) : ∀ (v : Value) (w : World), Fit p → PI w 0 w.heap.size p.items v →
    Calls Tryd.prog 48 #[.agg #[.int .u8 p.kind, .bool p.yes, .bool p.neg, .string p.mag, .string p.raw, v]] w fun e w' => e = .returned (.bool (mayB p)) ∧ Below w.heap.size w w' := by
  induction p using Pt.ind with
  | h p ih =>
    intro v w hf hp
    rcases (show p.kind = 0 ∨ p.kind = 1 ∨ p.kind = 2 ∨ p.kind = 3 ∨ p.kind = 4 ∨ p.kind = 5 ∨ p.kind = 6 ∨ p.kind = 7 ∨ 7 < p.kind by omega) with h | h | h | h | h | h | h | h | h
    · exact may_0 p v w hf hp h
    · exact may_1 p v w hf hp h
    · exact may_2 p v w hf hp h
    · exact may_3 p v w hf hp h
    · exact may_4 p v w hf hp h
    · exact may_5 p v w hf hp h
    · exact may_6 p v w hf hp h
    · exact may_7 p v w hf hp h ih
    · exact may_8 p v w hf hp h

set_option maxRecDepth 100000 in
set_option maxHeartbeats 2000000 in
theorem rmay_7 (p : Pt) (v : Value) (w : World) (hf : Fit p) (hp : PI w 0 w.heap.size p.items v) (hk : p.kind = 7)
    (ih : ∀ q ∈ p.items, ∀ (v : Value) (w : World), Fit q → PI w 0 w.heap.size q.items v → Calls Tryd.prog 46 #[.agg #[.int .u8 q.kind, .bool q.yes, .bool q.neg, .string q.mag, .string q.raw, v]] w fun e w' => e = .returned (.bool (mayB q)) ∧ Below w.heap.size w w') :
    Calls Tryd.prog 46 #[.agg #[.int .u8 p.kind, .bool p.yes, .bool p.neg, .string p.mag, .string p.raw, v]] w fun e w' => e = .returned (.bool (mayB p)) ∧ Below w.heap.size w w' := by
  obtain ⟨a, cap, rfl, _, hat⟩ := hp.open
  have HA := Lib.hid hat
  have IH := Lib.hid ih
  clear hp hat ih
  have hm := hf.m
  have hr := hf.r
  have hl := hf.l
  obtain ⟨y, hy⟩ : ∃ y, p.yes = y := ⟨_, rfl⟩
  obtain ⟨z, hz⟩ : ∃ z, (!p.neg && p.mag.toList.isEmpty) = z := ⟨_, rfl⟩
  obtain ⟨t, ht⟩ : ∃ t, p.items.isEmpty = t := ⟨_, rfl⟩
  have hM := may_kind hy hz ht (p.raw.toList.isEmpty && decide (p.items.length ≤ 1024)) (by simp [hk])
  have h24 := eql_num p.neg false p.mag ⟨#[]⟩ z (by rw [← hz]; cases p.neg <;> simp)
  have h24n := neq_num p.neg false p.mag ⟨#[]⟩ z (by rw [← hz]; cases p.neg <;> simp)
  have e0 : ((p.kind : Int) == 0) = false := beq_eq_false_iff_ne.2 (by omega)
  have n0 : ((p.kind : Int) != 0) = true := by rw [bne, e0]; rfl
  have e1 : ((p.kind : Int) == 1) = false := beq_eq_false_iff_ne.2 (by omega)
  have n1 : ((p.kind : Int) != 1) = true := by rw [bne, e1]; rfl
  have e2 : ((p.kind : Int) == 2) = false := beq_eq_false_iff_ne.2 (by omega)
  have n2 : ((p.kind : Int) != 2) = true := by rw [bne, e2]; rfl
  have e3 : ((p.kind : Int) == 3) = false := beq_eq_false_iff_ne.2 (by omega)
  have n3 : ((p.kind : Int) != 3) = true := by rw [bne, e3]; rfl
  have e4 : ((p.kind : Int) == 4) = false := beq_eq_false_iff_ne.2 (by omega)
  have n4 : ((p.kind : Int) != 4) = true := by rw [bne, e4]; rfl
  have e5 : ((p.kind : Int) == 5) = false := beq_eq_false_iff_ne.2 (by omega)
  have n5 : ((p.kind : Int) != 5) = true := by rw [bne, e5]; rfl
  have e6 : ((p.kind : Int) == 6) = false := beq_eq_false_iff_ne.2 (by omega)
  have n6 : ((p.kind : Int) != 6) = true := by rw [bne, e6]; rfl
  have e7 : ((p.kind : Int) == 7) = true := beq_iff_eq.2 (by omega)
  have n7 : ((p.kind : Int) != 7) = false := by rw [bne, e7]; rfl
  have g7 : decide (7 < (p.kind : Int)) = false := by simp; omega
  have HM := Lib.hid (show mayB p = (!y && z && (p.raw.toList.isEmpty && decide (p.items.length ≤ 1024)) && p.items.all mayB) by rw [hM]; simp [hk])
  clear hM hz ht hk
  cases y with
  | true =>
    go_enter Tryd.func46, Tryd.ntmps46
    go_wp2_with fail
    go_ret
    exact ⟨by rw [HM.out]; rfl, ((Below.refl _ _).alloc (Nat.le_refl _) _).alloc (by simp) _⟩
  | false =>
  rw [hy]
  clear hy
  cases z with
  | false =>
    go_enter Tryd.func46, Tryd.ntmps46
    go_wp2_with fail
    go_ret
    exact ⟨by rw [HM.out]; rfl, ((Below.refl _ _).alloc (Nat.le_refl _) _).alloc (by simp) _⟩
  | true =>
  obtain ⟨x, hx⟩ : ∃ x, p.raw.toList.isEmpty = x := ⟨_, rfl⟩
  rw [hx] at HM
  cases x with
  | false =>
    go_enter Tryd.func46, Tryd.ntmps46
    go_wp2_with fail
    go_ret
    exact ⟨by rw [HM.out]; rfl, ((Below.refl _ _).alloc (Nat.le_refl _) _).alloc (by simp) _⟩
  | true =>
  have hlen : p.raw.size = 0 := by rw [← size_of, List.isEmpty_iff.1 hx]; rfl
  have hl64 : decide (65536 < (p.raw.size : Int)) = false := by simp; omega
  clear hlen
  by_cases hbig : 1024 < p.items.length
  · have hlx : decide (1024 < (p.items.length : Int)) = true := by simp; omega
    have HM2 := Lib.hid (show mayB p = false by rw [HM.out]; simp; omega)
    go_enter Tryd.func46, Tryd.ntmps46
    go_wp2_with fail
    go_ret
    exact ⟨by rw [HM2.out]; rfl, ((Below.refl _ _).alloc (Nat.le_refl _) _).alloc (by simp) _⟩
  · have hlx : decide (1024 < (p.items.length : Int)) = false := by simp; omega
    have HM2 := Lib.hid (show mayB p = (p.items.drop 0).all mayB by rw [HM.out, show decide (p.items.length ≤ 1024) = true from decide_eq_true (by omega)]; simp)
    clear HM
    go_enter Tryd.func46, Tryd.ntmps46
    go_wp2_with fail
    go_loopw [6] (fun i wr => ∃ k : Nat, k ≤ p.items.length ∧ i = .int .i64 k ∧ RowKit.Hid (mayB p = (p.items.drop k).all mayB) ∧ Below w.heap.size w wr ∧ w.heap.size < wr.heap.size ∧ wr.cell? ⟨w.heap.size, 5, none⟩ = some (.slice a p.items.length cap)) (fun i _ => p.items.length - (intOf i).toNat)
    case atStart => exact ⟨0, Nat.zero_le _, rfl, HM2, ((Below.refl _ _).alloc (Nat.le_refl _) _).alloc (by simp) _, by simp; omega, by simp⟩
    case round =>
      obtain ⟨k, hkl, rfl, HK, hB, hsz, f5⟩ := hrel
      by_cases hlt : k < p.items.length
      · have q3 : decide (k < p.items.length) = true := by simpa using hlt
        obtain ⟨b, off, u, rfl, _, hb, hc, hfit, hpi⟩ := HA.out k hlt
        obtain ⟨d0, d1, d2, d3, d4, d5⟩ := hc.same (Same.of_below hB (Nat.le_refl _)) (Nat.zero_le _) hb
        have HE := Lib.hid (all_drop (f := mayB) hlt)
        have hmem : p.items[k] ∈ p.items := List.getElem_mem _
        obtain ⟨q, hq⟩ : ∃ q, p.items[k] = q := ⟨_, rfl⟩
        rw [hq] at d0 d1 d2 d3 d4 hfit hpi HE hmem
        obtain ⟨a2, cap2, rfl, _, _⟩ := hpi.open
        have hpi2 := Lib.hid hpi
        clear hc hq hpi
        go_wp2_with fail
        refine (IH.out q hmem _ _ hfit (hpi2.out.later hB)).mono ?_
        rintro e w1 ⟨rfl, hb1⟩
        have hB1 : Below w.heap.size w w1 := hB.trans (hb1.mono (by omega))
        have hz1 : w.heap.size < w1.heap.size := by have := hb1.size; omega
        have HPC1 := Lib.hid (keep hb1 hsz f5)
        clear d0 d1 d2 d3 d4 d5 f5 hB hb1 hsz
        cases hd : mayB q with
        | true =>
          have HD2 := Lib.hid (show mayB p = (p.items.drop (k + 1)).all mayB by rw [HK.out, HE.out, hd]; rfl)
          clear hd
          go_wp2_with fail
          refine ⟨?_, by simp [intOf]; omega⟩
          first
            | exact ⟨k + 1, by omega, rfl, HD2, hB1, hz1, HPC1.out⟩
            | ((repeat apply Exists.intro); exact ⟨⟨k + 1, by omega, rfl, HD2, hB1, hz1, HPC1.out⟩, rfl⟩)
        | false =>
          have HD2 := Lib.hid (show mayB p = false by rw [HK.out, HE.out, hd]; rfl)
          clear hd
          go_wp2_with fail
          go_ret
          exact ⟨by rw [HD2.out]; rfl, hB1⟩
      · have q3 : decide (k < p.items.length) = false := by simpa using hlt
        have HD2 := Lib.hid (show mayB p = true by rw [HK.out, List.drop_of_length_le (by omega)]; rfl)
        go_wp2_with fail
        go_ret
        exact ⟨by rw [HD2.out]; rfl, hB⟩

theorem rmay_any (p : Pt) : ∀ (v : Value) (w : World), Fit p → PI w 0 w.heap.size p.items v →
    Calls Tryd.prog 46 #[.agg #[.int .u8 p.kind, .bool p.yes, .bool p.neg, .string p.mag, .string p.raw, v]] w fun e w' => e = .returned (.bool (mayB p)) ∧ Below w.heap.size w w' := by
  induction p using Pt.ind with
  | h p ih =>
    intro v w hf hp
    rcases (show p.kind = 0 ∨ p.kind = 1 ∨ p.kind = 2 ∨ p.kind = 3 ∨ p.kind = 4 ∨ p.kind = 5 ∨ p.kind = 6 ∨ p.kind = 7 ∨ 7 < p.kind by omega) with h | h | h | h | h | h | h | h | h
    · exact rmay_0 p v w hf hp h
    · exact rmay_1 p v w hf hp h
    · exact rmay_2 p v w hf hp h
    · exact rmay_3 p v w hf hp h
    · exact rmay_4 p v w hf hp h
    · exact rmay_5 p v w hf hp h
    · exact rmay_6 p v w hf hp h
    · exact rmay_7 p v w hf hp h ih
    · exact rmay_8 p v w hf hp h

end Go.Proofs.YtcgphlilijeifaaDoor.V
end
section
/-
  The document's Deeper, Make, Depth, IsRaw; the law's heavy, weight: their contracts.
-/
namespace Go.Proofs.YtcgphlilijeifaaDoor.V
open Go.RowKit

set_option maxRecDepth 100000 in
set_option maxHeartbeats 1000000 in
theorem rdeep_any (n : Nat) : ∀ (p : Pt) (v : Value) (w : World), n ≤ 1000 → Fit p → PI w 0 w.heap.size p.items v →
    Calls Tryd.prog 45 #[.agg #[.int .u8 p.kind, .bool p.yes, .bool p.neg, .string p.mag, .string p.raw, v], .int .i64 n] w fun e w' => e = .returned (.bool (deepB n p)) ∧ Below w.heap.size w w' := by
  induction n with
  | zero =>
    intro p v w _ hf hp
    have hk := hf.k
    by_cases h7 : p.kind = 7
    · have q1 : ((p.kind : Int) != 7) = false := by rw [h7]; rfl
      have HD := Lib.hid (show deepB 0 p = true by simp [deepB, h7])
      clear h7
      go_enter Tryd.func45, Tryd.ntmps45
      go_wp2_with fail
      go_ret
      exact ⟨by rw [HD.out]; rfl, (Below.refl _ _).alloc (Nat.le_refl _) _⟩
    · have q1 : ((p.kind : Int) != 7) = true := by simp; omega
      have HD := Lib.hid (show deepB 0 p = false by simp [deepB, h7])
      clear h7
      go_enter Tryd.func45, Tryd.ntmps45
      go_wp2_with fail
      go_ret
      exact ⟨by rw [HD.out]; rfl, (Below.refl _ _).alloc (Nat.le_refl _) _⟩
  | succ n ih =>
    intro p v w hn hf hp
    have hk := hf.k
    have hl := hf.l
    by_cases h7 : p.kind = 7
    · have q1 : ((p.kind : Int) != 7) = false := by rw [h7]; rfl
      have q2 : decide ((n : Int) + 1 < 1) = false := decide_eq_false (by omega)
      have HD := Lib.hid (show deepB (n + 1) p = (p.items.drop 0).any (deepB n) by simp [deepB, h7])
      obtain ⟨a, cap, rfl, hcap, hat⟩ := hp.open
      have HA := Lib.hid hat
      have IH := Lib.hid ih
      clear h7 hat ih hp
      go_enter Tryd.func45, Tryd.ntmps45
      go_wp2_with fail
      go_loopw [5] (fun i wr => ∃ k : Nat, k ≤ p.items.length ∧ i = .int .i64 k ∧ RowKit.Hid (deepB (n + 1) p = (p.items.drop k).any (deepB n)) ∧ Below w.heap.size w wr ∧ w.heap.size < wr.heap.size ∧ wr.cell? ⟨w.heap.size, 5, none⟩ = some (.slice a p.items.length cap)) (fun i _ => p.items.length - (intOf i).toNat)
      case atStart => exact ⟨0, Nat.zero_le _, rfl, HD, (Below.refl _ _).alloc (Nat.le_refl _) _, by simp, by simp⟩
      case round =>
        obtain ⟨k, hkl, rfl, HK, hB, hsz, f5⟩ := hrel
        by_cases hlt : k < p.items.length
        · have q3 : decide (k < p.items.length) = true := by simpa using hlt
          obtain ⟨b, off, u, rfl, _, hb, hc, hfit, hpi⟩ := HA.out k hlt
          obtain ⟨d0, d1, d2, d3, d4, d5⟩ := hc.same (Same.of_below hB (Nat.le_refl _)) (Nat.zero_le _) hb
          have HE := Lib.hid (any_drop (f := deepB n) hlt)
          obtain ⟨q, hq⟩ : ∃ q, p.items[k] = q := ⟨_, rfl⟩
          rw [hq] at d0 d1 d2 d3 d4 hfit hpi HE
          obtain ⟨a2, cap2, rfl, _, _⟩ := hpi.open
          have hpi2 := Lib.hid hpi
          clear hc hq hpi
          go_wp2_with fail
          refine (IH.out q _ _ (by omega) hfit (hpi2.out.later hB)).mono ?_
          rintro e w1 ⟨rfl, hb1⟩
          have hB1 : Below w.heap.size w w1 := hB.trans (hb1.mono (by omega))
          have hz1 : w.heap.size < w1.heap.size := by have := hb1.size; omega
          have F5 := Lib.hid (keep hb1 hsz f5)
          cases hd : deepB n q with
          | true =>
            have HD2 := Lib.hid (show deepB (n + 1) p = true by rw [HK.out, HE.out, hd]; rfl)
            clear hd hB hb1 d0 d1 d2 d3 d4 d5 f5 hsz
            go_wp2_with fail
            go_ret
            exact ⟨by rw [HD2.out]; rfl, hB1⟩
          | false =>
            have HD2 := Lib.hid (show deepB (n + 1) p = (p.items.drop (k + 1)).any (deepB n) by rw [HK.out, HE.out, hd]; rfl)
            clear hd hB hb1 d0 d1 d2 d3 d4 d5 f5 hsz
            go_wp2_with fail
            refine ⟨?_, by simp [intOf]; omega⟩
            first
              | exact ⟨k + 1, by omega, rfl, HD2, hB1, hz1, F5.out⟩
              | ((repeat apply Exists.intro); exact ⟨⟨k + 1, by omega, rfl, HD2, hB1, hz1, F5.out⟩, rfl⟩)
        · have q3 : decide (k < p.items.length) = false := by simpa using hlt
          have HD2 := Lib.hid (show deepB (n + 1) p = false by rw [HK.out, List.drop_of_length_le (by omega)]; rfl)
          go_wp2_with fail
          go_ret
          exact ⟨by rw [HD2.out]; rfl, hB⟩
    · have q1 : ((p.kind : Int) != 7) = true := by simp; omega
      have HD := Lib.hid (show deepB (n + 1) p = false by simp [deepB, h7])
      clear h7
      go_enter Tryd.func45, Tryd.ntmps45
      go_wp2_with fail
      go_ret
      exact ⟨by rw [HD.out]; rfl, (Below.refl _ _).alloc (Nat.le_refl _) _⟩

theorem rmake_any (p : Pt) (v : Value) (w : World) (hf : Fit p) (hp : PI w 0 w.heap.size p.items v) :
    Calls Tryd.prog 15 #[.agg #[.int .u8 p.kind, .bool p.yes, .bool p.neg, .string p.mag, .string p.raw, v]] w fun e w' => e = .returned (.int .i64 (makeE p)) ∧ Below w.heap.size w w' := by
  have hp0 := Lib.hid hp
  obtain ⟨a, cap, rfl, _, _⟩ := hp.open
  clear hp
  go_enter Tryd.func15, Tryd.ntmps15
  go_wp2_with fail
  refine (rdeep_any 16 p _ _ (by omega) hf (hp0.out.later ((Below.refl _ _).alloc (Nat.le_refl _) _))).mono ?_
  rintro e w1 ⟨rfl, hb1⟩
  have hB1 : Below w.heap.size w w1 := ((Below.refl _ _).alloc (Nat.le_refl _) _).trans (hb1.mono (by simp))
  have c0 : w1.cell? ⟨w.heap.size, 0, none⟩ = some (.int .u8 p.kind) := keep hb1 (by simp) (by simp)
  have c1 : w1.cell? ⟨w.heap.size, 1, none⟩ = some (.bool p.yes) := keep hb1 (by simp) (by simp)
  have c2 : w1.cell? ⟨w.heap.size, 2, none⟩ = some (.bool p.neg) := keep hb1 (by simp) (by simp)
  have c3 : w1.cell? ⟨w.heap.size, 3, none⟩ = some (.string p.mag) := keep hb1 (by simp) (by simp)
  have c4 : w1.cell? ⟨w.heap.size, 4, none⟩ = some (.string p.raw) := keep hb1 (by simp) (by simp)
  have c5 : w1.cell? ⟨w.heap.size, 5, none⟩ = some (.slice a p.items.length cap) := keep hb1 (by simp) (by simp)
  clear hb1
  cases hd : deepB 16 p with
  | true =>
    have HM := Lib.hid (show makeE p = 91 by simp [makeE, hd])
    clear hd
    go_wp2_with fail
    go_ret
    exact ⟨by rw [HM.out]; rfl, hB1⟩
  | false =>
    have hm0 : makeE p = if mayB p then 0 else 90 := by simp [makeE, hd]
    clear hd
    go_wp2_with fail
    refine (rmay_any p _ _ hf (hp0.out.later hB1)).mono ?_
    rintro e w2 ⟨rfl, hb2⟩
    cases hd : mayB p with
    | true =>
      have HM := Lib.hid (show makeE p = 0 by rw [hm0, hd]; rfl)
      clear hd hm0
      go_wp2_with fail
      go_ret
      exact ⟨by rw [HM.out]; rfl, two hB1 hb2⟩
    | false =>
      have HM := Lib.hid (show makeE p = 90 by rw [hm0, hd]; rfl)
      clear hd hm0
      go_wp2_with fail
      go_ret
      exact ⟨by rw [HM.out]; rfl, two hB1 hb2⟩
end Go.Proofs.YtcgphlilijeifaaDoor.V
end
section
/-
  The document's Depth and IsRaw; the law's heavy and weight: their contracts.
-/
namespace Go.Proofs.YtcgphlilijeifaaDoor.V
open Go.RowKit

theorem depthL_take {l : List Pt} {k : Nat} (h : k < l.length) : depthL (l.take (k + 1)) = max (depthL (l.take k)) (depthP l[k]) := by
  rw [List.take_succ_eq_append_getElem h, depthL_snoc]
theorem depthL_mem {l : List Pt} {p : Pt} (h : p ∈ l) : depthP p ≤ depthL l := (depthL_le l (depthL l)).1 (Nat.le_refl _) p h
theorem depthL_take_le (l : List Pt) (k : Nat) : depthL (l.take k) ≤ depthL l := (depthL_le _ _).2 fun _ h => depthL_mem (List.mem_of_mem_take h)
def rawB (p : Pt) : Bool := p.kind == 3 || p.kind == 4 || p.kind == 5 || p.kind == 6

set_option maxHeartbeats 1000000 in
theorem risraw_any (p : Pt) (a : Option Addr) (n cap : Nat) (w : World) (_hk : p.kind < 256) :
    Calls Tryd.prog 54 #[.agg #[.int .u8 p.kind, .bool p.yes, .bool p.neg, .string p.mag, .string p.raw, .slice a n cap]] w fun e w' => e = .returned (.bool (rawB p)) ∧ Below w.heap.size w w' := by
  rcases (show p.kind = 3 ∨ p.kind = 4 ∨ p.kind = 5 ∨ p.kind = 6 ∨ (p.kind ≠ 3 ∧ p.kind ≠ 4 ∧ p.kind ≠ 5 ∧ p.kind ≠ 6) by omega) with h | h | h | h | h
  · have HM := Lib.hid (show rawB p = true by simp [rawB, h])
    have e3 : ((p.kind : Int) == 3) = true := beq_iff_eq.2 (by omega)
    have e4 : ((p.kind : Int) == 4) = false := beq_eq_false_iff_ne.2 (by omega)
    have e5 : ((p.kind : Int) == 5) = false := beq_eq_false_iff_ne.2 (by omega)
    have e6 : ((p.kind : Int) == 6) = false := beq_eq_false_iff_ne.2 (by omega)
    clear h
    go_enter Tryd.func54, Tryd.ntmps54
    go_wp2_with fail
    go_ret
    exact ⟨by rw [HM.out]; rfl, (Below.refl _ _).alloc (Nat.le_refl _) _⟩
  · have HM := Lib.hid (show rawB p = true by simp [rawB, h])
    have e3 : ((p.kind : Int) == 3) = false := beq_eq_false_iff_ne.2 (by omega)
    have e4 : ((p.kind : Int) == 4) = true := beq_iff_eq.2 (by omega)
    have e5 : ((p.kind : Int) == 5) = false := beq_eq_false_iff_ne.2 (by omega)
    have e6 : ((p.kind : Int) == 6) = false := beq_eq_false_iff_ne.2 (by omega)
    clear h
    go_enter Tryd.func54, Tryd.ntmps54
    go_wp2_with fail
    go_ret
    exact ⟨by rw [HM.out]; rfl, (Below.refl _ _).alloc (Nat.le_refl _) _⟩
  · have HM := Lib.hid (show rawB p = true by simp [rawB, h])
    have e3 : ((p.kind : Int) == 3) = false := beq_eq_false_iff_ne.2 (by omega)
    have e4 : ((p.kind : Int) == 4) = false := beq_eq_false_iff_ne.2 (by omega)
    have e5 : ((p.kind : Int) == 5) = true := beq_iff_eq.2 (by omega)
    have e6 : ((p.kind : Int) == 6) = false := beq_eq_false_iff_ne.2 (by omega)
    clear h
    go_enter Tryd.func54, Tryd.ntmps54
    go_wp2_with fail
    go_ret
    exact ⟨by rw [HM.out]; rfl, (Below.refl _ _).alloc (Nat.le_refl _) _⟩
  · have HM := Lib.hid (show rawB p = true by simp [rawB, h])
    have e3 : ((p.kind : Int) == 3) = false := beq_eq_false_iff_ne.2 (by omega)
    have e4 : ((p.kind : Int) == 4) = false := beq_eq_false_iff_ne.2 (by omega)
    have e5 : ((p.kind : Int) == 5) = false := beq_eq_false_iff_ne.2 (by omega)
    have e6 : ((p.kind : Int) == 6) = true := beq_iff_eq.2 (by omega)
    clear h
    go_enter Tryd.func54, Tryd.ntmps54
    go_wp2_with fail
    go_ret
    exact ⟨by rw [HM.out]; rfl, (Below.refl _ _).alloc (Nat.le_refl _) _⟩
  · have HM := Lib.hid (show rawB p = false by simp [rawB, h])
    have e3 : ((p.kind : Int) == 3) = false := beq_eq_false_iff_ne.2 (by omega)
    have e4 : ((p.kind : Int) == 4) = false := beq_eq_false_iff_ne.2 (by omega)
    have e5 : ((p.kind : Int) == 5) = false := beq_eq_false_iff_ne.2 (by omega)
    have e6 : ((p.kind : Int) == 6) = false := beq_eq_false_iff_ne.2 (by omega)
    clear h
    go_enter Tryd.func54, Tryd.ntmps54
    go_wp2_with fail
    go_ret
    exact ⟨by rw [HM.out]; rfl, (Below.refl _ _).alloc (Nat.le_refl _) _⟩

set_option maxRecDepth 100000 in
set_option maxHeartbeats 2000000 in
theorem rdepth_any (p : Pt) : ∀ (v : Value) (w : World), depthP p ≤ 1000 → Fit p → PI w 0 w.heap.size p.items v →
    Calls Tryd.prog 55 #[.agg #[.int .u8 p.kind, .bool p.yes, .bool p.neg, .string p.mag, .string p.raw, v]] w fun e w' => e = .returned (.int .i64 (depthP p)) ∧ Below w.heap.size w w' := by
  induction p using Pt.ind with
  | h p ih =>
  intro v w hdp hf hp
  obtain ⟨a, cap, rfl, _, hat⟩ := hp.open
  have HA := Lib.hid hat
  have IH := Lib.hid ih
  have hl := hf.l
  have hk := hf.k
  clear hat ih hp
  by_cases h7 : p.kind = 7
  · have n7 : ((p.kind : Int) != 7) = false := by rw [h7]; rfl
    have hD : depthP p = depthL p.items + 1 := by rw [depthP_eq, if_pos h7]
    have hdl : depthL p.items ≤ 999 := by omega
    have HD := Lib.hid hD
    clear h7 hD hdp
    go_enter Tryd.func55, Tryd.ntmps55
    go_wp2_with fail
    go_loopw [3, 4] (fun m i wr => ∃ k : Nat, k ≤ p.items.length ∧ i = .int .i64 k ∧ m = .int .i64 (depthL (p.items.take k)) ∧ Below w.heap.size w wr ∧ w.heap.size < wr.heap.size ∧ wr.cell? ⟨w.heap.size, 5, none⟩ = some (.slice a p.items.length cap)) (fun _ i _ => p.items.length - (intOf i).toNat)
    case atStart => exact ⟨0, Nat.zero_le _, rfl, by rw [List.take_zero, depthL_nil]; rfl, (Below.refl _ _).alloc (Nat.le_refl _) _, by simp, by simp⟩
    case round =>
      obtain ⟨k, hkl, rfl, rfl, hB, hsz, f5⟩ := hrel
      have hdk := depthL_take_le p.items k
      by_cases hlt : k < p.items.length
      · have q3 : decide (k < p.items.length) = true := by simpa using hlt
        obtain ⟨b, off, u, rfl, _, hb, hc, hfit, hpi⟩ := HA.out k hlt
        obtain ⟨d0, d1, d2, d3, d4, d5⟩ := hc.same (Same.of_below hB (Nat.le_refl _)) (Nat.zero_le _) hb
        have HE := Lib.hid (depthL_take hlt)
        have hmem : p.items[k] ∈ p.items := List.getElem_mem _
        have hdq := depthL_mem hmem
        obtain ⟨q, hq⟩ : ∃ q, p.items[k] = q := ⟨_, rfl⟩
        rw [hq] at d0 d1 d2 d3 d4 hfit hpi HE hmem hdq
        obtain ⟨a2, cap2, rfl, _, _⟩ := hpi.open
        have hpi2 := Lib.hid hpi
        clear hc hq hpi
        obtain ⟨M, hM⟩ : ∃ M, depthL (p.items.take k) = M := ⟨_, rfl⟩
        rw [hM] at hdk HE ⊢
        clear hM
        go_wp2_with fail
        refine (IH.out q hmem _ _ (by omega) hfit (hpi2.out.later hB)).mono ?_
        rintro e w1 ⟨rfl, hb1⟩
        have hB1 : Below w.heap.size w w1 := hB.trans (hb1.mono (by omega))
        have hz1 : w.heap.size < w1.heap.size := by have := hb1.size; omega
        have F5 := Lib.hid (keep hb1 hsz f5)
        clear d0 d1 d2 d3 d4 d5 f5 hB hb1 hsz
        by_cases hgt : M < depthP q
        · have q4 : decide (M < depthP q) = true := by simpa using hgt
          have HE2 := Lib.hid (show depthL (p.items.take (k + 1)) = depthP q by rw [HE.out]; omega)
          go_wp2_with fail
          refine ⟨?_, by simp [intOf]; omega⟩
          first
            | exact ⟨k + 1, by omega, rfl, by rw [HE2.out], hB1, hz1, F5.out⟩
            | ((repeat apply Exists.intro); exact ⟨⟨k + 1, by omega, rfl, by rw [HE2.out], hB1, hz1, F5.out⟩, rfl⟩)
        · have q4 : decide (M < depthP q) = false := by simpa using hgt
          have HE2 := Lib.hid (show depthL (p.items.take (k + 1)) = M by rw [HE.out]; omega)
          go_wp2_with fail
          refine ⟨?_, by simp [intOf]; omega⟩
          first
            | exact ⟨k + 1, by omega, rfl, by rw [HE2.out], hB1, hz1, F5.out⟩
            | ((repeat apply Exists.intro); exact ⟨⟨k + 1, by omega, rfl, by rw [HE2.out], hB1, hz1, F5.out⟩, rfl⟩)
      · have q3 : decide (k < p.items.length) = false := by simpa using hlt
        have HT := Lib.hid (show p.items.take k = p.items from List.take_of_length_le (by omega))
        go_wp2_with fail
        go_ret
        exact ⟨by rw [HD.out, HT.out]; rfl, hB⟩
  · have n7 : ((p.kind : Int) != 7) = true := by simp; omega
    have HD := Lib.hid (show depthP p = 0 by rw [depthP_eq, if_neg h7])
    clear h7 hdp
    go_enter Tryd.func55, Tryd.ntmps55
    go_wp2_with fail
    go_ret
    exact ⟨by rw [HD.out]; rfl, (Below.refl _ _).alloc (Nat.le_refl _) _⟩

/-- heavy tells some number; no more is asked of it. -/
def HeavyPost (w : World) (e : Ending) (w' : World) : Prop := ∃ r : Int, e = .returned (.int .i64 r) ∧ 0 ≤ r ∧ r ≤ 300000000000000 ∧ Below w.heap.size w w'
set_option maxRecDepth 100000 in
set_option maxHeartbeats 2000000 in
theorem heavy_any (p : Pt) : ∀ (v : Value) (w : World) (n d : Int), 0 ≤ n → n ≤ 134217728 → 0 ≤ d → d ≤ 301 → Fit p → PI w 0 w.heap.size p.items v →
    Calls Tryd.prog 44 #[.agg #[.int .u8 p.kind, .bool p.yes, .bool p.neg, .string p.mag, .string p.raw, v], .int .i64 n, .int .i64 d] w (HeavyPost w) := by
  induction p using Pt.ind with
  | h p ih =>
  intro v w n d hn0 hn1 hd0 hd1 hf hp
  obtain ⟨a, cap, rfl, _, hat⟩ := hp.open
  have HA := Lib.hid hat
  have IH := Lib.hid ih
  have hl := hf.l
  have hm := hf.m
  have hr := hf.r
  clear hat ih hp
  by_cases hd : 300 < d
  · go_enter Tryd.func44, Tryd.ntmps44
    go_wp2_with fail
    go_ret
    exact ⟨_, rfl, by decide, by decide, (Below.refl _ _).alloc (Nat.le_refl _) _⟩
  · go_enter Tryd.func44, Tryd.ntmps44
    go_wp2_with fail
    go_loopw [1, 7] (fun m i wr => ∃ (k : Nat) (s : Int), k ≤ p.items.length ∧ i = .int .i64 k ∧ m = .int .i64 s ∧ 0 ≤ s ∧ s ≤ 300000000000000 ∧ Below w.heap.size w wr ∧ w.heap.size < wr.heap.size ∧ wr.cell? ⟨w.heap.size, 5, none⟩ = some (.slice a p.items.length cap)) (fun _ i _ => p.items.length - (intOf i).toNat)
    case atStart => exact ⟨0, _, Nat.zero_le _, rfl, rfl, by omega, by omega, (Below.refl _ _).alloc (Nat.le_refl _) _, by simp, by simp⟩
    case round =>
      obtain ⟨k, s, hkl, rfl, rfl, hs0, hs1, hB, hsz, f5⟩ := hrel
      by_cases hlt : k < p.items.length
      · have q3 : decide (k < p.items.length) = true := by simpa using hlt
        by_cases hs : s ≤ 134217728
        · have q4 : decide (s ≤ 134217728) = true := by simpa using hs
          obtain ⟨b, off, u, rfl, _, hb, hc, hfit, hpi⟩ := HA.out k hlt
          obtain ⟨d0, d1, d2, d3, d4, d5⟩ := hc.same (Same.of_below hB (Nat.le_refl _)) (Nat.zero_le _) hb
          have hmem : p.items[k] ∈ p.items := List.getElem_mem _
          obtain ⟨q, hq⟩ : ∃ q, p.items[k] = q := ⟨_, rfl⟩
          rw [hq] at d0 d1 d2 d3 d4 hfit hpi hmem
          obtain ⟨a2, cap2, rfl, _, _⟩ := hpi.open
          have hpi2 := Lib.hid hpi
          clear hc hq hpi
          go_wp2_with fail
          refine (IH.out q hmem _ _ s (d + 1) hs0 hs (by omega) (by omega) hfit (hpi2.out.later hB)).mono ?_
          rintro e w1 ⟨r, rfl, hr0, hr1, hb1⟩
          have hB1 : Below w.heap.size w w1 := hB.trans (hb1.mono (by omega))
          have hz1 : w.heap.size < w1.heap.size := by have := hb1.size; omega
          have F5 := Lib.hid (keep hb1 hsz f5)
          clear d0 d1 d2 d3 d4 d5 f5 hB hb1 hsz
          go_wp2_with fail
          refine ⟨?_, by simp [intOf]; omega⟩
          first
            | exact ⟨k + 1, r, by omega, rfl, rfl, hr0, hr1, hB1, hz1, F5.out⟩
            | ((repeat apply Exists.intro); exact ⟨⟨k + 1, r, by omega, rfl, rfl, hr0, hr1, hB1, hz1, F5.out⟩, rfl⟩)
        · have q4 : decide (s ≤ 134217728) = false := by simpa using hs
          go_wp2_with fail
          go_ret
          exact ⟨s, rfl, hs0, hs1, hB⟩
      · have q3 : decide (k < p.items.length) = false := by simpa using hlt
        go_wp2_with fail
        go_ret
        exact ⟨s, rfl, hs0, hs1, hB⟩

theorem weight_any (p : Pt) (v : Value) (w : World) (n : Int) (hn0 : 0 ≤ n) (hn1 : n ≤ 134217728) (hf : Fit p) (hp : PI w 0 w.heap.size p.items v) :
    Calls Tryd.prog 14 #[.agg #[.int .u8 p.kind, .bool p.yes, .bool p.neg, .string p.mag, .string p.raw, v], .int .i64 n] w (HeavyPost w) := by
  have hp0 := Lib.hid hp
  obtain ⟨a, cap, rfl, _, _⟩ := hp.open
  clear hp
  go_enter Tryd.func14, Tryd.ntmps14
  go_wp2_with fail
  refine (heavy_any p _ _ n 0 hn0 hn1 (by decide) (by decide) hf (by first | exact hp0.out | exact hp0.out.later ((Below.refl _ _).alloc (Nat.le_refl _) _))).mono ?_
  rintro e w1 ⟨r, rfl, hr0, hr1, hb1⟩
  go_wp2_with fail
  go_ret
  exact ⟨r, rfl, hr0, hr1, by first | exact hb1 | exact ((Below.refl _ _).alloc (Nat.le_refl _) _).trans (hb1.mono (by simp))⟩
end Go.Proofs.YtcgphlilijeifaaDoor.V
end
