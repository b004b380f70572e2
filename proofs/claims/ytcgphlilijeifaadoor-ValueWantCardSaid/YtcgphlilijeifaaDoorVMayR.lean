/-
  May a part be: the document's answer.
-/
import Derived.Test.YtcgphlilijeifaaDoorVCheck
import Derived.Test.YtcgphlilijeifaaDoorVDeep
import Derived.Test.YtcgphlilijeifaaDoorVMay
namespace Go.Proofs.YtcgphlilijeifaaDoor.V
open Go.RowKit

set_option maxRecDepth 100000 in
set_option maxHeartbeats 2000000 in
theorem rmay_0 (p : Pt) (v : Value) (w : World) (hf : Fit p) (hp : PI w 0 w.heap.size p.items v) (hk : p.kind = 0) :
    Calls Tryd.prog 46 #[.agg #[.int .u8 p.kind, .bool p.yes, .bool p.neg, .string p.mag, .string p.raw, v]] w fun e w' => e = .returned (.bool (mayB p)) ∧ Below w.heap.size w w' := by
  obtain ⟨a, cap, rfl, _, _⟩ := hp.open
  clear hp
  have hm := hf.m
  have hr := hf.r
  have hl := hf.l
  have hkb := hf.k
  obtain ⟨y, hy⟩ : ∃ y, p.yes = y := ⟨_, rfl⟩
  obtain ⟨z, hz⟩ : ∃ z, (!p.neg && p.mag.toList.isEmpty) = z := ⟨_, rfl⟩
  obtain ⟨t, ht⟩ : ∃ t, p.items.isEmpty = t := ⟨_, rfl⟩
  have hM := may_kind hy hz ht (p.raw.toList.isEmpty) (by simp [hk])
  have h24 := eql_num p.neg false p.mag ⟨#[]⟩ z (by rw [← hz]; cases p.neg <;> simp)
  have h24n := neq_num p.neg false p.mag ⟨#[]⟩ z (by rw [← hz]; cases p.neg <;> simp)
  have hl0 : ((p.items.length : Int) == 0) = t := by rw [← ht]; cases p.items <;> simp; omega
  have hl1 : decide (0 < p.items.length) = !t := by rw [← ht]; cases p.items <;> simp
  have e0 : ((p.kind : Int) == 0) = true := beq_iff_eq.2 (by omega)
  have n0 : ((p.kind : Int) != 0) = false := by rw [bne, e0]; rfl
  have e1 : ((p.kind : Int) == 1) = false := beq_eq_false_iff_ne.2 (by omega)
  have n1 : ((p.kind : Int) != 1) = true := by rw [bne, e1]; rfl
  have e2 : ((p.kind : Int) == 2) = false := beq_eq_false_iff_ne.2 (by omega)
  have n2 : ((p.kind : Int) != 2) = true := by rw [bne, e2]; rfl
  have e3 : ((p.kind : Int) == 3) = false := beq_eq_false_iff_ne.2 (by omega)
  have n3 : ((p.kind : Int) != 3) = true := by rw [bne, e3]; rfl
  have e4 : ((p.kind : Int) == 4) = false := beq_eq_false_iff_ne.2 (by omega)
  have n4 : ((p.kind : Int) != 4) = true := by rw [bne, e4]; rfl
  have e5 : ((p.kind : Int) == 5) = false := beq_eq_false_iff_ne.2 (by omega)
  have n5 : ((p.kind : Int) != 5) = true := by rw [bne, e5]; rfl
  have e6 : ((p.kind : Int) == 6) = false := beq_eq_false_iff_ne.2 (by omega)
  have n6 : ((p.kind : Int) != 6) = true := by rw [bne, e6]; rfl
  have e7 : ((p.kind : Int) == 7) = false := beq_eq_false_iff_ne.2 (by omega)
  have n7 : ((p.kind : Int) != 7) = true := by rw [bne, e7]; rfl
  have g7 : decide (7 < (p.kind : Int)) = false := by simp; omega
  have HM := Lib.hid (show mayB p = (!y && z && t && (p.raw.toList.isEmpty)) by rw [hM]; simp [hk])
  clear hM hz ht hk
  cases y <;> cases z <;> cases t
  · go_enter Tryd.func46, Tryd.ntmps46
    go_wp2_with fail
    go_ret
    exact ⟨by rw [HM.out]; rfl, (((Below.refl _ _).alloc (Nat.le_refl _) _).alloc (by simp) _)⟩
  · go_enter Tryd.func46, Tryd.ntmps46
    go_wp2_with fail
    go_ret
    exact ⟨by rw [HM.out]; rfl, (((Below.refl _ _).alloc (Nat.le_refl _) _).alloc (by simp) _)⟩
  · go_enter Tryd.func46, Tryd.ntmps46
    go_wp2_with fail
    go_ret
    exact ⟨by rw [HM.out]; rfl, (((Below.refl _ _).alloc (Nat.le_refl _) _).alloc (by simp) _)⟩
  · have hlz : ¬ 0 < p.items.length := of_decide_eq_false hl1
    have hlx : decide (1024 < (p.items.length : Int)) = false := by simp; omega
    clear hlz
    obtain ⟨x, hx⟩ : ∃ x, p.raw.toList.isEmpty = x := ⟨_, rfl⟩
    rw [hx] at HM
    cases x
    · go_enter Tryd.func46, Tryd.ntmps46
      go_wp2_with fail
      go_ret
      exact ⟨by rw [HM.out]; rfl, (((Below.refl _ _).alloc (Nat.le_refl _) _).alloc (by simp) _)⟩
    · have hlen : p.raw.size = 0 := by rw [← size_of, List.isEmpty_iff.1 hx]; rfl
      have hl64 : decide (65536 < (p.raw.size : Int)) = false := by simp; omega
      clear hlen
      go_enter Tryd.func46, Tryd.ntmps46
      go_wp2_with fail
      refine wp_loop_rounds 1 ?_
      rw [rounds_succ]
      go_wp2_with fail
      go_ret
      exact ⟨by rw [HM.out]; rfl, (((Below.refl _ _).alloc (Nat.le_refl _) _).alloc (by simp) _)⟩
  · go_enter Tryd.func46, Tryd.ntmps46
    go_wp2_with fail
    go_ret
    exact ⟨by rw [HM.out]; rfl, (((Below.refl _ _).alloc (Nat.le_refl _) _).alloc (by simp) _)⟩
  · go_enter Tryd.func46, Tryd.ntmps46
    go_wp2_with fail
    go_ret
    exact ⟨by rw [HM.out]; rfl, (((Below.refl _ _).alloc (Nat.le_refl _) _).alloc (by simp) _)⟩
  · go_enter Tryd.func46, Tryd.ntmps46
    go_wp2_with fail
    go_ret
    exact ⟨by rw [HM.out]; rfl, (((Below.refl _ _).alloc (Nat.le_refl _) _).alloc (by simp) _)⟩
  · go_enter Tryd.func46, Tryd.ntmps46
    go_wp2_with fail
    go_ret
    exact ⟨by rw [HM.out]; rfl, (((Below.refl _ _).alloc (Nat.le_refl _) _).alloc (by simp) _)⟩

set_option maxRecDepth 100000 in
set_option maxHeartbeats 2000000 in
theorem rmay_1 (p : Pt) (v : Value) (w : World) (hf : Fit p) (hp : PI w 0 w.heap.size p.items v) (hk : p.kind = 1) :
    Calls Tryd.prog 46 #[.agg #[.int .u8 p.kind, .bool p.yes, .bool p.neg, .string p.mag, .string p.raw, v]] w fun e w' => e = .returned (.bool (mayB p)) ∧ Below w.heap.size w w' := by
  obtain ⟨a, cap, rfl, _, _⟩ := hp.open
  clear hp
  have hm := hf.m
  have hr := hf.r
  have hl := hf.l
  have hkb := hf.k
  obtain ⟨y, hy⟩ : ∃ y, p.yes = y := ⟨_, rfl⟩
  obtain ⟨z, hz⟩ : ∃ z, (!p.neg && p.mag.toList.isEmpty) = z := ⟨_, rfl⟩
  obtain ⟨t, ht⟩ : ∃ t, p.items.isEmpty = t := ⟨_, rfl⟩
  have hM := may_kind hy hz ht (p.raw.toList.isEmpty) (by simp [hk])
  have h24 := eql_num p.neg false p.mag ⟨#[]⟩ z (by rw [← hz]; cases p.neg <;> simp)
  have h24n := neq_num p.neg false p.mag ⟨#[]⟩ z (by rw [← hz]; cases p.neg <;> simp)
  have hl0 : ((p.items.length : Int) == 0) = t := by rw [← ht]; cases p.items <;> simp; omega
  have hl1 : decide (0 < p.items.length) = !t := by rw [← ht]; cases p.items <;> simp
  have e0 : ((p.kind : Int) == 0) = false := beq_eq_false_iff_ne.2 (by omega)
  have n0 : ((p.kind : Int) != 0) = true := by rw [bne, e0]; rfl
  have e1 : ((p.kind : Int) == 1) = true := beq_iff_eq.2 (by omega)
  have n1 : ((p.kind : Int) != 1) = false := by rw [bne, e1]; rfl
  have e2 : ((p.kind : Int) == 2) = false := beq_eq_false_iff_ne.2 (by omega)
  have n2 : ((p.kind : Int) != 2) = true := by rw [bne, e2]; rfl
  have e3 : ((p.kind : Int) == 3) = false := beq_eq_false_iff_ne.2 (by omega)
  have n3 : ((p.kind : Int) != 3) = true := by rw [bne, e3]; rfl
  have e4 : ((p.kind : Int) == 4) = false := beq_eq_false_iff_ne.2 (by omega)
  have n4 : ((p.kind : Int) != 4) = true := by rw [bne, e4]; rfl
  have e5 : ((p.kind : Int) == 5) = false := beq_eq_false_iff_ne.2 (by omega)
  have n5 : ((p.kind : Int) != 5) = true := by rw [bne, e5]; rfl
  have e6 : ((p.kind : Int) == 6) = false := beq_eq_false_iff_ne.2 (by omega)
  have n6 : ((p.kind : Int) != 6) = true := by rw [bne, e6]; rfl
  have e7 : ((p.kind : Int) == 7) = false := beq_eq_false_iff_ne.2 (by omega)
  have n7 : ((p.kind : Int) != 7) = true := by rw [bne, e7]; rfl
  have g7 : decide (7 < (p.kind : Int)) = false := by simp; omega
  have HM := Lib.hid (show mayB p = (z && t && (p.raw.toList.isEmpty)) by rw [hM]; simp [hk])
  clear hM hz ht hk
  cases z <;> cases t
  · go_enter Tryd.func46, Tryd.ntmps46
    go_wp2_with fail
    go_ret
    exact ⟨by rw [HM.out]; rfl, (((Below.refl _ _).alloc (Nat.le_refl _) _).alloc (by simp) _)⟩
  · go_enter Tryd.func46, Tryd.ntmps46
    go_wp2_with fail
    go_ret
    exact ⟨by rw [HM.out]; rfl, (((Below.refl _ _).alloc (Nat.le_refl _) _).alloc (by simp) _)⟩
  · go_enter Tryd.func46, Tryd.ntmps46
    go_wp2_with fail
    go_ret
    exact ⟨by rw [HM.out]; rfl, (((Below.refl _ _).alloc (Nat.le_refl _) _).alloc (by simp) _)⟩
  · have hlz : ¬ 0 < p.items.length := of_decide_eq_false hl1
    have hlx : decide (1024 < (p.items.length : Int)) = false := by simp; omega
    clear hlz
    obtain ⟨x, hx⟩ : ∃ x, p.raw.toList.isEmpty = x := ⟨_, rfl⟩
    rw [hx] at HM
    cases x
    · go_enter Tryd.func46, Tryd.ntmps46
      go_wp2_with fail
      go_ret
      exact ⟨by rw [HM.out]; rfl, (((Below.refl _ _).alloc (Nat.le_refl _) _).alloc (by simp) _)⟩
    · have hlen : p.raw.size = 0 := by rw [← size_of, List.isEmpty_iff.1 hx]; rfl
      have hl64 : decide (65536 < (p.raw.size : Int)) = false := by simp; omega
      clear hlen
      go_enter Tryd.func46, Tryd.ntmps46
      go_wp2_with fail
      refine wp_loop_rounds 1 ?_
      rw [rounds_succ]
      go_wp2_with fail
      go_ret
      exact ⟨by rw [HM.out]; rfl, (((Below.refl _ _).alloc (Nat.le_refl _) _).alloc (by simp) _)⟩

set_option maxRecDepth 100000 in
set_option maxHeartbeats 2000000 in
theorem rmay_2 (p : Pt) (v : Value) (w : World) (hf : Fit p) (hp : PI w 0 w.heap.size p.items v) (hk : p.kind = 2) :
    Calls Tryd.prog 46 #[.agg #[.int .u8 p.kind, .bool p.yes, .bool p.neg, .string p.mag, .string p.raw, v]] w fun e w' => e = .returned (.bool (mayB p)) ∧ Below w.heap.size w w' := by
  obtain ⟨a, cap, rfl, _, _⟩ := hp.open
  clear hp
  have hm := hf.m
  have hr := hf.r
  have hl := hf.l
  have hkb := hf.k
  obtain ⟨y, hy⟩ : ∃ y, p.yes = y := ⟨_, rfl⟩
  obtain ⟨z, hz⟩ : ∃ z, (!p.neg && p.mag.toList.isEmpty) = z := ⟨_, rfl⟩
  obtain ⟨t, ht⟩ : ∃ t, p.items.isEmpty = t := ⟨_, rfl⟩
  have hM := may_kind hy hz ht (p.raw.toList.isEmpty && chk p.neg p.mag.toList == 0) (by simp [hk])
  have h24 := eql_num p.neg false p.mag ⟨#[]⟩ z (by rw [← hz]; cases p.neg <;> simp)
  have h24n := neq_num p.neg false p.mag ⟨#[]⟩ z (by rw [← hz]; cases p.neg <;> simp)
  have hl0 : ((p.items.length : Int) == 0) = t := by rw [← ht]; cases p.items <;> simp; omega
  have hl1 : decide (0 < p.items.length) = !t := by rw [← ht]; cases p.items <;> simp
  have e0 : ((p.kind : Int) == 0) = false := beq_eq_false_iff_ne.2 (by omega)
  have n0 : ((p.kind : Int) != 0) = true := by rw [bne, e0]; rfl
  have e1 : ((p.kind : Int) == 1) = false := beq_eq_false_iff_ne.2 (by omega)
  have n1 : ((p.kind : Int) != 1) = true := by rw [bne, e1]; rfl
  have e2 : ((p.kind : Int) == 2) = true := beq_iff_eq.2 (by omega)
  have n2 : ((p.kind : Int) != 2) = false := by rw [bne, e2]; rfl
  have e3 : ((p.kind : Int) == 3) = false := beq_eq_false_iff_ne.2 (by omega)
  have n3 : ((p.kind : Int) != 3) = true := by rw [bne, e3]; rfl
  have e4 : ((p.kind : Int) == 4) = false := beq_eq_false_iff_ne.2 (by omega)
  have n4 : ((p.kind : Int) != 4) = true := by rw [bne, e4]; rfl
  have e5 : ((p.kind : Int) == 5) = false := beq_eq_false_iff_ne.2 (by omega)
  have n5 : ((p.kind : Int) != 5) = true := by rw [bne, e5]; rfl
  have e6 : ((p.kind : Int) == 6) = false := beq_eq_false_iff_ne.2 (by omega)
  have n6 : ((p.kind : Int) != 6) = true := by rw [bne, e6]; rfl
  have e7 : ((p.kind : Int) == 7) = false := beq_eq_false_iff_ne.2 (by omega)
  have n7 : ((p.kind : Int) != 7) = true := by rw [bne, e7]; rfl
  have g7 : decide (7 < (p.kind : Int)) = false := by simp; omega
  have HM := Lib.hid (show mayB p = (!y && true && t && (p.raw.toList.isEmpty && chk p.neg p.mag.toList == 0)) by rw [hM]; simp [hk])
  clear hM hz ht hk
  cases y <;> cases t
  · go_enter Tryd.func46, Tryd.ntmps46
    go_wp2_with fail
    go_ret
    exact ⟨by rw [HM.out]; rfl, (((Below.refl _ _).alloc (Nat.le_refl _) _).alloc (by simp) _)⟩
  · have hlz : ¬ 0 < p.items.length := of_decide_eq_false hl1
    have hlx : decide (1024 < (p.items.length : Int)) = false := by simp; omega
    clear hlz
    obtain ⟨x, hx⟩ : ∃ x, p.raw.toList.isEmpty = x := ⟨_, rfl⟩
    rw [hx] at HM
    cases x
    · go_enter Tryd.func46, Tryd.ntmps46
      go_wp2_with fail
      go_ret
      exact ⟨by rw [HM.out]; rfl, (((Below.refl _ _).alloc (Nat.le_refl _) _).alloc (by simp) _)⟩
    · obtain ⟨r, hr2⟩ : ∃ r, chk p.neg p.mag.toList = r := ⟨_, rfl⟩
      rw [hr2] at HM
      have HR := Lib.hid hr2
      have hlen : p.raw.size = 0 := by rw [← size_of, List.isEmpty_iff.1 hx]; rfl
      have hl64 : decide (65536 < (p.raw.size : Int)) = false := by simp; omega
      clear hr2 hlen
      go_enter Tryd.func46, Tryd.ntmps46
      go_wp2_with fail
      refine (rcheck_any p.neg p.mag _ (by omega) r HR.out).mono ?_
      rintro e w1 ⟨rfl, hb1⟩
      go_wp2_with fail
      go_ret
      exact ⟨by rw [HM.out]; rfl, two ((((Below.refl _ _).alloc (Nat.le_refl _) _).alloc (by simp) _)) hb1⟩
  · go_enter Tryd.func46, Tryd.ntmps46
    go_wp2_with fail
    go_ret
    exact ⟨by rw [HM.out]; rfl, (((Below.refl _ _).alloc (Nat.le_refl _) _).alloc (by simp) _)⟩
  · go_enter Tryd.func46, Tryd.ntmps46
    go_wp2_with fail
    go_ret
    exact ⟨by rw [HM.out]; rfl, (((Below.refl _ _).alloc (Nat.le_refl _) _).alloc (by simp) _)⟩

set_option maxRecDepth 100000 in
set_option maxHeartbeats 2000000 in
theorem rmay_3 (p : Pt) (v : Value) (w : World) (hf : Fit p) (hp : PI w 0 w.heap.size p.items v) (hk : p.kind = 3) :
    Calls Tryd.prog 46 #[.agg #[.int .u8 p.kind, .bool p.yes, .bool p.neg, .string p.mag, .string p.raw, v]] w fun e w' => e = .returned (.bool (mayB p)) ∧ Below w.heap.size w w' := by
  obtain ⟨a, cap, rfl, _, _⟩ := hp.open
  clear hp
  have hm := hf.m
  have hr := hf.r
  have hl := hf.l
  have hkb := hf.k
  obtain ⟨y, hy⟩ : ∃ y, p.yes = y := ⟨_, rfl⟩
  obtain ⟨z, hz⟩ : ∃ z, (!p.neg && p.mag.toList.isEmpty) = z := ⟨_, rfl⟩
  obtain ⟨t, ht⟩ : ∃ t, p.items.isEmpty = t := ⟨_, rfl⟩
  have hM := may_kind hy hz ht (decide (p.raw.size ≤ 65536)) (by simp [hk])
  have h24 := eql_num p.neg false p.mag ⟨#[]⟩ z (by rw [← hz]; cases p.neg <;> simp)
  have h24n := neq_num p.neg false p.mag ⟨#[]⟩ z (by rw [← hz]; cases p.neg <;> simp)
  have hl0 : ((p.items.length : Int) == 0) = t := by rw [← ht]; cases p.items <;> simp; omega
  have hl1 : decide (0 < p.items.length) = !t := by rw [← ht]; cases p.items <;> simp
  have e0 : ((p.kind : Int) == 0) = false := beq_eq_false_iff_ne.2 (by omega)
  have n0 : ((p.kind : Int) != 0) = true := by rw [bne, e0]; rfl
  have e1 : ((p.kind : Int) == 1) = false := beq_eq_false_iff_ne.2 (by omega)
  have n1 : ((p.kind : Int) != 1) = true := by rw [bne, e1]; rfl
  have e2 : ((p.kind : Int) == 2) = false := beq_eq_false_iff_ne.2 (by omega)
  have n2 : ((p.kind : Int) != 2) = true := by rw [bne, e2]; rfl
  have e3 : ((p.kind : Int) == 3) = true := beq_iff_eq.2 (by omega)
  have n3 : ((p.kind : Int) != 3) = false := by rw [bne, e3]; rfl
  have e4 : ((p.kind : Int) == 4) = false := beq_eq_false_iff_ne.2 (by omega)
  have n4 : ((p.kind : Int) != 4) = true := by rw [bne, e4]; rfl
  have e5 : ((p.kind : Int) == 5) = false := beq_eq_false_iff_ne.2 (by omega)
  have n5 : ((p.kind : Int) != 5) = true := by rw [bne, e5]; rfl
  have e6 : ((p.kind : Int) == 6) = false := beq_eq_false_iff_ne.2 (by omega)
  have n6 : ((p.kind : Int) != 6) = true := by rw [bne, e6]; rfl
  have e7 : ((p.kind : Int) == 7) = false := beq_eq_false_iff_ne.2 (by omega)
  have n7 : ((p.kind : Int) != 7) = true := by rw [bne, e7]; rfl
  have g7 : decide (7 < (p.kind : Int)) = false := by simp; omega
  have HM := Lib.hid (show mayB p = (!y && z && t && (decide (p.raw.size ≤ 65536))) by rw [hM]; simp [hk])
  clear hM hz ht hk
  cases y <;> cases z <;> cases t
  · go_enter Tryd.func46, Tryd.ntmps46
    go_wp2_with fail
    go_ret
    exact ⟨by rw [HM.out]; rfl, (((Below.refl _ _).alloc (Nat.le_refl _) _).alloc (by simp) _)⟩
  · go_enter Tryd.func46, Tryd.ntmps46
    go_wp2_with fail
    go_ret
    exact ⟨by rw [HM.out]; rfl, (((Below.refl _ _).alloc (Nat.le_refl _) _).alloc (by simp) _)⟩
  · go_enter Tryd.func46, Tryd.ntmps46
    go_wp2_with fail
    go_ret
    exact ⟨by rw [HM.out]; rfl, (((Below.refl _ _).alloc (Nat.le_refl _) _).alloc (by simp) _)⟩
  · have hlz : ¬ 0 < p.items.length := of_decide_eq_false hl1
    have hlx : decide (1024 < (p.items.length : Int)) = false := by simp; omega
    clear hlz
    by_cases hle : p.raw.size ≤ 65536
    · have hl64 : decide (65536 < (p.raw.size : Int)) = false := by simp; omega
      have HM2 := Lib.hid (show mayB p = true by rw [HM.out]; simpa using hle)
      go_enter Tryd.func46, Tryd.ntmps46
      go_wp2_with fail
      refine wp_loop_rounds 1 ?_
      rw [rounds_succ]
      go_wp2_with fail
      go_ret
      exact ⟨by rw [HM2.out]; rfl, (((Below.refl _ _).alloc (Nat.le_refl _) _).alloc (by simp) _)⟩
    · have hl64 : decide (65536 < (p.raw.size : Int)) = true := by simp; omega
      have HM2 := Lib.hid (show mayB p = false by rw [HM.out]; simpa using hle)
      go_enter Tryd.func46, Tryd.ntmps46
      go_wp2_with fail
      go_ret
      exact ⟨by rw [HM2.out]; rfl, (((Below.refl _ _).alloc (Nat.le_refl _) _).alloc (by simp) _)⟩
  · go_enter Tryd.func46, Tryd.ntmps46
    go_wp2_with fail
    go_ret
    exact ⟨by rw [HM.out]; rfl, (((Below.refl _ _).alloc (Nat.le_refl _) _).alloc (by simp) _)⟩
  · go_enter Tryd.func46, Tryd.ntmps46
    go_wp2_with fail
    go_ret
    exact ⟨by rw [HM.out]; rfl, (((Below.refl _ _).alloc (Nat.le_refl _) _).alloc (by simp) _)⟩
  · go_enter Tryd.func46, Tryd.ntmps46
    go_wp2_with fail
    go_ret
    exact ⟨by rw [HM.out]; rfl, (((Below.refl _ _).alloc (Nat.le_refl _) _).alloc (by simp) _)⟩
  · go_enter Tryd.func46, Tryd.ntmps46
    go_wp2_with fail
    go_ret
    exact ⟨by rw [HM.out]; rfl, (((Below.refl _ _).alloc (Nat.le_refl _) _).alloc (by simp) _)⟩

set_option maxRecDepth 100000 in
set_option maxHeartbeats 2000000 in
theorem rmay_4 (p : Pt) (v : Value) (w : World) (hf : Fit p) (hp : PI w 0 w.heap.size p.items v) (hk : p.kind = 4) :
    Calls Tryd.prog 46 #[.agg #[.int .u8 p.kind, .bool p.yes, .bool p.neg, .string p.mag, .string p.raw, v]] w fun e w' => e = .returned (.bool (mayB p)) ∧ Below w.heap.size w w' := by
  obtain ⟨a, cap, rfl, _, _⟩ := hp.open
  clear hp
  have hm := hf.m
  have hr := hf.r
  have hl := hf.l
  have hkb := hf.k
  obtain ⟨y, hy⟩ : ∃ y, p.yes = y := ⟨_, rfl⟩
  obtain ⟨z, hz⟩ : ∃ z, (!p.neg && p.mag.toList.isEmpty) = z := ⟨_, rfl⟩
  obtain ⟨t, ht⟩ : ∃ t, p.items.isEmpty = t := ⟨_, rfl⟩
  have hM := may_kind hy hz ht (p.raw.size == 16) (by simp [hk])
  have h24 := eql_num p.neg false p.mag ⟨#[]⟩ z (by rw [← hz]; cases p.neg <;> simp)
  have h24n := neq_num p.neg false p.mag ⟨#[]⟩ z (by rw [← hz]; cases p.neg <;> simp)
  have hl0 : ((p.items.length : Int) == 0) = t := by rw [← ht]; cases p.items <;> simp; omega
  have hl1 : decide (0 < p.items.length) = !t := by rw [← ht]; cases p.items <;> simp
  have e0 : ((p.kind : Int) == 0) = false := beq_eq_false_iff_ne.2 (by omega)
  have n0 : ((p.kind : Int) != 0) = true := by rw [bne, e0]; rfl
  have e1 : ((p.kind : Int) == 1) = false := beq_eq_false_iff_ne.2 (by omega)
  have n1 : ((p.kind : Int) != 1) = true := by rw [bne, e1]; rfl
  have e2 : ((p.kind : Int) == 2) = false := beq_eq_false_iff_ne.2 (by omega)
  have n2 : ((p.kind : Int) != 2) = true := by rw [bne, e2]; rfl
  have e3 : ((p.kind : Int) == 3) = false := beq_eq_false_iff_ne.2 (by omega)
  have n3 : ((p.kind : Int) != 3) = true := by rw [bne, e3]; rfl
  have e4 : ((p.kind : Int) == 4) = true := beq_iff_eq.2 (by omega)
  have n4 : ((p.kind : Int) != 4) = false := by rw [bne, e4]; rfl
  have e5 : ((p.kind : Int) == 5) = false := beq_eq_false_iff_ne.2 (by omega)
  have n5 : ((p.kind : Int) != 5) = true := by rw [bne, e5]; rfl
  have e6 : ((p.kind : Int) == 6) = false := beq_eq_false_iff_ne.2 (by omega)
  have n6 : ((p.kind : Int) != 6) = true := by rw [bne, e6]; rfl
  have e7 : ((p.kind : Int) == 7) = false := beq_eq_false_iff_ne.2 (by omega)
  have n7 : ((p.kind : Int) != 7) = true := by rw [bne, e7]; rfl
  have g7 : decide (7 < (p.kind : Int)) = false := by simp; omega
  have HM := Lib.hid (show mayB p = (!y && z && t && (p.raw.size == 16)) by rw [hM]; simp [hk])
  clear hM hz ht hk
  cases y <;> cases z <;> cases t
  · go_enter Tryd.func46, Tryd.ntmps46
    go_wp2_with fail
    go_ret
    exact ⟨by rw [HM.out]; rfl, (((Below.refl _ _).alloc (Nat.le_refl _) _).alloc (by simp) _)⟩
  · go_enter Tryd.func46, Tryd.ntmps46
    go_wp2_with fail
    go_ret
    exact ⟨by rw [HM.out]; rfl, (((Below.refl _ _).alloc (Nat.le_refl _) _).alloc (by simp) _)⟩
  · go_enter Tryd.func46, Tryd.ntmps46
    go_wp2_with fail
    go_ret
    exact ⟨by rw [HM.out]; rfl, (((Below.refl _ _).alloc (Nat.le_refl _) _).alloc (by simp) _)⟩
  · have hlz : ¬ 0 < p.items.length := of_decide_eq_false hl1
    have hlx : decide (1024 < (p.items.length : Int)) = false := by simp; omega
    clear hlz
    by_cases hle : p.raw.size = 16
    · have hl64 : decide (65536 < (p.raw.size : Int)) = false := by simp; omega
      have hl16 : ((p.raw.size : Int) != 16) = false := by simp; omega
      have HM2 := Lib.hid (show mayB p = true by rw [HM.out]; simpa using hle)
      clear hle
      go_enter Tryd.func46, Tryd.ntmps46
      go_wp2_with fail
      refine wp_loop_rounds 1 ?_
      rw [rounds_succ]
      go_wp2_with fail
      go_ret
      exact ⟨by rw [HM2.out]; rfl, (((Below.refl _ _).alloc (Nat.le_refl _) _).alloc (by simp) _)⟩
    · have hl16 : ((p.raw.size : Int) != 16) = true := by simp; omega
      have HM2 := Lib.hid (show mayB p = false by rw [HM.out]; simpa using hle)
      by_cases hle2 : p.raw.size ≤ 65536
      · have hl64 : decide (65536 < (p.raw.size : Int)) = false := by simp; omega
        go_enter Tryd.func46, Tryd.ntmps46
        go_wp2_with fail
        go_ret
        exact ⟨by rw [HM2.out]; rfl, (((Below.refl _ _).alloc (Nat.le_refl _) _).alloc (by simp) _)⟩
      · have hl64 : decide (65536 < (p.raw.size : Int)) = true := by simp; omega
        go_enter Tryd.func46, Tryd.ntmps46
        go_wp2_with fail
        go_ret
        exact ⟨by rw [HM2.out]; rfl, (((Below.refl _ _).alloc (Nat.le_refl _) _).alloc (by simp) _)⟩
  · go_enter Tryd.func46, Tryd.ntmps46
    go_wp2_with fail
    go_ret
    exact ⟨by rw [HM.out]; rfl, (((Below.refl _ _).alloc (Nat.le_refl _) _).alloc (by simp) _)⟩
  · go_enter Tryd.func46, Tryd.ntmps46
    go_wp2_with fail
    go_ret
    exact ⟨by rw [HM.out]; rfl, (((Below.refl _ _).alloc (Nat.le_refl _) _).alloc (by simp) _)⟩
  · go_enter Tryd.func46, Tryd.ntmps46
    go_wp2_with fail
    go_ret
    exact ⟨by rw [HM.out]; rfl, (((Below.refl _ _).alloc (Nat.le_refl _) _).alloc (by simp) _)⟩
  · go_enter Tryd.func46, Tryd.ntmps46
    go_wp2_with fail
    go_ret
    exact ⟨by rw [HM.out]; rfl, (((Below.refl _ _).alloc (Nat.le_refl _) _).alloc (by simp) _)⟩

set_option maxRecDepth 100000 in
set_option maxHeartbeats 2000000 in
theorem rmay_5 (p : Pt) (v : Value) (w : World) (hf : Fit p) (hp : PI w 0 w.heap.size p.items v) (hk : p.kind = 5) :
    Calls Tryd.prog 46 #[.agg #[.int .u8 p.kind, .bool p.yes, .bool p.neg, .string p.mag, .string p.raw, v]] w fun e w' => e = .returned (.bool (mayB p)) ∧ Below w.heap.size w w' := by
  obtain ⟨a, cap, rfl, _, _⟩ := hp.open
  clear hp
  have hm := hf.m
  have hr := hf.r
  have hl := hf.l
  have hkb := hf.k
  obtain ⟨y, hy⟩ : ∃ y, p.yes = y := ⟨_, rfl⟩
  obtain ⟨z, hz⟩ : ∃ z, (!p.neg && p.mag.toList.isEmpty) = z := ⟨_, rfl⟩
  obtain ⟨t, ht⟩ : ∃ t, p.items.isEmpty = t := ⟨_, rfl⟩
  have hM := may_kind hy hz ht (decide (p.raw.size ≤ 65536)) (by simp [hk])
  have h24 := eql_num p.neg false p.mag ⟨#[]⟩ z (by rw [← hz]; cases p.neg <;> simp)
  have h24n := neq_num p.neg false p.mag ⟨#[]⟩ z (by rw [← hz]; cases p.neg <;> simp)
  have hl0 : ((p.items.length : Int) == 0) = t := by rw [← ht]; cases p.items <;> simp; omega
  have hl1 : decide (0 < p.items.length) = !t := by rw [← ht]; cases p.items <;> simp
  have e0 : ((p.kind : Int) == 0) = false := beq_eq_false_iff_ne.2 (by omega)
  have n0 : ((p.kind : Int) != 0) = true := by rw [bne, e0]; rfl
  have e1 : ((p.kind : Int) == 1) = false := beq_eq_false_iff_ne.2 (by omega)
  have n1 : ((p.kind : Int) != 1) = true := by rw [bne, e1]; rfl
  have e2 : ((p.kind : Int) == 2) = false := beq_eq_false_iff_ne.2 (by omega)
  have n2 : ((p.kind : Int) != 2) = true := by rw [bne, e2]; rfl
  have e3 : ((p.kind : Int) == 3) = false := beq_eq_false_iff_ne.2 (by omega)
  have n3 : ((p.kind : Int) != 3) = true := by rw [bne, e3]; rfl
  have e4 : ((p.kind : Int) == 4) = false := beq_eq_false_iff_ne.2 (by omega)
  have n4 : ((p.kind : Int) != 4) = true := by rw [bne, e4]; rfl
  have e5 : ((p.kind : Int) == 5) = true := beq_iff_eq.2 (by omega)
  have n5 : ((p.kind : Int) != 5) = false := by rw [bne, e5]; rfl
  have e6 : ((p.kind : Int) == 6) = false := beq_eq_false_iff_ne.2 (by omega)
  have n6 : ((p.kind : Int) != 6) = true := by rw [bne, e6]; rfl
  have e7 : ((p.kind : Int) == 7) = false := beq_eq_false_iff_ne.2 (by omega)
  have n7 : ((p.kind : Int) != 7) = true := by rw [bne, e7]; rfl
  have g7 : decide (7 < (p.kind : Int)) = false := by simp; omega
  have HM := Lib.hid (show mayB p = (!y && z && t && (decide (p.raw.size ≤ 65536))) by rw [hM]; simp [hk])
  clear hM hz ht hk
  cases y <;> cases z <;> cases t
  · go_enter Tryd.func46, Tryd.ntmps46
    go_wp2_with fail
    go_ret
    exact ⟨by rw [HM.out]; rfl, (((Below.refl _ _).alloc (Nat.le_refl _) _).alloc (by simp) _)⟩
  · go_enter Tryd.func46, Tryd.ntmps46
    go_wp2_with fail
    go_ret
    exact ⟨by rw [HM.out]; rfl, (((Below.refl _ _).alloc (Nat.le_refl _) _).alloc (by simp) _)⟩
  · go_enter Tryd.func46, Tryd.ntmps46
    go_wp2_with fail
    go_ret
    exact ⟨by rw [HM.out]; rfl, (((Below.refl _ _).alloc (Nat.le_refl _) _).alloc (by simp) _)⟩
  · have hlz : ¬ 0 < p.items.length := of_decide_eq_false hl1
    have hlx : decide (1024 < (p.items.length : Int)) = false := by simp; omega
    clear hlz
    by_cases hle : p.raw.size ≤ 65536
    · have hl64 : decide (65536 < (p.raw.size : Int)) = false := by simp; omega
      have HM2 := Lib.hid (show mayB p = true by rw [HM.out]; simpa using hle)
      go_enter Tryd.func46, Tryd.ntmps46
      go_wp2_with fail
      refine wp_loop_rounds 1 ?_
      rw [rounds_succ]
      go_wp2_with fail
      go_ret
      exact ⟨by rw [HM2.out]; rfl, (((Below.refl _ _).alloc (Nat.le_refl _) _).alloc (by simp) _)⟩
    · have hl64 : decide (65536 < (p.raw.size : Int)) = true := by simp; omega
      have HM2 := Lib.hid (show mayB p = false by rw [HM.out]; simpa using hle)
      go_enter Tryd.func46, Tryd.ntmps46
      go_wp2_with fail
      go_ret
      exact ⟨by rw [HM2.out]; rfl, (((Below.refl _ _).alloc (Nat.le_refl _) _).alloc (by simp) _)⟩
  · go_enter Tryd.func46, Tryd.ntmps46
    go_wp2_with fail
    go_ret
    exact ⟨by rw [HM.out]; rfl, (((Below.refl _ _).alloc (Nat.le_refl _) _).alloc (by simp) _)⟩
  · go_enter Tryd.func46, Tryd.ntmps46
    go_wp2_with fail
    go_ret
    exact ⟨by rw [HM.out]; rfl, (((Below.refl _ _).alloc (Nat.le_refl _) _).alloc (by simp) _)⟩
  · go_enter Tryd.func46, Tryd.ntmps46
    go_wp2_with fail
    go_ret
    exact ⟨by rw [HM.out]; rfl, (((Below.refl _ _).alloc (Nat.le_refl _) _).alloc (by simp) _)⟩
  · go_enter Tryd.func46, Tryd.ntmps46
    go_wp2_with fail
    go_ret
    exact ⟨by rw [HM.out]; rfl, (((Below.refl _ _).alloc (Nat.le_refl _) _).alloc (by simp) _)⟩

set_option maxRecDepth 100000 in
set_option maxHeartbeats 2000000 in
theorem rmay_6 (p : Pt) (v : Value) (w : World) (hf : Fit p) (hp : PI w 0 w.heap.size p.items v) (hk : p.kind = 6) :
    Calls Tryd.prog 46 #[.agg #[.int .u8 p.kind, .bool p.yes, .bool p.neg, .string p.mag, .string p.raw, v]] w fun e w' => e = .returned (.bool (mayB p)) ∧ Below w.heap.size w w' := by
  obtain ⟨a, cap, rfl, _, _⟩ := hp.open
  clear hp
  have hm := hf.m
  have hr := hf.r
  have hl := hf.l
  have hkb := hf.k
  obtain ⟨y, hy⟩ : ∃ y, p.yes = y := ⟨_, rfl⟩
  obtain ⟨z, hz⟩ : ∃ z, (!p.neg && p.mag.toList.isEmpty) = z := ⟨_, rfl⟩
  obtain ⟨t, ht⟩ : ∃ t, p.items.isEmpty = t := ⟨_, rfl⟩
  have hM := may_kind hy hz ht (decide (p.raw.size ≤ 65536)) (by simp [hk])
  have h24 := eql_num p.neg false p.mag ⟨#[]⟩ z (by rw [← hz]; cases p.neg <;> simp)
  have h24n := neq_num p.neg false p.mag ⟨#[]⟩ z (by rw [← hz]; cases p.neg <;> simp)
  have hl0 : ((p.items.length : Int) == 0) = t := by rw [← ht]; cases p.items <;> simp; omega
  have hl1 : decide (0 < p.items.length) = !t := by rw [← ht]; cases p.items <;> simp
  have e0 : ((p.kind : Int) == 0) = false := beq_eq_false_iff_ne.2 (by omega)
  have n0 : ((p.kind : Int) != 0) = true := by rw [bne, e0]; rfl
  have e1 : ((p.kind : Int) == 1) = false := beq_eq_false_iff_ne.2 (by omega)
  have n1 : ((p.kind : Int) != 1) = true := by rw [bne, e1]; rfl
  have e2 : ((p.kind : Int) == 2) = false := beq_eq_false_iff_ne.2 (by omega)
  have n2 : ((p.kind : Int) != 2) = true := by rw [bne, e2]; rfl
  have e3 : ((p.kind : Int) == 3) = false := beq_eq_false_iff_ne.2 (by omega)
  have n3 : ((p.kind : Int) != 3) = true := by rw [bne, e3]; rfl
  have e4 : ((p.kind : Int) == 4) = false := beq_eq_false_iff_ne.2 (by omega)
  have n4 : ((p.kind : Int) != 4) = true := by rw [bne, e4]; rfl
  have e5 : ((p.kind : Int) == 5) = false := beq_eq_false_iff_ne.2 (by omega)
  have n5 : ((p.kind : Int) != 5) = true := by rw [bne, e5]; rfl
  have e6 : ((p.kind : Int) == 6) = true := beq_iff_eq.2 (by omega)
  have n6 : ((p.kind : Int) != 6) = false := by rw [bne, e6]; rfl
  have e7 : ((p.kind : Int) == 7) = false := beq_eq_false_iff_ne.2 (by omega)
  have n7 : ((p.kind : Int) != 7) = true := by rw [bne, e7]; rfl
  have g7 : decide (7 < (p.kind : Int)) = false := by simp; omega
  have HM := Lib.hid (show mayB p = (!y && z && t && (decide (p.raw.size ≤ 65536))) by rw [hM]; simp [hk])
  clear hM hz ht hk
  cases y <;> cases z <;> cases t
  · go_enter Tryd.func46, Tryd.ntmps46
    go_wp2_with fail
    go_ret
    exact ⟨by rw [HM.out]; rfl, (((Below.refl _ _).alloc (Nat.le_refl _) _).alloc (by simp) _)⟩
  · go_enter Tryd.func46, Tryd.ntmps46
    go_wp2_with fail
    go_ret
    exact ⟨by rw [HM.out]; rfl, (((Below.refl _ _).alloc (Nat.le_refl _) _).alloc (by simp) _)⟩
  · go_enter Tryd.func46, Tryd.ntmps46
    go_wp2_with fail
    go_ret
    exact ⟨by rw [HM.out]; rfl, (((Below.refl _ _).alloc (Nat.le_refl _) _).alloc (by simp) _)⟩
  · have hlz : ¬ 0 < p.items.length := of_decide_eq_false hl1
    have hlx : decide (1024 < (p.items.length : Int)) = false := by simp; omega
    clear hlz
    by_cases hle : p.raw.size ≤ 65536
    · have hl64 : decide (65536 < (p.raw.size : Int)) = false := by simp; omega
      have HM2 := Lib.hid (show mayB p = true by rw [HM.out]; simpa using hle)
      go_enter Tryd.func46, Tryd.ntmps46
      go_wp2_with fail
      refine wp_loop_rounds 1 ?_
      rw [rounds_succ]
      go_wp2_with fail
      go_ret
      exact ⟨by rw [HM2.out]; rfl, (((Below.refl _ _).alloc (Nat.le_refl _) _).alloc (by simp) _)⟩
    · have hl64 : decide (65536 < (p.raw.size : Int)) = true := by simp; omega
      have HM2 := Lib.hid (show mayB p = false by rw [HM.out]; simpa using hle)
      go_enter Tryd.func46, Tryd.ntmps46
      go_wp2_with fail
      go_ret
      exact ⟨by rw [HM2.out]; rfl, (((Below.refl _ _).alloc (Nat.le_refl _) _).alloc (by simp) _)⟩
  · go_enter Tryd.func46, Tryd.ntmps46
    go_wp2_with fail
    go_ret
    exact ⟨by rw [HM.out]; rfl, (((Below.refl _ _).alloc (Nat.le_refl _) _).alloc (by simp) _)⟩
  · go_enter Tryd.func46, Tryd.ntmps46
    go_wp2_with fail
    go_ret
    exact ⟨by rw [HM.out]; rfl, (((Below.refl _ _).alloc (Nat.le_refl _) _).alloc (by simp) _)⟩
  · go_enter Tryd.func46, Tryd.ntmps46
    go_wp2_with fail
    go_ret
    exact ⟨by rw [HM.out]; rfl, (((Below.refl _ _).alloc (Nat.le_refl _) _).alloc (by simp) _)⟩
  · go_enter Tryd.func46, Tryd.ntmps46
    go_wp2_with fail
    go_ret
    exact ⟨by rw [HM.out]; rfl, (((Below.refl _ _).alloc (Nat.le_refl _) _).alloc (by simp) _)⟩

set_option maxRecDepth 100000 in
set_option maxHeartbeats 2000000 in
theorem rmay_8 (p : Pt) (v : Value) (w : World) (hf : Fit p) (hp : PI w 0 w.heap.size p.items v) (hk : 7 < p.kind) :
    Calls Tryd.prog 46 #[.agg #[.int .u8 p.kind, .bool p.yes, .bool p.neg, .string p.mag, .string p.raw, v]] w fun e w' => e = .returned (.bool (mayB p)) ∧ Below w.heap.size w w' := by
  obtain ⟨a, cap, rfl, _, _⟩ := hp.open
  clear hp
  have hm := hf.m
  have hr := hf.r
  have hl := hf.l
  have hkb := hf.k
  obtain ⟨y, hy⟩ : ∃ y, p.yes = y := ⟨_, rfl⟩
  obtain ⟨z, hz⟩ : ∃ z, (!p.neg && p.mag.toList.isEmpty) = z := ⟨_, rfl⟩
  obtain ⟨t, ht⟩ : ∃ t, p.items.isEmpty = t := ⟨_, rfl⟩
  have hM := may_kind hy hz ht (p.raw.toList.isEmpty) (by simp [show ¬ p.kind = 2 by omega, show ¬ p.kind = 4 by omega, show ¬ p.kind = 3 by omega, show ¬ p.kind = 5 by omega, show ¬ p.kind = 6 by omega, show ¬ p.kind = 7 by omega])
  have h24 := eql_num p.neg false p.mag ⟨#[]⟩ z (by rw [← hz]; cases p.neg <;> simp)
  have h24n := neq_num p.neg false p.mag ⟨#[]⟩ z (by rw [← hz]; cases p.neg <;> simp)
  have hl0 : ((p.items.length : Int) == 0) = t := by rw [← ht]; cases p.items <;> simp; omega
  have hl1 : decide (0 < p.items.length) = !t := by rw [← ht]; cases p.items <;> simp
  have e0 : ((p.kind : Int) == 0) = false := beq_eq_false_iff_ne.2 (by omega)
  have n0 : ((p.kind : Int) != 0) = true := by rw [bne, e0]; rfl
  have e1 : ((p.kind : Int) == 1) = false := beq_eq_false_iff_ne.2 (by omega)
  have n1 : ((p.kind : Int) != 1) = true := by rw [bne, e1]; rfl
  have e2 : ((p.kind : Int) == 2) = false := beq_eq_false_iff_ne.2 (by omega)
  have n2 : ((p.kind : Int) != 2) = true := by rw [bne, e2]; rfl
  have e3 : ((p.kind : Int) == 3) = false := beq_eq_false_iff_ne.2 (by omega)
  have n3 : ((p.kind : Int) != 3) = true := by rw [bne, e3]; rfl
  have e4 : ((p.kind : Int) == 4) = false := beq_eq_false_iff_ne.2 (by omega)
  have n4 : ((p.kind : Int) != 4) = true := by rw [bne, e4]; rfl
  have e5 : ((p.kind : Int) == 5) = false := beq_eq_false_iff_ne.2 (by omega)
  have n5 : ((p.kind : Int) != 5) = true := by rw [bne, e5]; rfl
  have e6 : ((p.kind : Int) == 6) = false := beq_eq_false_iff_ne.2 (by omega)
  have n6 : ((p.kind : Int) != 6) = true := by rw [bne, e6]; rfl
  have e7 : ((p.kind : Int) == 7) = false := beq_eq_false_iff_ne.2 (by omega)
  have n7 : ((p.kind : Int) != 7) = true := by rw [bne, e7]; rfl
  have g7 : decide (7 < (p.kind : Int)) = true := by simp; omega
  have HM := Lib.hid (show mayB p = false by rw [hM]; simp [show ¬ p.kind ≤ 7 by omega])
  clear hM hz ht hk
  go_enter Tryd.func46, Tryd.ntmps46
  go_wp2_with fail
  go_ret
  exact ⟨by rw [HM.out]; rfl, (Below.refl _ _).alloc (Nat.le_refl _) _⟩

end Go.Proofs.YtcgphlilijeifaaDoor.V
