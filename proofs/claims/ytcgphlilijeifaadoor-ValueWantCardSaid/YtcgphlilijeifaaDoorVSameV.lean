/-
  The program's Same, of two values: its contract.
-/
import Derived.Test.YtcgphlilijeifaaDoorVSame
import Derived.Deep.RegionHeld3
namespace Go.Proofs.YtcgphlilijeifaaDoor.V
open Go.RowKit

/-- The value's own Kind. -/
theorem VI.kindOf {w : World} {lo hi : Nat} {p : Pt} {v : Value} (h : VI w lo hi p v) (h0 : p.kind ≠ 0) :
    ∃ (T : TypeId) (V : Value) (f : FuncId), v = .iface T V ∧ (∀ w : World, (method 338 T V "Kind").run Tryd.prog w = .ok (f, V) w) ∧ (∀ (args : Array Value) (w : World), (callFunc f args).run Tryd.prog w = .ok (.enter f args) w) ∧ ∀ w : World, Calls Tryd.prog f #[V] w fun e w' => e = .returned (.int .u8 p.kind) ∧ Below w.heap.size w w' := by
  cases h with
  | null _ h => exact absurd h h0
  | truth _ h => exact ⟨_, _, 156, rfl, fun _ => by kernel_rfl, fun _ _ => by kernel_rfl, fun w => by rw [h]; exact kind_truth _ w⟩
  | whole _ h => exact ⟨_, _, 158, rfl, fun _ => by kernel_rfl, fun _ _ => by kernel_rfl, fun w => by rw [h]; exact kind_whole _ _ w⟩
  | row _ _ _ _ _ => exact ⟨_, _, 166, rfl, fun _ => by kernel_rfl, fun _ _ => by kernel_rfl, fun w => kind_row _ _ w⟩
  | tuple _ h a cap _ _ _ _ => exact ⟨_, _, 162, rfl, fun _ => by kernel_rfl, fun _ _ => by kernel_rfl, fun w => by rw [h]; exact kind_tuple _ _ _ w⟩

theorem oneB_kind {p q : Pt} (h : p.kind ≠ q.kind) : sameP p q = false := by
  rw [sameP_eq]; unfold oneB; rw [show (p.kind == q.kind) = false by simpa using h]; simp
theorem same_one {p q : Pt} (hp : mayB p = true) (hq : mayB q = true) (h : p.kind = q.kind) :
    (p.kind = 0 → sameP p q = true) ∧ (p.kind = 1 → sameP p q = (p.yes == q.yes)) ∧ (p.kind = 2 → sameP p q = (p.neg == q.neg && p.mag.toList == q.mag.toList)) ∧
      (p.kind ≠ 0 → p.kind ≠ 1 → p.kind ≠ 2 → p.kind ≠ 7 → sameP p q = (p.raw.toList == q.raw.toList)) ∧ (p.kind = 7 → sameP p q = sameL p.items q.items) := by
  obtain ⟨a1, a2, a3, a4⟩ := canon hp
  obtain ⟨b1, b2, b3, b4⟩ := canon hq
  refine ⟨fun k => ?_, fun k => ?_, fun k => ?_, fun k0 k1 k2 k7 => ?_, fun k => ?_⟩
  · rw [sameP_eq]; unfold oneB
    rw [h, a1 (by omega), b1 (by omega), (a2 (by omega)).1, (b2 (by omega)).1, (a2 (by omega)).2, (b2 (by omega)).2, a3 (by omega), b3 (by omega), a4 (by omega), b4 (by omega)]; simp [sameL_nil]
  · rw [sameP_eq]; unfold oneB
    rw [h, (a2 (by omega)).1, (b2 (by omega)).1, (a2 (by omega)).2, (b2 (by omega)).2, a3 (by omega), b3 (by omega), a4 (by omega), b4 (by omega)]; simp [sameL_nil]
  · rw [sameP_eq]; unfold oneB
    rw [h, a1 (by omega), b1 (by omega), a3 (by omega), b3 (by omega), a4 (by omega), b4 (by omega)]; simp [sameL_nil]
  · rw [sameP_eq]; unfold oneB
    rw [h, a1 (by omega), b1 (by omega), (a2 (by omega)).1, (b2 (by omega)).1, (a2 (by omega)).2, (b2 (by omega)).2, a3 (by omega), b3 (by omega)]; simp [sameL_nil]
  · rw [sameP_eq]; unfold oneB
    rw [h, a1 (by omega), b1 (by omega), (a2 (by omega)).1, (b2 (by omega)).1, (a2 (by omega)).2, (b2 (by omega)).2, a4 (by omega), b4 (by omega)]; simp

set_option maxHeartbeats 1000000 in
/-- One of them is null. -/
theorem samev_null (p q : Pt) (v u : Value) (w : World) {W : World} {lo hi lo' hi' : Nat} (hp : mayB p = true) (hq : mayB q = true) (hv : VI W lo hi p v) (hu : VI W lo' hi' q u) (h : p.kind = 0 ∨ q.kind = 0) :
    Calls Tryd.prog 78 #[v, u] w fun e w' => e = .returned (.bool (sameP p q)) ∧ Below w.heap.size w w' := by
  by_cases h1 : p.kind = 0
  · obtain rfl := hv.nilOf h1
    by_cases h2 : q.kind = 0
    · obtain rfl := hu.nilOf h2
      have HN := Lib.hid ((same_one hp hq (by omega)).1 h1)
      clear h h1 h2 hv hu hp hq
      go_enter Tryd.func78, Tryd.ntmps78
      go_wp2_with fail
      go_ret
      exact ⟨by rw [HN.out]; rfl, Below.refl _ _⟩
    · obtain ⟨T, V, rfl⟩ := hu.ifaceOf h2
      have HN := Lib.hid (oneB_kind (p := p) (q := q) (by omega))
      clear h h1 h2 hv hu hp hq
      go_enter Tryd.func78, Tryd.ntmps78
      go_wp2_with fail
      go_ret
      exact ⟨by rw [HN.out]; rfl, Below.refl _ _⟩
  · have h2 : q.kind = 0 := h.resolve_left h1
    obtain rfl := hu.nilOf h2
    obtain ⟨T, V, rfl⟩ := hv.ifaceOf h1
    have HN := Lib.hid (oneB_kind (p := p) (q := q) (by omega))
    clear h h1 h2 hv hu hp hq
    go_enter Tryd.func78, Tryd.ntmps78
    go_wp2_with fail
    go_ret
    exact ⟨by rw [HN.out]; rfl, Below.refl _ _⟩
set_option maxHeartbeats 1000000 in
/-- Two kinds. -/
theorem samev_kinds (p q : Pt) (v u : Value) (w : World) {W : World} {lo hi lo' hi' : Nat} (hv : VI W lo hi p v) (hu : VI W lo' hi' q u) (h0 : p.kind ≠ 0) (h1 : q.kind ≠ 0) (h : p.kind ≠ q.kind) :
    Calls Tryd.prog 78 #[v, u] w fun e w' => e = .returned (.bool (sameP p q)) ∧ Below w.heap.size w w' := by
  obtain ⟨T, V, f, rfl, m1, r1, c1⟩ := hv.kindOf h0
  obtain ⟨T', V', f', rfl, m2, r2, c2⟩ := hu.kindOf h1
  have HN := Lib.hid (oneB_kind (p := p) (q := q) h)
  have q1 : ((p.kind : Int) != (q.kind : Int)) = true := by simp; omega
  have C1 := Lib.hid c1
  have C2 := Lib.hid c2
  clear h h0 h1 hv hu c1 c2
  go_enter Tryd.func78, Tryd.ntmps78
  go_wp2_with fail
  refine (C1.out _).mono ?_
  rintro e w1 ⟨rfl, hb1⟩
  go_wp2_with fail
  refine (C2.out _).mono ?_
  rintro e w2 ⟨rfl, hb2⟩
  go_wp2_with fail
  go_ret
  exact ⟨by rw [HN.out]; rfl, two hb1 hb2⟩
end Go.Proofs.YtcgphlilijeifaaDoor.V
