/-
  errors.Is at a fault and its number, and dovetailkeep.Is: the contracts. (errors.Is after the worked contracts of Sentry, turned to this program.)
-/
import Derived.Test.YtcgphlilijeifaaDoorWantAs
import Derived.Below
import Derived.Lib.Hide
import Derived.Deep.RegionHeld3
import Derived.BigQuiet
import Derived.Deep.QuietTactic
namespace Go.Proofs.YtcgphlilijeifaaDoor
open Go.RowKit Go.Extern.Stop Go.Stop Go.Extern

theorem Isf.typeOf (v : Value) (w : World) : (Extern.ReflectliteType.typeOf #[.iface 30 v]).run Tryd.prog w = .ok (.iface 180 (.agg #[.pointer (some ⟨4, 30, none⟩)])) w := by kernel_rfl
theorem Isf.comparable (w : World) : ((Extern.ReflectliteType.method fun t => do Rtype.noPackHeld "Comparable" t; (fun a => Value.bool a.comparable) <$> typeInfo t) #[.agg #[.pointer (some ⟨4, 30, none⟩)]]).run Tryd.prog w = .ok (.bool true) w := by kernel_rfl
theorem Isf.method (v : Value) (w : World) : (Go.method 338 180 v "Comparable").run Tryd.prog w = .ok (174, v) w := by kernel_rfl
theorem Isf.other (v u : Value) (w : World) : (binOp .eql 37 (.iface 45 v) (.iface 30 u)).run Tryd.prog w = .ok (.bool false) w := by kernel_rfl
theorem Isf.has (v : Value) (xT : TypeId) (w : World) : (Instr.typeAssert (.iface 45 v) xT 192 true).run Tryd.prog w = .ok (.tuple #[.iface 45 v, .bool true]) w := run_typeAssert_hasB Tryd.underlying192 (by kernel_rfl) v xT w
theorem Isf.methodIs (v : Value) (w : World) : (Go.method 338 45 v "Is").run Tryd.prog w = .ok (154, v) w := by kernel_rfl
theorem Isf.same1 (w : World) : (binOp .eql 37 (.iface 30 (.int .i64 1)) (.iface 30 (.int .i64 1))).run Tryd.prog w = .ok (.bool true) w := by kernel_rfl
theorem Isf.same4 (w : World) : (binOp .eql 37 (.iface 30 (.int .i64 4)) (.iface 30 (.int .i64 4))).run Tryd.prog w = .ok (.bool true) w := by kernel_rfl

theorem faultIs (b : Nat) (n : Int) (w : World) (hc : w.cell? ⟨b, 0, none⟩ = some (.int .i64 n)) (he : ∀ w : World, (binOp .eql 37 (.iface 30 (.int .i64 n)) (.iface 30 (.int .i64 n))).run Tryd.prog w = .ok (.bool true) w) :
    Calls Tryd.prog 154 #[.pointer (some ⟨b, 0, none⟩), .iface 30 (.int .i64 n)] w fun e w' => e = .returned (.bool true) ∧ Below w.heap.size w w' := by
  go_enter Tryd.func154, Tryd.ntmps154
  go_wp2_with fail
  go_ret
  exact ⟨rfl, Below.refl _ _⟩
set_option maxRecDepth 100000 in
set_option maxHeartbeats 2000000 in
theorem is89 (b : Nat) (n : Int) (w : World) (hc : w.cell? ⟨b, 0, none⟩ = some (.int .i64 n)) (he : ∀ w : World, (binOp .eql 37 (.iface 30 (.int .i64 n)) (.iface 30 (.int .i64 n))).run Tryd.prog w = .ok (.bool true) w) :
    Calls Tryd.prog 89 #[.iface 45 (.pointer (some ⟨b, 0, none⟩)), .iface 30 (.int .i64 n), .bool true] w fun e w' => e = .returned (.bool true) ∧ Below w.heap.size w w' := by
  have hO := Isf.other
  have hH := Isf.has
  have mI := Isf.methodIs
  have HC := Lib.hid hc
  have HE := Lib.hid he
  clear hc he
  go_enter Tryd.func89, Tryd.ntmps89
  go_wp2_with fail
  refine wp_loop_rounds 1 ?_
  rw [rounds_succ]
  go_wp2_with fail
  refine (faultIs b n _ HC.out HE.out).mono ?_
  rintro e w1 ⟨rfl, hb1⟩
  go_wp2_with fail
  go_ret
  exact ⟨rfl, hb1⟩
set_option maxRecDepth 100000 in
set_option maxHeartbeats 2000000 in
theorem is_hit (b : Nat) (n : Int) (w : World) (hc : w.cell? ⟨b, 0, none⟩ = some (.int .i64 n)) (he : ∀ w : World, (binOp .eql 37 (.iface 30 (.int .i64 n)) (.iface 30 (.int .i64 n))).run Tryd.prog w = .ok (.bool true) w) :
    Calls Tryd.prog 52 #[.iface 45 (.pointer (some ⟨b, 0, none⟩)), .iface 30 (.int .i64 n)] w fun e w' => e = .returned (.bool true) ∧ Below w.heap.size w w' := by
  have h8 := @run_callFunc_extern Tryd.prog 88 _ Extern.ReflectliteType.typeOf Tryd.func88 (by kernel_rfl) (by kernel_rfl) (by kernel_rfl) (by kernel_rfl)
  have h32 := @run_callFunc_extern Tryd.prog 174 _ (Extern.ReflectliteType.method fun t => do Rtype.noPackHeld "Comparable" t; pure (.bool (← typeInfo t).comparable)) Tryd.func174 (by kernel_rfl) (by kernel_rfl) (by kernel_rfl) (by kernel_rfl)
  have tT := Isf.typeOf
  have cT := Isf.comparable
  have mR := Isf.method
  have HC := Lib.hid hc
  have HE := Lib.hid he
  clear hc he
  go_enter Tryd.func52, Tryd.ntmps52
  go_wp2_with fail
  refine (is89 b n _ HC.out HE.out).mono ?_
  rintro e w1 ⟨rfl, hb1⟩
  go_wp2_with fail
  go_ret
  exact ⟨rfl, hb1⟩

theorem kc9 {w w' : World} (hb : Below w.heap.size w w') {a : Addr} {v : Value} (h : w.cell? a = some v) : w'.cell? a = some v := by
  rw [hb.cell (World.block_lt_of_cell? w _ h), h]
theorem two9 {W a b : World} (h : Below W.heap.size W a) (k : Below a.heap.size a b) : Below W.heap.size W b := h.trans (k.mono h.size)
theorem sameInts_nil (w : World) : Calls Tryd.prog 51 #[.slice none 0 0, .slice none 0 0] w fun e w' => e = .returned (.bool true) ∧ Below w.heap.size w w' := by
  go_enter Tryd.func51, Tryd.ntmps51
  go_wp2_with fail
  refine wp_loop_rounds 1 ?_
  rw [rounds_succ]
  go_wp2_with fail
  go_ret
  exact ⟨rfl, Below.refl _ _⟩
theorem is_none (w : World) : Calls Tryd.prog 19 #[.nilIface, .agg #[.int .i64 0, .int .i64 0, .slice none 0 0]] w fun e w' => e = .returned (.bool true) ∧ Below w.heap.size w w' := by
  go_enter Tryd.func19, Tryd.ntmps19
  go_wp2_with fail
  go_ret
  exact ⟨rfl, (Below.refl _ _).alloc (Nat.le_refl _) _⟩

/-- A fault of one number, with no place. -/
structure FaultAt (w : World) (b : Nat) (n : Int) : Prop where
  c0 : w.cell? ⟨b, 0, none⟩ = some (.int .i64 n)
  c1 : w.cell? ⟨b, 1, none⟩ = some (.int .i64 0)
  c2 : w.cell? ⟨b, 2, none⟩ = some (.slice none 0 0)
  c3 : w.cell? ⟨b, 3, none⟩ = some .nilIface
theorem FaultAt.later {w w1 : World} {b B : Nat} {n : Int} (h : FaultAt w b n) (hb : Below B w w1) (hB : b < B) : FaultAt w1 b n :=
  ⟨(hb.cell hB).trans h.c0, (hb.cell hB).trans h.c1, (hb.cell hB).trans h.c2, (hb.cell hB).trans h.c3⟩
theorem FaultAt.lt {w : World} {b : Nat} {n : Int} (h : FaultAt w b n) : b < w.heap.size := World.block_lt_of_cell? w _ h.c0
set_option maxRecDepth 100000 in
set_option maxHeartbeats 2000000 in
theorem is_one (b : Nat) (n : Int) (w : World) (hn : (n == 0) = false) (hf : FaultAt w b n) (hg : w.cell? ⟨0, 0, none⟩ = some (.iface 180 (.agg #[.pointer (some ⟨4, 37, none⟩)]))) (he : ∀ w : World, (binOp .eql 37 (.iface 30 (.int .i64 n)) (.iface 30 (.int .i64 n))).run Tryd.prog w = .ok (.bool true) w) :
    Calls Tryd.prog 19 #[.iface 45 (.pointer (some ⟨b, 0, none⟩)), .agg #[.int .i64 n, .int .i64 0, .slice none 0 0]] w fun e w' => e = .returned (.bool true) ∧ Below w.heap.size w w' := by
  have HF := Lib.hid hf
  have HE := Lib.hid he
  have hbl := hf.lt
  have h0l : 0 < w.heap.size := by omega
  have nn : (n == n) = true := by simp
  obtain ⟨W1, hW1⟩ : ∃ W1, W1 = (w.alloc (.cells #[.int .i64 n, .int .i64 0, .slice none 0 0] 44)).alloc (.cells #[.pointer none] 45) := ⟨_, rfl⟩
  have hB1 : Below w.heap.size w W1 := by rw [hW1]; exact ((Below.refl _ _).alloc (Nat.le_refl _) _).alloc (by simp) _
  have hs1 : W1.heap.size = w.heap.size + 1 + 1 := by rw [hW1]; simp
  have hgA : W1.cell? ⟨0, 0, none⟩ = some (.iface 180 (.agg #[.pointer (some ⟨4, 37, none⟩)])) := (hB1.cell h0l).trans hg
  have htA : W1.cell? ⟨w.heap.size + 1, 0, none⟩ = some (.pointer none) := by rw [hW1]; simp
  have hfA : W1.frozen? ⟨w.heap.size + 1, 0, none⟩ = false := by rw [hW1]; simp
  have x0 : W1.cell? ⟨w.heap.size, 0, none⟩ = some (.int .i64 n) := by rw [hW1]; simp
  have x1 : W1.cell? ⟨w.heap.size, 1, none⟩ = some (.int .i64 0) := by rw [hW1]; simp
  have x2 : W1.cell? ⟨w.heap.size, 2, none⟩ = some (.slice none 0 0) := by rw [hW1]; simp
  have HX := Lib.hid (And.intro hgA (And.intro htA (And.intro hfA (And.intro x0 (And.intro x1 x2)))))
  have HW := Lib.hid hW1
  clear hf hg he hgA htA hfA x0 x1 x2 hW1
  go_enter Tryd.func19, Tryd.ntmps19
  go_wp2_with fail
  rw [← HW.out]
  obtain ⟨hgA, htA, hfA, x0, x1, x2⟩ := HX.out
  refine (as_hit ⟨b, 0, none⟩ ⟨w.heap.size + 1, 0, none⟩ (.pointer none) _ hgA htA hfA).mono ?_
  rintro e w2 ⟨rfl, hw2⟩
  have hB2 : Below (w.heap.size + 1) W1 w2 := by
    rw [hw2]
    exact (((((Below.refl (w.heap.size + 1) W1).alloc (by omega) _).alloc (by simp; omega) _).alloc (by simp; omega) _).alloc (by simp; omega) _).setCell (Nat.le_refl _) _
  have hBw : Below w.heap.size w w2 := hB1.trans (hB2.mono (by omega))
  have c0 : w2.cell? ⟨w.heap.size + 1, 0, none⟩ = some (.pointer (some ⟨b, 0, none⟩)) := by
    rw [hw2]
    refine World.cell?_setCell_same (u := .pointer none) _ _ _ ?_
    have hA : ∀ (w' : World) (ob : Obj), w.heap.size + 1 < w'.heap.size → w'.cell? ⟨w.heap.size + 1, 0, none⟩ = some (.pointer none) → (w'.alloc ob).cell? ⟨w.heap.size + 1, 0, none⟩ = some (.pointer none) := fun w' ob h1 h2 => (World.cell?_alloc_lt _ _ ⟨w.heap.size + 1, 0, none⟩ h1).trans h2
    exact hA _ _ (by simp; omega) (hA _ _ (by simp; omega) (hA _ _ (by simp; omega) (hA _ _ (by omega) htA)))
  clear hw2 htA hfA hgA
  replace x0 := (hB2.cell (p := ⟨w.heap.size, 0, none⟩) (Nat.lt_succ_self _)).trans x0
  replace x1 := (hB2.cell (p := ⟨w.heap.size, 1, none⟩) (Nat.lt_succ_self _)).trans x1
  replace x2 := (hB2.cell (p := ⟨w.heap.size, 2, none⟩) (Nat.lt_succ_self _)).trans x2
  obtain ⟨f0, f1, f2, f3⟩ := HF.out.later hBw hbl
  have hb6 := (Below.refl w2.heap.size w2).drew
  have hbb := Below.refl w2.heap.size w2
  go_wp2_with fail
  go_region_held3 (fun w' => w'.cell? ⟨w.heap.size + 1, 0, none⟩ = some (.pointer (some ⟨b, 0, none⟩)) ∧ w'.cell? ⟨w.heap.size, 0, none⟩ = some (.int .i64 n) ∧ w'.cell? ⟨w.heap.size, 1, none⟩ = some (.int .i64 0) ∧ w'.cell? ⟨w.heap.size, 2, none⟩ = some (.slice none 0 0) ∧ w'.cell? ⟨b, 0, none⟩ = some (.int .i64 n) ∧ w'.cell? ⟨b, 1, none⟩ = some (.int .i64 0) ∧ w'.cell? ⟨b, 2, none⟩ = some (.slice none 0 0) ∧ Below w2.heap.size w2 w') (go_keep) (first
    | (go_at_call 51; refine (sameInts_nil _).mono ?_; rintro e w9 ⟨rfl, hb9⟩; have k0 := kc9 hb9 (a := ⟨w.heap.size + 1, 0, none⟩) (v := .pointer (some ⟨b, 0, none⟩)) (by assumption); have k1 := kc9 hb9 (a := ⟨w.heap.size, 0, none⟩) (v := .int .i64 n) (by assumption); have k2 := kc9 hb9 (a := ⟨w.heap.size, 1, none⟩) (v := .int .i64 0) (by assumption); have k3 := kc9 hb9 (a := ⟨w.heap.size, 2, none⟩) (v := .slice none 0 0) (by assumption); have k4 := kc9 hb9 (a := ⟨b, 0, none⟩) (v := .int .i64 n) (by assumption); have k5 := kc9 hb9 (a := ⟨b, 1, none⟩) (v := .int .i64 0) (by assumption); have k6 := kc9 hb9 (a := ⟨b, 2, none⟩) (v := .slice none 0 0) (by assumption); have kb := two9 (show Below w2.heap.size w2 _ from by assumption) hb9)
    | (go_at_call 52; refine (is_hit b n _ (by assumption) HE.out).mono ?_; rintro e w9 ⟨rfl, hb9⟩; have k0 := kc9 hb9 (a := ⟨w.heap.size + 1, 0, none⟩) (v := .pointer (some ⟨b, 0, none⟩)) (by assumption); have k1 := kc9 hb9 (a := ⟨w.heap.size, 0, none⟩) (v := .int .i64 n) (by assumption); have k2 := kc9 hb9 (a := ⟨w.heap.size, 1, none⟩) (v := .int .i64 0) (by assumption); have k3 := kc9 hb9 (a := ⟨w.heap.size, 2, none⟩) (v := .slice none 0 0) (by assumption); have k4 := kc9 hb9 (a := ⟨b, 0, none⟩) (v := .int .i64 n) (by assumption); have k5 := kc9 hb9 (a := ⟨b, 1, none⟩) (v := .int .i64 0) (by assumption); have k6 := kc9 hb9 (a := ⟨b, 2, none⟩) (v := .slice none 0 0) (by assumption); have kb := two9 (show Below w2.heap.size w2 _ from by assumption) hb9))
  go_wp2_with fail
  go_ret
  exact ⟨rfl, two9 hBw kb⟩
end Go.Proofs.YtcgphlilijeifaaDoor
