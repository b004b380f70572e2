/-
  The contracts of Take's deferred closure: behind a panic at a place, and idle.
-/
import Derived.Test.YtcgphlilijeifaaDoorSize
import Derived.Defers
import Derived.Recover
namespace Go.Proofs.YtcgphlilijeifaaDoor
open Go.RowKit

/-- Out at the body's end. -/
def Ends (R : World → Prop) (e : Exit) (a : Act) (w : World) : Prop := e = .normal ∧ a.defers = [] ∧ R w

theorem catch_idle (p q r : Addr) (w : World) :
    CallsD Tryd.prog 58 #[.pointer (some p), .pointer (some q), .pointer (some r)] .returning w fun e u' w' => e = .returned (.tuple #[]) ∧ u' = .returning ∧ w' = w := by
  refine callsD_of_wpS Tryd.func58 rfl fun c₀ cs hu => ?_
  apply wpS_seq
  apply wpS_region
  simp [wpOpsS, go_sem, recoverD, hu, Tryd.ntmps58, Exit.thenS]
  rw [show Array.replicate 17 undef = #[undef, undef, undef, undef, undef, undef, undef, undef, undef, undef, undef, undef, undef, undef, undef, undef, undef] from rfl]
  simp
  refine wpS_of_wp (Code.wp_mono (fun e a' w' (h : Ends (fun w' => w' = w) e a' w') => ?_) ?_)
  · obtain ⟨rfl, hd, rfl⟩ := h
    simp [bodyPostS, results, Tryd.results58, hd]
    cases c₀
    simp_all
  have hneq : ∀ w : World, (binOp BinOp.neq 20 .nilIface .nilIface).run Tryd.prog w = .ok (.bool false) w := fun _ => by kernel_rfl
  go_wp2_with fail
  exact ⟨rfl, rfl, rfl⟩

set_option maxRecDepth 100000 in
theorem catch_bad (g : Nat) (x : Int) (y : Bool) (t : ByteArray) (z u : Int) (w : World) (c0 : w.cell? ⟨g, 0, none⟩ = some (.bool y)) (c1 : w.cell? ⟨g, 1, none⟩ = some (.string t))
    (c2 : w.cell? ⟨g + 1, 0, none⟩ = some (.int .i64 z)) (c3 : w.cell? ⟨g + 2, 0, none⟩ = some (.int .i64 u))
    (z0 : w.frozen? ⟨g, 0, none⟩ = false) (z1 : w.frozen? ⟨g, 1, none⟩ = false) (z2 : w.frozen? ⟨g + 1, 0, none⟩ = false) (z3 : w.frozen? ⟨g + 2, 0, none⟩ = false) :
    CallsD Tryd.prog 58 #[.pointer (some ⟨g, 0, none⟩), .pointer (some ⟨g + 1, 0, none⟩), .pointer (some ⟨g + 2, 0, none⟩)] (.panicking [{ v := .iface 116 (.agg #[.int .i64 x]), recovered := false }]) w fun e u' w' =>
      e = .returned (.tuple #[]) ∧ u' = .panicking [{ v := .iface 116 (.agg #[.int .i64 x]), recovered := true }] ∧
        w'.cell? ⟨g, 0, none⟩ = some (.bool false) ∧ w'.cell? ⟨g, 1, none⟩ = some (.string ⟨#[]⟩) ∧ w'.cell? ⟨g + 1, 0, none⟩ = some (.int .i64 x) ∧ w'.cell? ⟨g + 2, 0, none⟩ = some (.int .i64 20) ∧ Below g w w' := by
  have k2 : g + 2 < w.heap.size := World.block_lt_of_cell? w _ c3
  have k1 : g + 1 < w.heap.size := by omega
  have k0 : g < w.heap.size := by omega
  refine callsD_of_wpS Tryd.func58 rfl fun c₀ cs hu => ?_
  apply wpS_seq
  apply wpS_region
  simp [wpOpsS, go_sem, recoverD, hu, Tryd.ntmps58, Exit.thenS]
  rw [show Array.replicate 17 undef = #[undef, undef, undef, undef, undef, undef, undef, undef, undef, undef, undef, undef, undef, undef, undef, undef, undef] from rfl]
  simp
  refine wpS_of_wp (Code.wp_mono (fun e a' w' (h : Ends (fun w' => w'.cell? ⟨g, 0, none⟩ = some (.bool false) ∧ w'.cell? ⟨g, 1, none⟩ = some (.string ⟨#[]⟩) ∧ w'.cell? ⟨g + 1, 0, none⟩ = some (.int .i64 x) ∧ w'.cell? ⟨g + 2, 0, none⟩ = some (.int .i64 20) ∧ Below g w w') e a' w') => ?_) ?_)
  · obtain ⟨rfl, hd, h⟩ := h
    simp [bodyPostS, results, Tryd.results58, hd, h]
  have hneq : ∀ w : World, (binOp BinOp.neq 20 (.iface 116 (.agg #[.int .i64 x])) .nilIface).run Tryd.prog w = .ok (.bool true) w := fun _ => by kernel_rfl
  have hta : ∀ (v : Value) (w : World), (Instr.typeAssert (.iface 116 v) 20 116 true).run Tryd.prog w = .ok (.tuple #[v, .bool true]) w := fun _ _ => by kernel_rfl
  have hnot : ∀ (x : Bool) (w : World), (Op.unary .not (.bool x)).run Tryd.prog w = .ok (.bool (!x)) w := fun _ _ => rfl
  go_wp2_with fail
  go_region
  have hb : Below g w ((((w.setCell ⟨g, 0, none⟩ (.bool false)).setCell ⟨g, 1, none⟩ (.string ⟨#[]⟩)).setCell ⟨g + 1, 0, none⟩ (.int .i64 x)).setCell ⟨g + 2, 0, none⟩ (.int .i64 20)) :=
    ((((Below.refl g w).setCell (Nat.le_refl g) _).setCell (Nat.le_refl g) _).setCell (Nat.le_succ g) _).setCell (by simp) _
  exact ⟨rfl, rfl, by simp [go_sem, c0, k0], by simp [go_sem, c1, k0], by simp [go_sem, c2, k1], by simp [go_sem, c3, k2], (hb.alloc (by simp [World.setCell]; omega) _).drew⟩
end Go.Proofs.YtcgphlilijeifaaDoor
