/-
  The program's Same, of two values of one kind; of any two.
-/
import Derived.Test.YtcgphlilijeifaaDoorVSameV
namespace Go.Proofs.YtcgphlilijeifaaDoor.V
open Go.RowKit

theorem is_truth_truth (V : Value) (w : World) : (Instr.typeAssert (.iface 140 V) 33 140 true).run Tryd.prog w = .ok (.tuple #[V, .bool true]) w := by kernel_rfl
theorem is_truth_whole (V : Value) (w : World) : (Instr.typeAssert (.iface 142 V) 33 140 true).run Tryd.prog w = .ok (.tuple #[.agg #[.bool false], .bool false]) w := by kernel_rfl
theorem is_truth_row (V : Value) (w : World) : (Instr.typeAssert (.iface 147 V) 33 140 true).run Tryd.prog w = .ok (.tuple #[.agg #[.bool false], .bool false]) w := by kernel_rfl
theorem is_truth_tuple (V : Value) (w : World) : (Instr.typeAssert (.iface 145 V) 33 140 true).run Tryd.prog w = .ok (.tuple #[.agg #[.bool false], .bool false]) w := by kernel_rfl

set_option maxRecDepth 100000 in
set_option maxHeartbeats 2000000 in
theorem samev_truth (x y : Bool) (w : World) :
    Calls Tryd.prog 78 #[.iface 140 (.agg #[.bool x]), .iface 140 (.agg #[.bool y])] w fun e w' => e = .returned (.bool (x == y)) ∧ Below w.heap.size w w' := by
  have f1 := is_truth_truth
  have m1 : ∀ w : World, (method 338 140 (.agg #[.bool x]) "Kind").run Tryd.prog w = .ok (156, .agg #[.bool x]) w := fun _ => by kernel_rfl
  have m2 : ∀ w : World, (method 338 140 (.agg #[.bool y]) "Kind").run Tryd.prog w = .ok (156, .agg #[.bool y]) w := fun _ => by kernel_rfl
  have m3 : ∀ w : World, (method 338 140 (.agg #[.bool y]) "Part").run Tryd.prog w = .ok (157, .agg #[.bool y]) w := fun _ => by kernel_rfl
  have fd : ∀ w : World, (Instr.field 27 (.agg #[.int .u8 1, .bool y, .bool false, .string ⟨#[]⟩, .string ⟨#[]⟩, .slice none 0 0]) 1).run Tryd.prog w = .ok (.bool y) w := fun _ => by kernel_rfl
  go_enter Tryd.func78, Tryd.ntmps78
  go_wp2_with fail
  refine (kind_truth _ _).mono ?_
  rintro e w1 ⟨rfl, hb1⟩
  go_wp2_with fail
  refine (kind_truth _ _).mono ?_
  rintro e w2 ⟨rfl, hb2⟩
  go_wp2_with fail
  have hB : Below w.heap.size w w2 := two hb1 hb2
  have hBa := hB.alloc hB.size (.cells #[.bool x] 140)
  have hc : (w2.alloc (.cells #[.bool x] 140)).cell? ⟨w2.heap.size, 0, none⟩ = some (.bool x) := by simp
  obtain ⟨W3, hW3⟩ : ∃ W3, W3 = w2.alloc (.cells #[.bool x] 140) := ⟨_, rfl⟩
  rw [← hW3] at hBa hc ⊢
  have hBd := hBa.drew
  clear hW3
  go_region_held3 (fun w' => w'.cell? ⟨w2.heap.size, 0, none⟩ = some (.bool x) ∧ Below w.heap.size w w') (go_keep) (first
    | (go_at_call 157; refine (part_truth y _).mono ?_; rintro e w4 ⟨rfl, hb4⟩; have k1 := keeps hb4 (p := ⟨w2.heap.size, 0, none⟩) (v := .bool x) (by assumption); have k2 := two (by assumption) hb4))
  go_wp2_with fail
  go_ret
  exact ⟨rfl, by assumption⟩
set_option maxRecDepth 100000 in
set_option maxHeartbeats 2000000 in
theorem samev_whole (x y : Bool) (a b : ByteArray) (w : World) (E : Bool) (hE : (x == y && a.toList == b.toList) = E) :
    Calls Tryd.prog 78 #[.iface 142 (.agg #[.bool x, .string a]), .iface 142 (.agg #[.bool y, .string b])] w fun e w' => e = .returned (.bool E) ∧ Below w.heap.size w w' := by
  have f1 := is_truth_whole
  have f2 := has_Number_whole
  have m1 : ∀ w : World, (method 338 142 (.agg #[.bool x, .string a]) "Kind").run Tryd.prog w = .ok (158, .agg #[.bool x, .string a]) w := fun _ => by kernel_rfl
  have m2 : ∀ w : World, (method 338 142 (.agg #[.bool y, .string b]) "Kind").run Tryd.prog w = .ok (158, .agg #[.bool y, .string b]) w := fun _ => by kernel_rfl
  have m3 : ∀ w : World, (method 338 142 (.agg #[.bool x, .string a]) "Num").run Tryd.prog w = .ok (159, .agg #[.bool x, .string a]) w := fun _ => by kernel_rfl
  have m4 : ∀ w : World, (method 338 142 (.agg #[.bool y, .string b]) "Num").run Tryd.prog w = .ok (159, .agg #[.bool y, .string b]) w := fun _ => by kernel_rfl
  have h24 := eql_num x y a b E hE
  clear hE
  go_enter Tryd.func78, Tryd.ntmps78
  go_wp2_with fail
  refine (kind_whole _ _ _).mono ?_
  rintro e w1 ⟨rfl, hb1⟩
  go_wp2_with fail
  refine (kind_whole _ _ _).mono ?_
  rintro e w2 ⟨rfl, hb2⟩
  go_wp2_with fail
  refine (num_whole _ _ _).mono ?_
  rintro e w3 ⟨rfl, hb3⟩
  go_wp2_with fail
  refine (num_whole _ _ _).mono ?_
  rintro e w4 ⟨rfl, hb4⟩
  go_wp2_with fail
  go_ret
  exact ⟨rfl, two (two (two hb1 hb2) hb3) hb4⟩
set_option maxRecDepth 100000 in
set_option maxHeartbeats 2000000 in
theorem samev_row (k : Nat) (a b : ByteArray) (w : World) (E : Bool) (hE : (a.toList == b.toList) = E) :
    Calls Tryd.prog 78 #[.iface 147 (.agg #[.int .u8 k, .string a]), .iface 147 (.agg #[.int .u8 k, .string b])] w fun e w' => e = .returned (.bool E) ∧ Below w.heap.size w w' := by
  have f1 := is_truth_row
  have f2 := has_Number_row
  have f3 := has_Raw_row
  have q0 : ((k : Int) != (k : Int)) = false := by simp
  have m1 : ∀ w : World, (method 338 147 (.agg #[.int .u8 k, .string a]) "Kind").run Tryd.prog w = .ok (166, .agg #[.int .u8 k, .string a]) w := fun _ => by kernel_rfl
  have m2 : ∀ w : World, (method 338 147 (.agg #[.int .u8 k, .string b]) "Kind").run Tryd.prog w = .ok (166, .agg #[.int .u8 k, .string b]) w := fun _ => by kernel_rfl
  have m3 : ∀ w : World, (method 338 147 (.agg #[.int .u8 k, .string a]) "Bytes").run Tryd.prog w = .ok (165, .agg #[.int .u8 k, .string a]) w := fun _ => by kernel_rfl
  have m4 : ∀ w : World, (method 338 147 (.agg #[.int .u8 k, .string b]) "Bytes").run Tryd.prog w = .ok (165, .agg #[.int .u8 k, .string b]) w := fun _ => by kernel_rfl
  go_enter Tryd.func78, Tryd.ntmps78
  go_wp2_with fail
  refine (kind_row _ _ _).mono ?_
  rintro e w1 ⟨rfl, hb1⟩
  go_wp2_with fail
  refine (kind_row _ _ _).mono ?_
  rintro e w2 ⟨rfl, hb2⟩
  go_wp2_with fail
  refine (bytes_row _ _ _).mono ?_
  rintro e w3 ⟨rfl, hb3⟩
  go_wp2_with fail
  refine (bytes_row _ _ _).mono ?_
  rintro e w4 ⟨rfl, hb4⟩
  go_wp2_with fail
  go_ret
  exact ⟨rfl, two (two (two hb1 hb2) hb3) hb4⟩
end Go.Proofs.YtcgphlilijeifaaDoor.V
