/-
  What can be asked of a value: AsNumber, AsRaw, AsList, Kind, Num, Bytes, Len, At: the contracts.
-/
import Derived.Test.YtcgphlilijeifaaDoorVTellB
namespace Go.Proofs.YtcgphlilijeifaaDoor.V
open Go.RowKit

theorem has_Number_truth (V : Value) (w : World) : (Instr.typeAssert (.iface 140 V) 33 106 true).run Tryd.prog w = .ok (.tuple #[.nilIface, .bool false]) w := run_typeAssert_lacksB Tryd.underlying106 (by kernel_rfl) (by kernel_rfl) V _ w
theorem has_Number_whole (V : Value) (w : World) : (Instr.typeAssert (.iface 142 V) 33 106 true).run Tryd.prog w = .ok (.tuple #[.iface 142 V, .bool true]) w := run_typeAssert_hasB Tryd.underlying106 (by kernel_rfl) V _ w
theorem has_Number_row (V : Value) (w : World) : (Instr.typeAssert (.iface 147 V) 33 106 true).run Tryd.prog w = .ok (.tuple #[.nilIface, .bool false]) w := run_typeAssert_lacksB Tryd.underlying106 (by kernel_rfl) (by kernel_rfl) V _ w
theorem has_Number_tuple (V : Value) (w : World) : (Instr.typeAssert (.iface 145 V) 33 106 true).run Tryd.prog w = .ok (.tuple #[.nilIface, .bool false]) w := run_typeAssert_lacksB Tryd.underlying106 (by kernel_rfl) (by kernel_rfl) V _ w
theorem has_Number_nil (w : World) : (Instr.typeAssert .nilIface 33 106 true).run Tryd.prog w = .ok (.tuple #[.nilIface, .bool false]) w := by kernel_rfl
theorem has_Raw_truth (V : Value) (w : World) : (Instr.typeAssert (.iface 140 V) 33 92 true).run Tryd.prog w = .ok (.tuple #[.nilIface, .bool false]) w := run_typeAssert_lacksB Tryd.underlying92 (by kernel_rfl) (by kernel_rfl) V _ w
theorem has_Raw_whole (V : Value) (w : World) : (Instr.typeAssert (.iface 142 V) 33 92 true).run Tryd.prog w = .ok (.tuple #[.nilIface, .bool false]) w := run_typeAssert_lacksB Tryd.underlying92 (by kernel_rfl) (by kernel_rfl) V _ w
theorem has_Raw_row (V : Value) (w : World) : (Instr.typeAssert (.iface 147 V) 33 92 true).run Tryd.prog w = .ok (.tuple #[.iface 147 V, .bool true]) w := run_typeAssert_hasB Tryd.underlying92 (by kernel_rfl) V _ w
theorem has_Raw_tuple (V : Value) (w : World) : (Instr.typeAssert (.iface 145 V) 33 92 true).run Tryd.prog w = .ok (.tuple #[.nilIface, .bool false]) w := run_typeAssert_lacksB Tryd.underlying92 (by kernel_rfl) (by kernel_rfl) V _ w
theorem has_Raw_nil (w : World) : (Instr.typeAssert .nilIface 33 92 true).run Tryd.prog w = .ok (.tuple #[.nilIface, .bool false]) w := by kernel_rfl
theorem has_List_truth (V : Value) (w : World) : (Instr.typeAssert (.iface 140 V) 33 85 true).run Tryd.prog w = .ok (.tuple #[.nilIface, .bool false]) w := run_typeAssert_lacksB Tryd.underlying85 (by kernel_rfl) (by kernel_rfl) V _ w
theorem has_List_whole (V : Value) (w : World) : (Instr.typeAssert (.iface 142 V) 33 85 true).run Tryd.prog w = .ok (.tuple #[.nilIface, .bool false]) w := run_typeAssert_lacksB Tryd.underlying85 (by kernel_rfl) (by kernel_rfl) V _ w
theorem has_List_row (V : Value) (w : World) : (Instr.typeAssert (.iface 147 V) 33 85 true).run Tryd.prog w = .ok (.tuple #[.nilIface, .bool false]) w := run_typeAssert_lacksB Tryd.underlying85 (by kernel_rfl) (by kernel_rfl) V _ w
theorem has_List_tuple (V : Value) (w : World) : (Instr.typeAssert (.iface 145 V) 33 85 true).run Tryd.prog w = .ok (.tuple #[.iface 145 V, .bool true]) w := run_typeAssert_hasB Tryd.underlying85 (by kernel_rfl) V _ w
theorem has_List_nil (w : World) : (Instr.typeAssert .nilIface 33 85 true).run Tryd.prog w = .ok (.tuple #[.nilIface, .bool false]) w := by kernel_rfl

/-- A value asked for as something. -/
def asked (t : Bool) (v : Value) : Value := if t then v else .nilIface

set_option maxHeartbeats 1000000 in
theorem asNumber_any (p : Pt) (v : Value) (w : World) {W : World} {lo hi : Nat} (hv : VI W lo hi p v) (hk : p.kind ≤ 7) (t : Bool) (ht : (p.kind == 2) = t) :
    Calls Tryd.prog 90 #[v] w fun e w' => e = .returned (.tuple #[asked t v, .bool t]) ∧ w = w' := by
  have f1 := has_Number_truth
  have f2 := has_Number_whole
  have f3 := has_Number_row
  have f4 := has_Number_tuple
  have f5 := has_Number_nil
  cases hv with
  | null _ h =>
    obtain rfl : t = false := by rw [← ht]; simp [h]
    clear ht hk h
    go_enter Tryd.func90, Tryd.ntmps90
    go_wp2_with fail
    go_ret2
    exact ⟨rfl, rfl⟩
  | truth _ h =>
    obtain rfl : t = false := by rw [← ht]; simp [h]
    clear ht hk h
    go_enter Tryd.func90, Tryd.ntmps90
    go_wp2_with fail
    go_ret2
    exact ⟨rfl, rfl⟩
  | whole _ h =>
    obtain rfl : t = true := by rw [← ht]; simp [h]
    clear ht hk h
    go_enter Tryd.func90, Tryd.ntmps90
    go_wp2_with fail
    go_ret2
    exact ⟨rfl, rfl⟩
  | row _ h0 h1 h2 h7 =>
    obtain rfl : t = false := by rw [← ht]; simp; omega
    clear ht hk h0 h1 h2 h7
    go_enter Tryd.func90, Tryd.ntmps90
    go_wp2_with fail
    go_ret2
    exact ⟨rfl, rfl⟩
  | tuple _ h a cap F hc cells deep =>
    obtain rfl : t = false := by rw [← ht]; simp [h]
    clear ht hk h cells deep hc
    go_enter Tryd.func90, Tryd.ntmps90
    go_wp2_with fail
    go_ret2
    exact ⟨rfl, rfl⟩
theorem AsNumber_any (p : Pt) (v : Value) (w : World) {W : World} {lo hi : Nat} (hv : VI W lo hi p v) (hk : p.kind ≤ 7) (t : Bool) (ht : (p.kind == 2) = t) :
    Calls Tryd.prog 53 #[v] w fun e w' => e = .returned (.tuple #[asked t v, .bool t]) ∧ w = w' := by
  have HV := Lib.hid hv
  have HT := Lib.hid ht
  clear ht hv
  go_enter Tryd.func53, Tryd.ntmps53
  go_wp2_with fail
  refine (asNumber_any p v _ HV.out hk t HT.out).mono ?_
  rintro e w1 ⟨rfl, rfl⟩
  go_wp2_with fail
  go_ret2
  exact ⟨rfl, rfl⟩

set_option maxHeartbeats 1000000 in
theorem asRaw_any (p : Pt) (v : Value) (w : World) {W : World} {lo hi : Nat} (hv : VI W lo hi p v) (hk : p.kind ≤ 7) (t : Bool) (ht : (rawB p) = t) :
    Calls Tryd.prog 83 #[v] w fun e w' => e = .returned (.tuple #[asked t v, .bool t]) ∧ w = w' := by
  have f1 := has_Raw_truth
  have f2 := has_Raw_whole
  have f3 := has_Raw_row
  have f4 := has_Raw_tuple
  have f5 := has_Raw_nil
  cases hv with
  | null _ h =>
    obtain rfl : t = false := by rw [← ht]; simp [rawB, h]
    clear ht hk h
    go_enter Tryd.func83, Tryd.ntmps83
    go_wp2_with fail
    go_ret2
    exact ⟨rfl, rfl⟩
  | truth _ h =>
    obtain rfl : t = false := by rw [← ht]; simp [rawB, h]
    clear ht hk h
    go_enter Tryd.func83, Tryd.ntmps83
    go_wp2_with fail
    go_ret2
    exact ⟨rfl, rfl⟩
  | whole _ h =>
    obtain rfl : t = false := by rw [← ht]; simp [rawB, h]
    clear ht hk h
    go_enter Tryd.func83, Tryd.ntmps83
    go_wp2_with fail
    go_ret2
    exact ⟨rfl, rfl⟩
  | row _ h0 h1 h2 h7 =>
    obtain rfl : t = true := by rw [← ht]; simp [rawB]; omega
    clear ht hk h0 h1 h2 h7
    go_enter Tryd.func83, Tryd.ntmps83
    go_wp2_with fail
    go_ret2
    exact ⟨rfl, rfl⟩
  | tuple _ h a cap F hc cells deep =>
    obtain rfl : t = false := by rw [← ht]; simp [rawB, h]
    clear ht hk h cells deep hc
    go_enter Tryd.func83, Tryd.ntmps83
    go_wp2_with fail
    go_ret2
    exact ⟨rfl, rfl⟩
theorem AsRaw_any (p : Pt) (v : Value) (w : World) {W : World} {lo hi : Nat} (hv : VI W lo hi p v) (hk : p.kind ≤ 7) (t : Bool) (ht : (rawB p) = t) :
    Calls Tryd.prog 43 #[v] w fun e w' => e = .returned (.tuple #[asked t v, .bool t]) ∧ w = w' := by
  have HV := Lib.hid hv
  have HT := Lib.hid ht
  clear ht hv
  go_enter Tryd.func43, Tryd.ntmps43
  go_wp2_with fail
  refine (asRaw_any p v _ HV.out hk t HT.out).mono ?_
  rintro e w1 ⟨rfl, rfl⟩
  go_wp2_with fail
  go_ret2
  exact ⟨rfl, rfl⟩

set_option maxHeartbeats 1000000 in
theorem asList_any (p : Pt) (v : Value) (w : World) {W : World} {lo hi : Nat} (hv : VI W lo hi p v) (hk : p.kind ≤ 7) (t : Bool) (ht : (p.kind == 7) = t) :
    Calls Tryd.prog 82 #[v] w fun e w' => e = .returned (.tuple #[asked t v, .bool t]) ∧ w = w' := by
  have f1 := has_List_truth
  have f2 := has_List_whole
  have f3 := has_List_row
  have f4 := has_List_tuple
  have f5 := has_List_nil
  cases hv with
  | null _ h =>
    obtain rfl : t = false := by rw [← ht]; simp [h]
    clear ht hk h
    go_enter Tryd.func82, Tryd.ntmps82
    go_wp2_with fail
    go_ret2
    exact ⟨rfl, rfl⟩
  | truth _ h =>
    obtain rfl : t = false := by rw [← ht]; simp [h]
    clear ht hk h
    go_enter Tryd.func82, Tryd.ntmps82
    go_wp2_with fail
    go_ret2
    exact ⟨rfl, rfl⟩
  | whole _ h =>
    obtain rfl : t = false := by rw [← ht]; simp [h]
    clear ht hk h
    go_enter Tryd.func82, Tryd.ntmps82
    go_wp2_with fail
    go_ret2
    exact ⟨rfl, rfl⟩
  | row _ h0 h1 h2 h7 =>
    obtain rfl : t = false := by rw [← ht]; simp; omega
    clear ht hk h0 h1 h2 h7
    go_enter Tryd.func82, Tryd.ntmps82
    go_wp2_with fail
    go_ret2
    exact ⟨rfl, rfl⟩
  | tuple _ h a cap F hc cells deep =>
    obtain rfl : t = true := by rw [← ht]; simp [h]
    clear ht hk h cells deep hc
    go_enter Tryd.func82, Tryd.ntmps82
    go_wp2_with fail
    go_ret2
    exact ⟨rfl, rfl⟩
theorem AsList_any (p : Pt) (v : Value) (w : World) {W : World} {lo hi : Nat} (hv : VI W lo hi p v) (hk : p.kind ≤ 7) (t : Bool) (ht : (p.kind == 7) = t) :
    Calls Tryd.prog 42 #[v] w fun e w' => e = .returned (.tuple #[asked t v, .bool t]) ∧ w = w' := by
  have HV := Lib.hid hv
  have HT := Lib.hid ht
  clear ht hv
  go_enter Tryd.func42, Tryd.ntmps42
  go_wp2_with fail
  refine (asList_any p v _ HV.out hk t HT.out).mono ?_
  rintro e w1 ⟨rfl, rfl⟩
  go_wp2_with fail
  go_ret2
  exact ⟨rfl, rfl⟩

theorem kind_truth (y : Bool) (w : World) : Calls Tryd.prog 156 #[.agg #[.bool y]] w fun e w' => e = .returned (.int .u8 1) ∧ Below w.heap.size w w' := by
  go_enter Tryd.func156, Tryd.ntmps156
  go_wp2_with fail
  go_ret
  exact ⟨rfl, (Below.refl _ _).alloc (Nat.le_refl _) _⟩
theorem kind_whole (b : Bool) (m : ByteArray) (w : World) : Calls Tryd.prog 158 #[.agg #[.bool b, .string m]] w fun e w' => e = .returned (.int .u8 2) ∧ Below w.heap.size w w' := by
  go_enter Tryd.func158, Tryd.ntmps158
  go_wp2_with fail
  go_ret
  exact ⟨rfl, (Below.refl _ _).alloc (Nat.le_refl _) _⟩
theorem kind_row (k : Nat) (r : ByteArray) (w : World) : Calls Tryd.prog 166 #[.agg #[.int .u8 k, .string r]] w fun e w' => e = .returned (.int .u8 k) ∧ Below w.heap.size w w' := by
  go_enter Tryd.func166, Tryd.ntmps166
  go_wp2_with fail
  go_ret
  exact ⟨rfl, (Below.refl _ _).alloc (Nat.le_refl _) _⟩
theorem kind_tuple (a : Option Addr) (n cap : Nat) (w : World) : Calls Tryd.prog 162 #[.agg #[.slice a n cap]] w fun e w' => e = .returned (.int .u8 7) ∧ Below w.heap.size w w' := by
  go_enter Tryd.func162, Tryd.ntmps162
  go_wp2_with fail
  go_ret
  exact ⟨rfl, (Below.refl _ _).alloc (Nat.le_refl _) _⟩
theorem bytes_row (k : Nat) (r : ByteArray) (w : World) : Calls Tryd.prog 165 #[.agg #[.int .u8 k, .string r]] w fun e w' => e = .returned (.string r) ∧ Below w.heap.size w w' := by
  go_enter Tryd.func165, Tryd.ntmps165
  go_wp2_with fail
  go_ret
  exact ⟨rfl, (Below.refl _ _).alloc (Nat.le_refl _) _⟩
theorem len_tuple (a : Option Addr) (n cap : Nat) (w : World) : Calls Tryd.prog 163 #[.agg #[.slice a n cap]] w fun e w' => e = .returned (.int .i64 n) ∧ Below w.heap.size w w' := by
  go_enter Tryd.func163, Tryd.ntmps163
  go_wp2_with fail
  go_ret
  exact ⟨rfl, (Below.refl _ _).alloc (Nat.le_refl _) _⟩
theorem num_whole (b : Bool) (m : ByteArray) (w : World) : Calls Tryd.prog 159 #[.agg #[.bool b, .string m]] w fun e w' => e = .returned (.agg #[.bool b, .string m]) ∧ Below w.heap.size w w' := by
  go_enter Tryd.func159, Tryd.ntmps159
  go_wp2_with fail
  exact bodyPost_ret (v := .agg #[.bool b, .string m]) (by simp [results, Tryd.results159, go_sem]) rfl ⟨rfl, ((Below.refl _ _).alloc (Nat.le_refl _) _).alloc (by simp) _⟩
theorem at_in (g n cap j : Nat) (u : Value) (w : World) (hn : n ≤ 9223372036854775807) (hj : j < n) (hc : w.cell? ⟨g, j, none⟩ = some u) :
    Calls Tryd.prog 161 #[.agg #[.slice (some ⟨g, 0, none⟩) n cap], .int .i64 j] w fun e w' => e = .returned u ∧ Below w.heap.size w w' := by
  have hlt : g < w.heap.size := World.block_lt_of_cell? w _ hc
  have q1 : decide ((n : Int) ≤ (j : Int)) = false := by simp; omega
  have q2 : decide (n ≤ j) = false := by simp; omega
  go_enter Tryd.func161, Tryd.ntmps161
  go_wp2_with fail
  go_ret
  exact ⟨rfl, (Below.refl _ _).alloc (Nat.le_refl _) _⟩
theorem at_out (a : Option Addr) (n cap : Nat) (i : Int) (w : World) (hi : i < 0 ∨ (n : Int) ≤ i) :
    Calls Tryd.prog 161 #[.agg #[.slice a n cap], .int .i64 i] w fun e w' => e = .returned .nilIface ∧ Below w.heap.size w w' := by
  by_cases h0 : i < 0
  · have q0 : decide (i < 0) = true := by simpa using h0
    clear hi
    go_enter Tryd.func161, Tryd.ntmps161
    go_wp2_with fail
    go_ret
    exact ⟨rfl, (Below.refl _ _).alloc (Nat.le_refl _) _⟩
  · have q0 : decide (i < 0) = false := by simpa using h0
    have q1 : decide ((n : Int) ≤ i) = true := by simp; omega
    clear hi
    go_enter Tryd.func161, Tryd.ntmps161
    go_wp2_with fail
    go_ret
    exact ⟨rfl, (Below.refl _ _).alloc (Nat.le_refl _) _⟩
end Go.Proofs.YtcgphlilijeifaaDoor.V
