/-
  What can be asked of a value: AsNumber, AsRaw, AsList, Kind, Num, Bytes, Len, At: the contracts.
-/
import Derived.Test.YtcgphlilijeifaaVTellB
namespace Go.Proofs.Ytcgphlilijeifaa.V
open Go.RowKit

theorem has_Number_truth (V : Value) (w : World) : (Instr.typeAssert (.iface 79 V) 31 67 true).run Try.prog w = .ok (.tuple #[.nilIface, .bool false]) w := run_typeAssert_lacksB Try.underlying67 (by kernel_rfl) (by kernel_rfl) V _ w
theorem has_Number_whole (V : Value) (w : World) : (Instr.typeAssert (.iface 81 V) 31 67 true).run Try.prog w = .ok (.tuple #[.iface 81 V, .bool true]) w := run_typeAssert_hasB Try.underlying67 (by kernel_rfl) V _ w
theorem has_Number_row (V : Value) (w : World) : (Instr.typeAssert (.iface 83 V) 31 67 true).run Try.prog w = .ok (.tuple #[.nilIface, .bool false]) w := run_typeAssert_lacksB Try.underlying67 (by kernel_rfl) (by kernel_rfl) V _ w
theorem has_Number_tuple (V : Value) (w : World) : (Instr.typeAssert (.iface 76 V) 31 67 true).run Try.prog w = .ok (.tuple #[.nilIface, .bool false]) w := run_typeAssert_lacksB Try.underlying67 (by kernel_rfl) (by kernel_rfl) V _ w
theorem has_Number_nil (w : World) : (Instr.typeAssert .nilIface 31 67 true).run Try.prog w = .ok (.tuple #[.nilIface, .bool false]) w := by kernel_rfl
theorem has_Raw_truth (V : Value) (w : World) : (Instr.typeAssert (.iface 79 V) 31 58 true).run Try.prog w = .ok (.tuple #[.nilIface, .bool false]) w := run_typeAssert_lacksB Try.underlying58 (by kernel_rfl) (by kernel_rfl) V _ w
theorem has_Raw_whole (V : Value) (w : World) : (Instr.typeAssert (.iface 81 V) 31 58 true).run Try.prog w = .ok (.tuple #[.nilIface, .bool false]) w := run_typeAssert_lacksB Try.underlying58 (by kernel_rfl) (by kernel_rfl) V _ w
theorem has_Raw_row (V : Value) (w : World) : (Instr.typeAssert (.iface 83 V) 31 58 true).run Try.prog w = .ok (.tuple #[.iface 83 V, .bool true]) w := run_typeAssert_hasB Try.underlying58 (by kernel_rfl) V _ w
theorem has_Raw_tuple (V : Value) (w : World) : (Instr.typeAssert (.iface 76 V) 31 58 true).run Try.prog w = .ok (.tuple #[.nilIface, .bool false]) w := run_typeAssert_lacksB Try.underlying58 (by kernel_rfl) (by kernel_rfl) V _ w
theorem has_Raw_nil (w : World) : (Instr.typeAssert .nilIface 31 58 true).run Try.prog w = .ok (.tuple #[.nilIface, .bool false]) w := by kernel_rfl
theorem has_List_truth (V : Value) (w : World) : (Instr.typeAssert (.iface 79 V) 31 44 true).run Try.prog w = .ok (.tuple #[.nilIface, .bool false]) w := run_typeAssert_lacksB Try.underlying44 (by kernel_rfl) (by kernel_rfl) V _ w
theorem has_List_whole (V : Value) (w : World) : (Instr.typeAssert (.iface 81 V) 31 44 true).run Try.prog w = .ok (.tuple #[.nilIface, .bool false]) w := run_typeAssert_lacksB Try.underlying44 (by kernel_rfl) (by kernel_rfl) V _ w
theorem has_List_row (V : Value) (w : World) : (Instr.typeAssert (.iface 83 V) 31 44 true).run Try.prog w = .ok (.tuple #[.nilIface, .bool false]) w := run_typeAssert_lacksB Try.underlying44 (by kernel_rfl) (by kernel_rfl) V _ w
theorem has_List_tuple (V : Value) (w : World) : (Instr.typeAssert (.iface 76 V) 31 44 true).run Try.prog w = .ok (.tuple #[.iface 76 V, .bool true]) w := run_typeAssert_hasB Try.underlying44 (by kernel_rfl) V _ w
theorem has_List_nil (w : World) : (Instr.typeAssert .nilIface 31 44 true).run Try.prog w = .ok (.tuple #[.nilIface, .bool false]) w := by kernel_rfl

/-- A value asked for as something. -/
def asked (t : Bool) (v : Value) : Value := if t then v else .nilIface

set_option maxHeartbeats 1000000 in
theorem asNumber_any (p : Pt) (v : Value) (w : World) {W : World} {lo hi : Nat} (hv : VI W lo hi p v) (hk : p.kind ≤ 7) (t : Bool) (ht : (p.kind == 2) = t) :
    Calls Try.prog 40 #[v] w fun e w' => e = .returned (.tuple #[asked t v, .bool t]) ∧ w = w' := by
  have f1 := has_Number_truth
  have f2 := has_Number_whole
  have f3 := has_Number_row
  have f4 := has_Number_tuple
  have f5 := has_Number_nil
  cases hv with
  | null _ h =>
    obtain rfl : t = false := by rw [← ht]; simp [h]
    clear ht hk h
    go_enter Try.func40, Try.ntmps40
    go_wp2_with fail
    go_ret2
    exact ⟨rfl, rfl⟩
  | truth _ h =>
    obtain rfl : t = false := by rw [← ht]; simp [h]
    clear ht hk h
    go_enter Try.func40, Try.ntmps40
    go_wp2_with fail
    go_ret2
    exact ⟨rfl, rfl⟩
  | whole _ h =>
    obtain rfl : t = true := by rw [← ht]; simp [h]
    clear ht hk h
    go_enter Try.func40, Try.ntmps40
    go_wp2_with fail
    go_ret2
    exact ⟨rfl, rfl⟩
  | row _ h0 h1 h2 h7 =>
    obtain rfl : t = false := by rw [← ht]; simp; omega
    clear ht hk h0 h1 h2 h7
    go_enter Try.func40, Try.ntmps40
    go_wp2_with fail
    go_ret2
    exact ⟨rfl, rfl⟩
  | tuple _ h a cap F hc cells deep =>
    obtain rfl : t = false := by rw [← ht]; simp [h]
    clear ht hk h cells deep hc
    go_enter Try.func40, Try.ntmps40
    go_wp2_with fail
    go_ret2
    exact ⟨rfl, rfl⟩
theorem AsNumber_any (p : Pt) (v : Value) (w : World) {W : World} {lo hi : Nat} (hv : VI W lo hi p v) (hk : p.kind ≤ 7) (t : Bool) (ht : (p.kind == 2) = t) :
    Calls Try.prog 28 #[v] w fun e w' => e = .returned (.tuple #[asked t v, .bool t]) ∧ w = w' := by
  have HV := Lib.hid hv
  have HT := Lib.hid ht
  clear ht hv
  go_enter Try.func28, Try.ntmps28
  go_wp2_with fail
  refine (asNumber_any p v _ HV.out hk t HT.out).mono ?_
  rintro e w1 ⟨rfl, rfl⟩
  go_wp2_with fail
  go_ret2
  exact ⟨rfl, rfl⟩

set_option maxHeartbeats 1000000 in
theorem asRaw_any (p : Pt) (v : Value) (w : World) {W : World} {lo hi : Nat} (hv : VI W lo hi p v) (hk : p.kind ≤ 7) (t : Bool) (ht : (rawB p) = t) :
    Calls Try.prog 38 #[v] w fun e w' => e = .returned (.tuple #[asked t v, .bool t]) ∧ w = w' := by
  have f1 := has_Raw_truth
  have f2 := has_Raw_whole
  have f3 := has_Raw_row
  have f4 := has_Raw_tuple
  have f5 := has_Raw_nil
  cases hv with
  | null _ h =>
    obtain rfl : t = false := by rw [← ht]; simp [rawB, h]
    clear ht hk h
    go_enter Try.func38, Try.ntmps38
    go_wp2_with fail
    go_ret2
    exact ⟨rfl, rfl⟩
  | truth _ h =>
    obtain rfl : t = false := by rw [← ht]; simp [rawB, h]
    clear ht hk h
    go_enter Try.func38, Try.ntmps38
    go_wp2_with fail
    go_ret2
    exact ⟨rfl, rfl⟩
  | whole _ h =>
    obtain rfl : t = false := by rw [← ht]; simp [rawB, h]
    clear ht hk h
    go_enter Try.func38, Try.ntmps38
    go_wp2_with fail
    go_ret2
    exact ⟨rfl, rfl⟩
  | row _ h0 h1 h2 h7 =>
    obtain rfl : t = true := by rw [← ht]; simp [rawB]; omega
    clear ht hk h0 h1 h2 h7
    go_enter Try.func38, Try.ntmps38
    go_wp2_with fail
    go_ret2
    exact ⟨rfl, rfl⟩
  | tuple _ h a cap F hc cells deep =>
    obtain rfl : t = false := by rw [← ht]; simp [rawB, h]
    clear ht hk h cells deep hc
    go_enter Try.func38, Try.ntmps38
    go_wp2_with fail
    go_ret2
    exact ⟨rfl, rfl⟩
theorem AsRaw_any (p : Pt) (v : Value) (w : World) {W : World} {lo hi : Nat} (hv : VI W lo hi p v) (hk : p.kind ≤ 7) (t : Bool) (ht : (rawB p) = t) :
    Calls Try.prog 21 #[v] w fun e w' => e = .returned (.tuple #[asked t v, .bool t]) ∧ w = w' := by
  have HV := Lib.hid hv
  have HT := Lib.hid ht
  clear ht hv
  go_enter Try.func21, Try.ntmps21
  go_wp2_with fail
  refine (asRaw_any p v _ HV.out hk t HT.out).mono ?_
  rintro e w1 ⟨rfl, rfl⟩
  go_wp2_with fail
  go_ret2
  exact ⟨rfl, rfl⟩

set_option maxHeartbeats 1000000 in
theorem asList_any (p : Pt) (v : Value) (w : World) {W : World} {lo hi : Nat} (hv : VI W lo hi p v) (hk : p.kind ≤ 7) (t : Bool) (ht : (p.kind == 7) = t) :
    Calls Try.prog 36 #[v] w fun e w' => e = .returned (.tuple #[asked t v, .bool t]) ∧ w = w' := by
  have f1 := has_List_truth
  have f2 := has_List_whole
  have f3 := has_List_row
  have f4 := has_List_tuple
  have f5 := has_List_nil
  cases hv with
  | null _ h =>
    obtain rfl : t = false := by rw [← ht]; simp [h]
    clear ht hk h
    go_enter Try.func36, Try.ntmps36
    go_wp2_with fail
    go_ret2
    exact ⟨rfl, rfl⟩
  | truth _ h =>
    obtain rfl : t = false := by rw [← ht]; simp [h]
    clear ht hk h
    go_enter Try.func36, Try.ntmps36
    go_wp2_with fail
    go_ret2
    exact ⟨rfl, rfl⟩
  | whole _ h =>
    obtain rfl : t = false := by rw [← ht]; simp [h]
    clear ht hk h
    go_enter Try.func36, Try.ntmps36
    go_wp2_with fail
    go_ret2
    exact ⟨rfl, rfl⟩
  | row _ h0 h1 h2 h7 =>
    obtain rfl : t = false := by rw [← ht]; simp; omega
    clear ht hk h0 h1 h2 h7
    go_enter Try.func36, Try.ntmps36
    go_wp2_with fail
    go_ret2
    exact ⟨rfl, rfl⟩
  | tuple _ h a cap F hc cells deep =>
    obtain rfl : t = true := by rw [← ht]; simp [h]
    clear ht hk h cells deep hc
    go_enter Try.func36, Try.ntmps36
    go_wp2_with fail
    go_ret2
    exact ⟨rfl, rfl⟩
theorem AsList_any (p : Pt) (v : Value) (w : World) {W : World} {lo hi : Nat} (hv : VI W lo hi p v) (hk : p.kind ≤ 7) (t : Bool) (ht : (p.kind == 7) = t) :
    Calls Try.prog 19 #[v] w fun e w' => e = .returned (.tuple #[asked t v, .bool t]) ∧ w = w' := by
  have HV := Lib.hid hv
  have HT := Lib.hid ht
  clear ht hv
  go_enter Try.func19, Try.ntmps19
  go_wp2_with fail
  refine (asList_any p v _ HV.out hk t HT.out).mono ?_
  rintro e w1 ⟨rfl, rfl⟩
  go_wp2_with fail
  go_ret2
  exact ⟨rfl, rfl⟩

theorem kind_truth (y : Bool) (w : World) : Calls Try.prog 64 #[.agg #[.bool y]] w fun e w' => e = .returned (.int .u8 1) ∧ Below w.heap.size w w' := by
  go_enter Try.func64, Try.ntmps64
  go_wp2_with fail
  go_ret
  exact ⟨rfl, (Below.refl _ _).alloc (Nat.le_refl _) _⟩
theorem kind_whole (b : Bool) (m : ByteArray) (w : World) : Calls Try.prog 66 #[.agg #[.bool b, .string m]] w fun e w' => e = .returned (.int .u8 2) ∧ Below w.heap.size w w' := by
  go_enter Try.func66, Try.ntmps66
  go_wp2_with fail
  go_ret
  exact ⟨rfl, (Below.refl _ _).alloc (Nat.le_refl _) _⟩
theorem kind_row (k : Nat) (r : ByteArray) (w : World) : Calls Try.prog 70 #[.agg #[.int .u8 k, .string r]] w fun e w' => e = .returned (.int .u8 k) ∧ Below w.heap.size w w' := by
  go_enter Try.func70, Try.ntmps70
  go_wp2_with fail
  go_ret
  exact ⟨rfl, (Below.refl _ _).alloc (Nat.le_refl _) _⟩
theorem kind_tuple (a : Option Addr) (n cap : Nat) (w : World) : Calls Try.prog 61 #[.agg #[.slice a n cap]] w fun e w' => e = .returned (.int .u8 7) ∧ Below w.heap.size w w' := by
  go_enter Try.func61, Try.ntmps61
  go_wp2_with fail
  go_ret
  exact ⟨rfl, (Below.refl _ _).alloc (Nat.le_refl _) _⟩
theorem bytes_row (k : Nat) (r : ByteArray) (w : World) : Calls Try.prog 69 #[.agg #[.int .u8 k, .string r]] w fun e w' => e = .returned (.string r) ∧ Below w.heap.size w w' := by
  go_enter Try.func69, Try.ntmps69
  go_wp2_with fail
  go_ret
  exact ⟨rfl, (Below.refl _ _).alloc (Nat.le_refl _) _⟩
theorem len_tuple (a : Option Addr) (n cap : Nat) (w : World) : Calls Try.prog 62 #[.agg #[.slice a n cap]] w fun e w' => e = .returned (.int .i64 n) ∧ Below w.heap.size w w' := by
  go_enter Try.func62, Try.ntmps62
  go_wp2_with fail
  go_ret
  exact ⟨rfl, (Below.refl _ _).alloc (Nat.le_refl _) _⟩
theorem num_whole (b : Bool) (m : ByteArray) (w : World) : Calls Try.prog 67 #[.agg #[.bool b, .string m]] w fun e w' => e = .returned (.agg #[.bool b, .string m]) ∧ Below w.heap.size w w' := by
  go_enter Try.func67, Try.ntmps67
  go_wp2_with fail
  exact bodyPost_ret (v := .agg #[.bool b, .string m]) (by simp [results, Try.results67, go_sem]) rfl ⟨rfl, ((Below.refl _ _).alloc (Nat.le_refl _) _).alloc (by simp) _⟩
theorem at_in (g n cap j : Nat) (u : Value) (w : World) (hn : n ≤ 9223372036854775807) (hj : j < n) (hc : w.cell? ⟨g, j, none⟩ = some u) :
    Calls Try.prog 60 #[.agg #[.slice (some ⟨g, 0, none⟩) n cap], .int .i64 j] w fun e w' => e = .returned u ∧ Below w.heap.size w w' := by
  have hlt : g < w.heap.size := World.block_lt_of_cell? w _ hc
  have q1 : decide ((n : Int) ≤ (j : Int)) = false := by simp; omega
  have q2 : decide (n ≤ j) = false := by simp; omega
  go_enter Try.func60, Try.ntmps60
  go_wp2_with fail
  go_ret
  exact ⟨rfl, (Below.refl _ _).alloc (Nat.le_refl _) _⟩
theorem at_out (a : Option Addr) (n cap : Nat) (i : Int) (w : World) (hi : i < 0 ∨ (n : Int) ≤ i) :
    Calls Try.prog 60 #[.agg #[.slice a n cap], .int .i64 i] w fun e w' => e = .returned .nilIface ∧ Below w.heap.size w w' := by
  by_cases h0 : i < 0
  · have q0 : decide (i < 0) = true := by simpa using h0
    clear hi
    go_enter Try.func60, Try.ntmps60
    go_wp2_with fail
    go_ret
    exact ⟨rfl, (Below.refl _ _).alloc (Nat.le_refl _) _⟩
  · have q0 : decide (i < 0) = false := by simpa using h0
    have q1 : decide ((n : Int) ≤ i) = true := by simp; omega
    clear hi
    go_enter Try.func60, Try.ntmps60
    go_wp2_with fail
    go_ret
    exact ⟨rfl, (Below.refl _ _).alloc (Nat.le_refl _) _⟩
end Go.Proofs.Ytcgphlilijeifaa.V
