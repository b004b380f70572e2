import Derived.Deep.RegionHeld3
import Derived.Test.YtcgphlilijeifaaDoorLitPrintsG13
section
/-
  The program's Same, of two values: its contract.
-/
namespace Go.Proofs.YtcgphlilijeifaaDoor.V
open Go.RowKit

/-- The value's own Kind. -/
theorem VI.kindOf {w : World} {lo hi : Nat} {p : Pt} {v : Value} (h : VI w lo hi p v) (h0 : p.kind ≠ 0) :
    ∃ (T : TypeId) (V : Value) (f : FuncId), v = .iface T V ∧ (∀ w : World, (method 338 T V "Kind").run Tryd.prog w = .ok (f, V) w) ∧ (∀ (args : Array Value) (w : World), (callFunc f args).run Tryd.prog w = .ok (.enter f args) w) ∧ ∀ w : World, Calls Tryd.prog f #[V] w fun e w' => e = .returned (.int .u8 p.kind) ∧ Below w.heap.size w w' := by
  cases h with
  | null _ h => exact absurd h h0
  | truth _ h => exact ⟨_, _, 156, rfl, fun _ => by kernel_rfl, fun _ _ => by kernel_rfl, fun w => by rw [h]; exact kind_truth _ w⟩
  | whole _ h => exact ⟨_, _, 158, rfl, fun _ => by kernel_rfl, fun _ _ => by kernel_rfl, fun w => by rw [h]; exact kind_whole _ _ w⟩
  | row _ _ _ _ _ => exact ⟨_, _, 166, rfl, fun _ => by kernel_rfl, fun _ _ => by kernel_rfl, fun w => kind_row _ _ w⟩
  | tuple _ h a cap _ _ _ _ => exact ⟨_, _, 162, rfl, fun _ => by kernel_rfl, fun _ _ => by kernel_rfl, fun w => by rw [h]; exact kind_tuple _ _ _ w⟩

theorem oneB_kind {p q : Pt} (h : p.kind ≠ q.kind) : sameP p q = false := by
  rw [sameP_eq]; unfold oneB; rw [show (p.kind == q.kind) = false by simpa using h]; simp
theorem same_one {p q : Pt} (hp : mayB p = true) (hq : mayB q = true) (h : p.kind = q.kind) :
    (p.kind = 0 → sameP p q = true) ∧ (p.kind = 1 → sameP p q = (p.yes == q.yes)) ∧ (p.kind = 2 → sameP p q = (p.neg == q.neg && p.mag.toList == q.mag.toList)) ∧
      (p.kind ≠ 0 → p.kind ≠ 1 → p.kind ≠ 2 → p.kind ≠ 7 → sameP p q = (p.raw.toList == q.raw.toList)) ∧ (p.kind = 7 → sameP p q = sameL p.items q.items) := by
  obtain ⟨a1, a2, a3, a4⟩ := canon hp
  obtain ⟨b1, b2, b3, b4⟩ := canon hq
  refine ⟨fun k => ?_, fun k => ?_, fun k => ?_, fun k0 k1 k2 k7 => ?_, fun k => ?_⟩
  · rw [sameP_eq]; unfold oneB
    rw [h, a1 (by omega), b1 (by omega), (a2 (by omega)).1, (b2 (by omega)).1, (a2 (by omega)).2, (b2 (by omega)).2, a3 (by omega), b3 (by omega), a4 (by omega), b4 (by omega)]; simp [sameL_nil]
  · rw [sameP_eq]; unfold oneB
    rw [h, (a2 (by omega)).1, (b2 (by omega)).1, (a2 (by omega)).2, (b2 (by omega)).2, a3 (by omega), b3 (by omega), a4 (by omega), b4 (by omega)]; simp [sameL_nil]
  · rw [sameP_eq]; unfold oneB
    rw [h, a1 (by omega), b1 (by omega), a3 (by omega), b3 (by omega), a4 (by omega), b4 (by omega)]; simp [sameL_nil]
  · rw [sameP_eq]; unfold oneB
    rw [h, a1 (by omega), b1 (by omega), (a2 (by omega)).1, (b2 (by omega)).1, (a2 (by omega)).2, (b2 (by omega)).2, a3 (by omega), b3 (by omega)]; simp [sameL_nil]
  · rw [sameP_eq]; unfold oneB
    rw [h, a1 (by omega), b1 (by omega), (a2 (by omega)).1, (b2 (by omega)).1, (a2 (by omega)).2, (b2 (by omega)).2, a4 (by omega), b4 (by omega)]; simp

set_option maxHeartbeats 1000000 in
/-- One of them is null. -/
theorem samev_null (p q : Pt) (v u : Value) (w : World) {W : World} {lo hi lo' hi' : Nat} (hp : mayB p = true) (hq : mayB q = true) (hv : VI W lo hi p v) (hu : VI W lo' hi' q u) (h : p.kind = 0 ∨ q.kind = 0) :
    Calls Tryd.prog 78 #[v, u] w fun e w' => e = .returned (.bool (sameP p q)) ∧ Below w.heap.size w w' := by
  by_cases h1 : p.kind = 0
  · obtain rfl := hv.nilOf h1
    by_cases h2 : q.kind = 0
    · obtain rfl := hu.nilOf h2
      have HN := Lib.hid ((same_one hp hq (by omega)).1 h1)
      clear h h1 h2 hv hu hp hq
      go_enter Tryd.func78, Tryd.ntmps78
      go_wp2_with fail
      go_ret
      exact ⟨by rw [HN.out]; rfl, Below.refl _ _⟩
    · obtain ⟨T, V, rfl⟩ := hu.ifaceOf h2
      have HN := Lib.hid (oneB_kind (p := p) (q := q) (by omega))
      clear h h1 h2 hv hu hp hq
      go_enter Tryd.func78, Tryd.ntmps78
      go_wp2_with fail
      go_ret
      exact ⟨by rw [HN.out]; rfl, Below.refl _ _⟩
  · have h2 : q.kind = 0 := h.resolve_left h1
    obtain rfl := hu.nilOf h2
    obtain ⟨T, V, rfl⟩ := hv.ifaceOf h1
    have HN := Lib.hid (oneB_kind (p := p) (q := q) (by omega))
    clear h h1 h2 hv hu hp hq
    go_enter Tryd.func78, Tryd.ntmps78
    go_wp2_with fail
    go_ret
    exact ⟨by rw [HN.out]; rfl, Below.refl _ _⟩
set_option maxHeartbeats 1000000 in
/-- Two kinds. -/
theorem samev_kinds (p q : Pt) (v u : Value) (w : World) {W : World} {lo hi lo' hi' : Nat} (hv : VI W lo hi p v) (hu : VI W lo' hi' q u) (h0 : p.kind ≠ 0) (h1 : q.kind ≠ 0) (h : p.kind ≠ q.kind) :
    Calls Tryd.prog 78 #[v, u] w fun e w' => e = .returned (.bool (sameP p q)) ∧ Below w.heap.size w w' := by
  obtain ⟨T, V, f, rfl, m1, r1, c1⟩ := hv.kindOf h0
  obtain ⟨T', V', f', rfl, m2, r2, c2⟩ := hu.kindOf h1
  have HN := Lib.hid (oneB_kind (p := p) (q := q) h)
  have q1 : ((p.kind : Int) != (q.kind : Int)) = true := by simp; omega
  have C1 := Lib.hid c1
  have C2 := Lib.hid c2
  clear h h0 h1 hv hu c1 c2
  go_enter Tryd.func78, Tryd.ntmps78
  go_wp2_with fail
  refine (C1.out _).mono ?_
  rintro e w1 ⟨rfl, hb1⟩
  go_wp2_with fail
  refine (C2.out _).mono ?_
  rintro e w2 ⟨rfl, hb2⟩
  go_wp2_with fail
  go_ret
  exact ⟨by rw [HN.out]; rfl, two hb1 hb2⟩
end Go.Proofs.YtcgphlilijeifaaDoor.V
end
section
/-
  The program's Same, of two values of one kind; of any two.
-/
namespace Go.Proofs.YtcgphlilijeifaaDoor.V
open Go.RowKit

theorem is_truth_truth (V : Value) (w : World) : (Instr.typeAssert (.iface 140 V) 33 140 true).run Tryd.prog w = .ok (.tuple #[V, .bool true]) w := by kernel_rfl
theorem is_truth_whole (V : Value) (w : World) : (Instr.typeAssert (.iface 142 V) 33 140 true).run Tryd.prog w = .ok (.tuple #[.agg #[.bool false], .bool false]) w := by kernel_rfl
theorem is_truth_row (V : Value) (w : World) : (Instr.typeAssert (.iface 147 V) 33 140 true).run Tryd.prog w = .ok (.tuple #[.agg #[.bool false], .bool false]) w := by kernel_rfl
theorem is_truth_tuple (V : Value) (w : World) : (Instr.typeAssert (.iface 145 V) 33 140 true).run Tryd.prog w = .ok (.tuple #[.agg #[.bool false], .bool false]) w := by kernel_rfl

set_option maxRecDepth 100000 in
set_option maxHeartbeats 2000000 in
theorem samev_truth (x y : Bool) (w : World) :
    Calls Tryd.prog 78 #[.iface 140 (.agg #[.bool x]), .iface 140 (.agg #[.bool y])] w fun e w' => e = .returned (.bool (x == y)) ∧ Below w.heap.size w w' := by
  have f1 := is_truth_truth
  have m1 : ∀ w : World, (method 338 140 (.agg #[.bool x]) "Kind").run Tryd.prog w = .ok (156, .agg #[.bool x]) w := fun _ => by kernel_rfl
  have m2 : ∀ w : World, (method 338 140 (.agg #[.bool y]) "Kind").run Tryd.prog w = .ok (156, .agg #[.bool y]) w := fun _ => by kernel_rfl
  have m3 : ∀ w : World, (method 338 140 (.agg #[.bool y]) "Part").run Tryd.prog w = .ok (157, .agg #[.bool y]) w := fun _ => by kernel_rfl
  have fd : ∀ w : World, (Instr.field 27 (.agg #[.int .u8 1, .bool y, .bool false, .string ⟨#[]⟩, .string ⟨#[]⟩, .slice none 0 0]) 1).run Tryd.prog w = .ok (.bool y) w := fun _ => by kernel_rfl
  go_enter Tryd.func78, Tryd.ntmps78
  go_wp2_with fail
  refine (kind_truth _ _).mono ?_
  rintro e w1 ⟨rfl, hb1⟩
  go_wp2_with fail
  refine (kind_truth _ _).mono ?_
  rintro e w2 ⟨rfl, hb2⟩
  go_wp2_with fail
  have hB : Below w.heap.size w w2 := two hb1 hb2
  have hBa := hB.alloc hB.size (.cells #[.bool x] 140)
  have hc : (w2.alloc (.cells #[.bool x] 140)).cell? ⟨w2.heap.size, 0, none⟩ = some (.bool x) := by simp
  obtain ⟨W3, hW3⟩ : ∃ W3, W3 = w2.alloc (.cells #[.bool x] 140) := ⟨_, rfl⟩
  rw [← hW3] at hBa hc ⊢
  have hBd := hBa.drew
  clear hW3
  go_region_held3 (fun w' => w'.cell? ⟨w2.heap.size, 0, none⟩ = some (.bool x) ∧ Below w.heap.size w w') (go_keep) (first
    | (go_at_call 157; refine (part_truth y _).mono ?_; rintro e w4 ⟨rfl, hb4⟩; have k1 := keeps hb4 (p := ⟨w2.heap.size, 0, none⟩) (v := .bool x) (by assumption); have k2 := two (by assumption) hb4))
  go_wp2_with fail
  go_ret
  exact ⟨rfl, by assumption⟩
set_option maxRecDepth 100000 in
set_option maxHeartbeats 2000000 in
theorem samev_whole (x y : Bool) (a b : ByteArray) (w : World) (E : Bool) (hE : (x == y && a.toList == b.toList) = E) :
    Calls Tryd.prog 78 #[.iface 142 (.agg #[.bool x, .string a]), .iface 142 (.agg #[.bool y, .string b])] w fun e w' => e = .returned (.bool E) ∧ Below w.heap.size w w' := by
  have f1 := is_truth_whole
  have f2 := has_Number_whole
  have m1 : ∀ w : World, (method 338 142 (.agg #[.bool x, .string a]) "Kind").run Tryd.prog w = .ok (158, .agg #[.bool x, .string a]) w := fun _ => by kernel_rfl
  have m2 : ∀ w : World, (method 338 142 (.agg #[.bool y, .string b]) "Kind").run Tryd.prog w = .ok (158, .agg #[.bool y, .string b]) w := fun _ => by kernel_rfl
  have m3 : ∀ w : World, (method 338 142 (.agg #[.bool x, .string a]) "Num").run Tryd.prog w = .ok (159, .agg #[.bool x, .string a]) w := fun _ => by kernel_rfl
  have m4 : ∀ w : World, (method 338 142 (.agg #[.bool y, .string b]) "Num").run Tryd.prog w = .ok (159, .agg #[.bool y, .string b]) w := fun _ => by kernel_rfl
  have h24 := eql_num x y a b E hE
  clear hE
  go_enter Tryd.func78, Tryd.ntmps78
  go_wp2_with fail
  refine (kind_whole _ _ _).mono ?_
  rintro e w1 ⟨rfl, hb1⟩
  go_wp2_with fail
  refine (kind_whole _ _ _).mono ?_
  rintro e w2 ⟨rfl, hb2⟩
  go_wp2_with fail
  refine (num_whole _ _ _).mono ?_
  rintro e w3 ⟨rfl, hb3⟩
  go_wp2_with fail
  refine (num_whole _ _ _).mono ?_
  rintro e w4 ⟨rfl, hb4⟩
  go_wp2_with fail
  go_ret
  exact ⟨rfl, two (two (two hb1 hb2) hb3) hb4⟩
set_option maxRecDepth 100000 in
set_option maxHeartbeats 2000000 in
theorem samev_row (k : Nat) (a b : ByteArray) (w : World) (E : Bool) (hE : (a.toList == b.toList) = E) :
    Calls Tryd.prog 78 #[.iface 147 (.agg #[.int .u8 k, .string a]), .iface 147 (.agg #[.int .u8 k, .string b])] w fun e w' => e = .returned (.bool E) ∧ Below w.heap.size w w' := by
  have f1 := is_truth_row
  have f2 := has_Number_row
  have f3 := has_Raw_row
  have q0 : ((k : Int) != (k : Int)) = false := by simp
  have m1 : ∀ w : World, (method 338 147 (.agg #[.int .u8 k, .string a]) "Kind").run Tryd.prog w = .ok (166, .agg #[.int .u8 k, .string a]) w := fun _ => by kernel_rfl
  have m2 : ∀ w : World, (method 338 147 (.agg #[.int .u8 k, .string b]) "Kind").run Tryd.prog w = .ok (166, .agg #[.int .u8 k, .string b]) w := fun _ => by kernel_rfl
  have m3 : ∀ w : World, (method 338 147 (.agg #[.int .u8 k, .string a]) "Bytes").run Tryd.prog w = .ok (165, .agg #[.int .u8 k, .string a]) w := fun _ => by kernel_rfl
  have m4 : ∀ w : World, (method 338 147 (.agg #[.int .u8 k, .string b]) "Bytes").run Tryd.prog w = .ok (165, .agg #[.int .u8 k, .string b]) w := fun _ => by kernel_rfl
  go_enter Tryd.func78, Tryd.ntmps78
  go_wp2_with fail
  refine (kind_row _ _ _).mono ?_
  rintro e w1 ⟨rfl, hb1⟩
  go_wp2_with fail
  refine (kind_row _ _ _).mono ?_
  rintro e w2 ⟨rfl, hb2⟩
  go_wp2_with fail
  refine (bytes_row _ _ _).mono ?_
  rintro e w3 ⟨rfl, hb3⟩
  go_wp2_with fail
  refine (bytes_row _ _ _).mono ?_
  rintro e w4 ⟨rfl, hb4⟩
  go_wp2_with fail
  go_ret
  exact ⟨rfl, two (two (two hb1 hb2) hb3) hb4⟩
end Go.Proofs.YtcgphlilijeifaaDoor.V
end
section
/-
  The program's Same, of any two values.
-/
namespace Go.Proofs.YtcgphlilijeifaaDoor.V
open Go.RowKit

theorem VI.tupleOf {w : World} {lo hi : Nat} {p : Pt} {v : Value} (hv : VI w lo hi p v) (h7 : p.kind = 7) :
    ∃ (a : Option Addr) (cap : Nat) (F : Nat → Value), v = .iface 145 (.agg #[.slice a p.items.length cap]) ∧ (∀ j, j < p.items.length → ∃ g, a = some ⟨g, 0, none⟩ ∧ lo ≤ g ∧ g < hi ∧ w.cell? ⟨g, j, none⟩ = some (F j)) ∧ ∀ j (h : j < p.items.length), VI w lo hi p.items[j] (F j) := by
  cases hv with
  | null _ h => omega
  | truth _ h => omega
  | whole _ h => omega
  | row _ _ _ _ h => omega
  | tuple _ _ a cap F hc cells deep => exact ⟨a, cap, F, rfl, cells, deep⟩
theorem VI.truthOf {w : World} {lo hi : Nat} {p : Pt} {v : Value} (hv : VI w lo hi p v) (h : p.kind = 1) : v = .iface 140 (.agg #[.bool p.yes]) := by
  cases hv with
  | null _ h => omega
  | truth _ h => rfl
  | whole _ h => omega
  | row _ _ h _ _ => omega
  | tuple _ h a cap F hc cells deep => omega
theorem VI.wholeOf {w : World} {lo hi : Nat} {p : Pt} {v : Value} (hv : VI w lo hi p v) (h : p.kind = 2) : v = .iface 142 (.agg #[.bool p.neg, .string p.mag]) := by
  cases hv with
  | null _ h => omega
  | truth _ h => omega
  | whole _ h => rfl
  | row _ _ _ h _ => omega
  | tuple _ h a cap F hc cells deep => omega
theorem VI.rowOf {w : World} {lo hi : Nat} {p : Pt} {v : Value} (hv : VI w lo hi p v) (h0 : p.kind ≠ 0) (h1 : p.kind ≠ 1) (h2 : p.kind ≠ 2) (h7 : p.kind ≠ 7) : v = .iface 147 (.agg #[.int .u8 p.kind, .string p.raw]) := by
  cases hv with
  | null _ h => omega
  | truth _ h => omega
  | whole _ h => omega
  | row _ _ _ _ _ => rfl
  | tuple _ h a cap F hc cells deep => omega

set_option maxRecDepth 100000 in
set_option maxHeartbeats 4000000 in
theorem samev_any (p : Pt) : ∀ (q : Pt) (v u : Value) (w : World), mayB p = true → mayB q = true → VI w 0 w.heap.size p v → VI w 0 w.heap.size q u →
    Calls Tryd.prog 78 #[v, u] w fun e w' => e = .returned (.bool (sameP p q)) ∧ Below w.heap.size w w' := by
  induction p using Pt.ind with
  | h p ih =>
  intro q v u w hp hq hv hu
  by_cases h0 : p.kind = 0 ∨ q.kind = 0
  · exact samev_null p q v u w hp hq hv hu h0
  · by_cases hk : p.kind = q.kind
    · obtain ⟨s0, s1, s2, s3, s4⟩ := same_one hp hq hk
      by_cases h7 : p.kind = 7
      · have hq7 : q.kind = 7 := by omega
        have hlen := may_len hp h7
        have hlenq := may_len hq hq7
        have hS := s4 h7
        obtain ⟨a, cap, F, rfl, hcells, hdeep⟩ := hv.tupleOf h7
        obtain ⟨b, capb, G, rfl, hcells', hdeep'⟩ := hu.tupleOf hq7
        have f1 := is_truth_tuple
        have f2 := has_Number_tuple
        have f3 := has_Raw_tuple
        have f4 := has_List_tuple
        have m1 : ∀ w : World, (method 338 145 (.agg #[.slice a p.items.length cap]) "Kind").run Tryd.prog w = .ok (162, .agg #[.slice a p.items.length cap]) w := fun _ => by kernel_rfl
        have m2 : ∀ w : World, (method 338 145 (.agg #[.slice b q.items.length capb]) "Kind").run Tryd.prog w = .ok (162, .agg #[.slice b q.items.length capb]) w := fun _ => by kernel_rfl
        have m3 : ∀ w : World, (method 338 145 (.agg #[.slice a p.items.length cap]) "Len").run Tryd.prog w = .ok (163, .agg #[.slice a p.items.length cap]) w := fun _ => by kernel_rfl
        have m4 : ∀ w : World, (method 338 145 (.agg #[.slice b q.items.length capb]) "Len").run Tryd.prog w = .ok (163, .agg #[.slice b q.items.length capb]) w := fun _ => by kernel_rfl
        have m5 : ∀ w : World, (method 338 145 (.agg #[.slice a p.items.length cap]) "At").run Tryd.prog w = .ok (161, .agg #[.slice a p.items.length cap]) w := fun _ => by kernel_rfl
        have m6 : ∀ w : World, (method 338 145 (.agg #[.slice b q.items.length capb]) "At").run Tryd.prog w = .ok (161, .agg #[.slice b q.items.length capb]) w := fun _ => by kernel_rfl
        have HC := Lib.hid hcells
        have HD := Lib.hid hdeep
        have HC' := Lib.hid hcells'
        have HD' := Lib.hid hdeep'
        have HP := Lib.hid hp
        have HQ := Lib.hid hq
        have IH := Lib.hid ih
        clear hv hu hcells hdeep hcells' hdeep' hp hq ih s0 s1 s2 s3 s4 h0 hk h7 hq7
        by_cases hl : p.items.length = q.items.length
        · have g5 : ((p.items.length : Int) != (q.items.length : Int)) = false := by simp; omega
          have HN := Lib.hid (show sameP p q = sameL (p.items.drop 0) (q.items.drop 0) by rw [hS]; rfl)
          have HL := Lib.hid hl
          have hla := Nat.le_of_eq hl
          have hlb := Nat.le_of_eq hl.symm
          clear hl hS
          go_enter Tryd.func78, Tryd.ntmps78
          go_wp2_with fail
          refine (kind_tuple _ _ _ _).mono ?_
          rintro e w1 ⟨rfl, hb1⟩
          go_wp2_with fail
          refine (kind_tuple _ _ _ _).mono ?_
          rintro e w2 ⟨rfl, hb2⟩
          go_wp2_with fail
          refine (len_tuple _ _ _ _).mono ?_
          rintro e w3 ⟨rfl, hb3⟩
          go_wp2_with fail
          refine (len_tuple _ _ _ _).mono ?_
          rintro e w4 ⟨rfl, hb4⟩
          go_wp2_with fail
          refine (len_tuple _ _ _ _).mono ?_
          rintro e w5 ⟨rfl, hb5⟩
          have hB5 := two (two (two (two hb1 hb2) hb3) hb4) hb5
          clear hb1 hb2 hb3 hb4 hb5
          go_wp2_with fail
          go_loopw [94] (fun i wr => ∃ k : Nat, k ≤ p.items.length ∧ i = .int .i64 k ∧ RowKit.Hid (sameP p q = sameL (p.items.drop k) (q.items.drop k)) ∧ Below w.heap.size w wr) (fun i _ => p.items.length - (intOf i).toNat)
          case atStart => exact ⟨0, Nat.zero_le _, rfl, HN, hB5⟩
          case round =>
            clear hB5
            obtain ⟨k, hkl, rfl, HK, hB⟩ := hrel
            by_cases hlt : k < p.items.length
            · have q3 : decide (k < p.items.length) = true := by simpa using hlt
              have hltq : k < q.items.length := by omega
              obtain ⟨g, rfl, _, hg, hc⟩ := HC.out k hlt
              obtain ⟨g', rfl, _, hg', hc'⟩ := HC'.out k hltq
              have HE := Lib.hid (sameL_drop HL.out hlt)
              have hmem : p.items[k] ∈ p.items := List.getElem_mem _
              have hmemq : q.items[k] ∈ q.items := List.getElem_mem _
              have hvi := Lib.hid (HD.out k hlt)
              have hvi' := Lib.hid (HD'.out k hltq)
              obtain ⟨y, hy⟩ : ∃ y, p.items[k] = y := ⟨_, rfl⟩
              obtain ⟨z, hz⟩ : ∃ z, q.items[k] = z := ⟨_, rfl⟩
              rw [hy] at HE hmem hvi
              rw [hz] at HE hmemq hvi'
              have hmy := Lib.hid (mayB_item HP.out hmem)
              have hmz := Lib.hid (mayB_item HQ.out hmemq)
              have HCk := Lib.hid (keep hB hg hc)
              have hc1 := Lib.hid hc'
              clear hy hz hc hc'
              go_wp2_with fail
              refine (at_in g _ cap k (F k) _ (by omega) hlt HCk.out).mono ?_
              rintro e w6 ⟨rfl, hb6⟩
              have hB6 := hB.trans (hb6.mono hB.size)
              go_wp2_with fail
              refine (at_in g' _ capb k (G k) _ (by omega) hltq (keep hB6 hg' hc1.out)).mono ?_
              rintro e w7 ⟨rfl, hb7⟩
              have hB7 := hB6.trans (hb7.mono hB6.size)
              go_wp2_with fail
              refine (IH.out y hmem z (F k) (G k) _ hmy.out hmz.out (hvi.out.later hB7) (hvi'.out.later hB7)).mono ?_
              rintro e w8 ⟨rfl, hb8⟩
              have hB8 := hB7.trans (hb8.mono hB7.size)
              clear hB hB6 hB7 hb6 hb7 hb8
              cases hd : sameP y z with
              | true =>
                have HR := Lib.hid (show sameP p q = sameL (p.items.drop (k + 1)) (q.items.drop (k + 1)) by rw [HK.out, HE.out, hd]; rfl)
                clear hd
                go_wp2_with fail
                refine ⟨?_, by simp [intOf]; omega⟩
                first
                  | exact ⟨k + 1, by omega, rfl, HR, hB8⟩
                  | ((repeat apply Exists.intro); exact ⟨⟨k + 1, by omega, rfl, HR, hB8⟩, rfl⟩)
              | false =>
                have HR := Lib.hid (show sameP p q = false by rw [HK.out, HE.out, hd]; rfl)
                clear hd
                go_wp2_with fail
                go_ret
                exact ⟨by rw [HR.out]; rfl, hB8⟩
            · have q3 : decide (k < p.items.length) = false := by simpa using hlt
              have HR := Lib.hid (show sameP p q = true by rw [HK.out, List.drop_of_length_le (by omega), List.drop_of_length_le (by omega), sameL_nil])
              go_wp2_with fail
              go_ret
              exact ⟨by rw [HR.out]; rfl, hB⟩
        · have g5 : ((p.items.length : Int) != (q.items.length : Int)) = true := by simp; omega
          have HN := Lib.hid (show sameP p q = false by rw [hS, sameL_false hl])
          clear hl hS
          go_enter Tryd.func78, Tryd.ntmps78
          go_wp2_with fail
          refine (kind_tuple _ _ _ _).mono ?_
          rintro e w1 ⟨rfl, hb1⟩
          go_wp2_with fail
          refine (kind_tuple _ _ _ _).mono ?_
          rintro e w2 ⟨rfl, hb2⟩
          go_wp2_with fail
          refine (len_tuple _ _ _ _).mono ?_
          rintro e w3 ⟨rfl, hb3⟩
          go_wp2_with fail
          refine (len_tuple _ _ _ _).mono ?_
          rintro e w4 ⟨rfl, hb4⟩
          go_wp2_with fail
          go_ret
          exact ⟨by rw [HN.out]; rfl, two (two (two hb1 hb2) hb3) hb4⟩
      · by_cases h1 : p.kind = 1
        · rw [hv.truthOf h1, hu.truthOf (by omega), s1 h1]
          exact samev_truth _ _ w
        · by_cases h2 : p.kind = 2
          · rw [hv.wholeOf h2, hu.wholeOf (by omega), s2 h2]
            exact samev_whole _ _ _ _ w _ rfl
          · rw [hv.rowOf (by omega) h1 h2 h7, hu.rowOf (by omega) (by omega) (by omega) (by omega), s3 (by omega) h1 h2 h7, ← hk]
            exact samev_row _ _ _ w _ rfl
    · exact samev_kinds p q v u w hv hu (by omega) (by omega) hk

theorem Same_any (p q : Pt) (v u : Value) (w : World) (hp : mayB p = true) (hq : mayB q = true) (hv : VI w 0 w.heap.size p v) (hu : VI w 0 w.heap.size q u) :
    Calls Tryd.prog 39 #[v, u] w fun e w' => e = .returned (.bool (sameP p q)) ∧ Below w.heap.size w w' := by
  have HP := Lib.hid hp
  have HQ := Lib.hid hq
  have HV := Lib.hid hv
  have HU := Lib.hid hu
  clear hp hq hv hu
  go_enter Tryd.func39, Tryd.ntmps39
  go_wp2_with fail
  refine (samev_any p q v u _ HP.out HQ.out HV.out HU.out).mono ?_
  rintro e w1 ⟨rfl, hb1⟩
  go_wp2_with fail
  go_ret
  exact ⟨rfl, hb1⟩
end Go.Proofs.YtcgphlilijeifaaDoor.V
end
section
/-
  The law's awake: its contract.
-/
namespace Go.Proofs.YtcgphlilijeifaaDoor.V
open Go.RowKit

def E0 : ByteArray := ⟨#[]⟩
def pTrue : Pt := .mk 1 true false E0 E0 []
def pNull : Pt := .mk 0 false false E0 E0 []
def pName : Pt := .mk 5 false false E0 ⟨#[97, 98]⟩ []
def pAll : Pt := .mk 7 false false E0 E0 [pTrue, pNull, pName]
theorem pAll_make : makeE pAll = 0 := by decide +kernel
theorem pAll_depth : depthP pAll = 1 := by decide +kernel
theorem fit0 (p : Pt) (hk : p.kind < 256) (hm : p.mag.size ≤ 2) (hr : p.raw.size ≤ 2) (hl : p.items.length ≤ 3) : Fit p := ⟨hk, by omega, by omega, by omega⟩
theorem fTrue : Fit pTrue := fit0 _ (by decide) (by decide) (by decide) (by decide)
theorem fNull : Fit pNull := fit0 _ (by decide) (by decide) (by decide) (by decide)
theorem fName : Fit pName := fit0 _ (by decide) (by decide) (by decide) (by decide)
theorem fAll : Fit pAll := fit0 _ (by decide) (by decide) (by decide) (by decide)
def cells18 : Array Value := #[.int .u8 1, .bool true, .bool false, .string ⟨#[]⟩, .string ⟨#[]⟩, .slice none 0 0, .int .u8 0, .bool false, .bool false, .string ⟨#[]⟩, .string ⟨#[]⟩, .slice none 0 0, .int .u8 5, .bool false, .bool false, .string ⟨#[]⟩, .string ⟨#[97, 98]⟩, .slice none 0 0]
theorem pi18 (w : World) (g : Nat) (hg : g < w.heap.size) (h : ∀ c, w.cell? ⟨g, c, none⟩ = cells18[c]?) : PI w 0 w.heap.size pAll.items (.slice (some ⟨g, 0, none⟩) 3 3) := by
  refine PI.mk [pTrue, pNull, pName] (some ⟨g, 0, none⟩) 3 (fun _ => .slice none 0 0) (by decide) (fun j hj => ⟨g, 0, rfl, Nat.zero_le _, hg, ?_⟩) (fun j hj => ?_) (fun j hj => ?_)
  · match j, hj with
    | 0, _ => exact ⟨h 0, h 1, h 2, h 3, h 4, h 5⟩
    | 1, _ => exact ⟨h 6, h 7, h 8, h 9, h 10, h 11⟩
    | 2, _ => exact ⟨h 12, h 13, h 14, h 15, h 16, h 17⟩
  · match j, hj with
    | 0, _ => exact fTrue
    | 1, _ => exact fNull
    | 2, _ => exact fName
  · match j, hj with
    | 0, _ => exact PI.nil _ _ _
    | 1, _ => exact PI.nil _ _ _
    | 2, _ => exact PI.nil _ _ _

theorem kc {w w' : World} (hb : Below w.heap.size w w') {a : Addr} {v : Value} (h : w.cell? a = some v) : w'.cell? a = some v := by
  rw [hb.cell (World.block_lt_of_cell? w _ h), h]

set_option maxRecDepth 100000 in
set_option maxHeartbeats 4000000 in
theorem awake_any (w : World) : Calls Tryd.prog 13 #[] w fun e w' => e = .returned (.bool true) ∧ Below w.heap.size w w' := by
  have m1 : ∀ (a : Option Addr) (n cap : Nat) (w : World), (method 338 145 (.agg #[.slice a n cap]) "Len").run Tryd.prog w = .ok (163, .agg #[.slice a n cap]) w := fun _ _ _ _ => by kernel_rfl
  have m2 : ∀ (a : Option Addr) (n cap : Nat) (w : World), (method 338 145 (.agg #[.slice a n cap]) "At").run Tryd.prog w = .ok (161, .agg #[.slice a n cap]) w := fun _ _ _ _ => by kernel_rfl
  have m3 : ∀ (k : Nat) (r : ByteArray) (w : World), (method 338 147 (.agg #[.int .u8 k, .string r]) "Bytes").run Tryd.prog w = .ok (165, .agg #[.int .u8 k, .string r]) w := fun _ _ _ => by kernel_rfl
  have m4 : ∀ (y : Bool) (w : World), (method 338 140 (.agg #[.bool y]) "Part").run Tryd.prog w = .ok (157, .agg #[.bool y]) w := fun _ _ => by kernel_rfl
  have fd : ∀ (y : Bool) (w : World), (Instr.field 27 (.agg #[.int .u8 1, .bool y, .bool false, .string ⟨#[]⟩, .string ⟨#[]⟩, .slice none 0 0]) 1).run Tryd.prog w = .ok (.bool y) w := fun _ _ => by kernel_rfl
  go_enter Tryd.func13, Tryd.ntmps13
  go_wp2_with fail
  refine (make_any pAll _ _ fAll (pi18 _ w.heap.size (by simp; omega) (fun c => ?_))).mono ?_
  · simp [go_sem, cells18]
  rintro e w1 ⟨u, rfl, _, hv, hb⟩
  have hB1 : Below w.heap.size w w1 := (((Below.refl _ _).alloc (Nat.le_refl _) _).alloc (by simp) _).trans (hb.mono (by simp; omega))
  have hv := (hv pAll_make).wide (Nat.zero_le _) (Nat.le_refl _)
  clear hb
  obtain ⟨a, cap, F, hu, hC, hF⟩ := hv.tupleOf rfl
  replace hu : u = .iface 145 (.agg #[.slice a 3 cap]) := hu
  subst hu
  obtain ⟨g, rfl, _, _, c0⟩ := hC 0 (by decide)
  obtain ⟨g1, ha1, _, _, c1⟩ := hC 1 (by decide)
  obtain ⟨g2, ha2, _, _, c2⟩ := hC 2 (by decide)
  obtain rfl : g = g1 := by simpa using ha1
  obtain rfl : g = g2 := by simpa using ha2
  have v2 : VI w1 0 w1.heap.size pName (F 2) := hF 2 (by decide)
  have f0 : F 0 = .iface 140 (.agg #[.bool true]) := VI.truthOf (hF 0 (by decide)) rfl
  have f1 : F 1 = _ := VI.nilOf (hF 1 (by decide)) rfl
  have f2 : F 2 = .iface 147 (.agg #[.int .u8 5, .string ⟨#[97, 98]⟩]) := VI.rowOf (hF 2 (by decide)) (by decide) (by decide) (by decide) (by decide)
  rw [f0] at c0
  rw [f1] at c1
  rw [f2] at c2 v2
  have HV := Lib.hid hv
  have H2 := Lib.hid v2
  clear hF hC f0 f1 f2 F ha1 ha2 hv v2
  rw [pAll_make]
  go_wp2_with fail
  refine (AsList_any pAll _ _ HV.out (by decide) true (by decide)).mono ?_
  rintro e w2 ⟨rfl, rfl⟩
  rw [show ∀ v, asked true v = v from fun _ => rfl]
  go_wp2_with fail
  refine (len_tuple _ _ _ _).mono ?_
  rintro e w3 ⟨rfl, hb3⟩
  go_wp2_with fail
  refine (at_in g 3 cap 1 _ _ (by decide) (by decide) (kc hb3 c1)).mono ?_
  rintro e w4 ⟨rfl, hb4⟩
  replace hb4 := two hb3 hb4
  go_wp2_with fail
  refine (at_in g 3 cap 0 _ _ (by decide) (by decide) (kc hb4 c0)).mono ?_
  rintro e w5 ⟨rfl, hb5⟩
  replace hb5 := two hb4 hb5
  go_wp2_with fail
  refine (at_in g 3 cap 2 _ _ (by decide) (by decide) (kc hb5 c2)).mono ?_
  rintro e w6 ⟨rfl, hb6⟩
  replace hb6 := two hb5 hb6
  go_wp2_with fail
  refine (at_in g 3 cap 2 _ _ (by decide) (by decide) (kc hb6 c2)).mono ?_
  rintro e w7 ⟨rfl, hb7⟩
  replace hb7 := two hb6 hb7
  go_wp2_with fail
  refine (AsRaw_any pName _ _ H2.out (by decide) true (by decide)).mono ?_
  rintro e w8 ⟨rfl, rfl⟩
  rw [show ∀ v, asked true v = v from fun _ => rfl]
  go_wp2_with fail
  refine (bytes_row _ _ _).mono ?_
  rintro e w9 ⟨rfl, hb9⟩
  replace hb9 := two hb7 hb9
  go_wp2_with fail
  refine (at_in g 3 cap 0 _ _ (by decide) (by decide) (kc hb9 c0)).mono ?_
  rintro e w10 ⟨rfl, hb10⟩
  replace hb10 := two hb9 hb10
  go_wp2_with fail
  refine (part_truth true _).mono ?_
  rintro e w11 ⟨rfl, hb11⟩
  replace hb11 := two hb10 hb11
  go_wp2_with fail
  refine (Depth_any pAll _ _ (by decide +kernel) (by rw [pAll_depth]; decide) (HV.out.later hb11)).mono ?_
  rintro e w12 ⟨rfl, hb12⟩
  replace hb12 := two hb11 hb12
  rw [pAll_depth]
  go_wp2_with fail
  go_ret
  exact ⟨rfl, two hB1 hb12⟩
end Go.Proofs.YtcgphlilijeifaaDoor.V
end
section
/-
  The law's weight: its contract.
-/
namespace Go.Proofs.YtcgphlilijeifaaDoor.V
open Go.RowKit

/-- heavy tells some number; no more is asked of it. -/
def HeavyPost10 (w : World) (e : Ending) (w' : World) : Prop := ∃ r : Int, e = .returned (.int .i64 r) ∧ 0 ≤ r ∧ r ≤ 300000000000000 ∧ Below w.heap.size w w'
set_option maxRecDepth 100000 in
set_option maxHeartbeats 2000000 in
theorem heavy10_any (p : Pt) : ∀ (v : Value) (w : World) (n d : Int), 0 ≤ n → n ≤ 134217728 → 0 ≤ d → d ≤ 301 → Fit p → PI w 0 w.heap.size p.items v →
    Calls Tryd.prog 74 #[.agg #[.int .u8 p.kind, .bool p.yes, .bool p.neg, .string p.mag, .string p.raw, v], .int .i64 n, .int .i64 d] w (HeavyPost10 w) := by
  induction p using Pt.ind with
  | h p ih =>
  intro v w n d hn0 hn1 hd0 hd1 hf hp
  obtain ⟨a, cap, rfl, _, hat⟩ := hp.open
  have HA := Lib.hid hat
  have IH := Lib.hid ih
  have hl := hf.l
  have hm := hf.m
  have hr := hf.r
  clear hat ih hp
  by_cases hd : 300 < d
  · go_enter Tryd.func74, Tryd.ntmps74
    go_wp2_with fail
    go_ret
    exact ⟨_, rfl, by decide, by decide, (Below.refl _ _).alloc (Nat.le_refl _) _⟩
  · go_enter Tryd.func74, Tryd.ntmps74
    go_wp2_with fail
    go_loopw [1, 7] (fun m i wr => ∃ (k : Nat) (s : Int), k ≤ p.items.length ∧ i = .int .i64 k ∧ m = .int .i64 s ∧ 0 ≤ s ∧ s ≤ 300000000000000 ∧ Below w.heap.size w wr ∧ w.heap.size < wr.heap.size ∧ wr.cell? ⟨w.heap.size, 5, none⟩ = some (.slice a p.items.length cap)) (fun _ i _ => p.items.length - (intOf i).toNat)
    case atStart => exact ⟨0, _, Nat.zero_le _, rfl, rfl, by omega, by omega, (Below.refl _ _).alloc (Nat.le_refl _) _, by simp, by simp⟩
    case round =>
      obtain ⟨k, s, hkl, rfl, rfl, hs0, hs1, hB, hsz, f5⟩ := hrel
      by_cases hlt : k < p.items.length
      · have q3 : decide (k < p.items.length) = true := by simpa using hlt
        by_cases hs : s ≤ 134217728
        · have q4 : decide (s ≤ 134217728) = true := by simpa using hs
          obtain ⟨b, off, u, rfl, _, hb, hc, hfit, hpi⟩ := HA.out k hlt
          obtain ⟨d0, d1, d2, d3, d4, d5⟩ := hc.same (Same.of_below hB (Nat.le_refl _)) (Nat.zero_le _) hb
          have hmem : p.items[k] ∈ p.items := List.getElem_mem _
          obtain ⟨q, hq⟩ : ∃ q, p.items[k] = q := ⟨_, rfl⟩
          rw [hq] at d0 d1 d2 d3 d4 hfit hpi hmem
          obtain ⟨a2, cap2, rfl, _, _⟩ := hpi.open
          have hpi2 := Lib.hid hpi
          clear hc hq hpi
          go_wp2_with fail
          refine (IH.out q hmem _ _ s (d + 1) hs0 hs (by omega) (by omega) hfit (hpi2.out.later hB)).mono ?_
          rintro e w1 ⟨r, rfl, hr0, hr1, hb1⟩
          have hB1 : Below w.heap.size w w1 := hB.trans (hb1.mono (by omega))
          have hz1 : w.heap.size < w1.heap.size := by have := hb1.size; omega
          have F5 := Lib.hid (keep hb1 hsz f5)
          clear d0 d1 d2 d3 d4 d5 f5 hB hb1 hsz
          go_wp2_with fail
          refine ⟨?_, by simp [intOf]; omega⟩
          first
            | exact ⟨k + 1, r, by omega, rfl, rfl, hr0, hr1, hB1, hz1, F5.out⟩
            | ((repeat apply Exists.intro); exact ⟨⟨k + 1, r, by omega, rfl, rfl, hr0, hr1, hB1, hz1, F5.out⟩, rfl⟩)
        · have q4 : decide (s ≤ 134217728) = false := by simpa using hs
          go_wp2_with fail
          go_ret
          exact ⟨s, rfl, hs0, hs1, hB⟩
      · have q3 : decide (k < p.items.length) = false := by simpa using hlt
        go_wp2_with fail
        go_ret
        exact ⟨s, rfl, hs0, hs1, hB⟩

theorem weight10_any (p : Pt) (v : Value) (w : World) (n : Int) (hn0 : 0 ≤ n) (hn1 : n ≤ 134217728) (hf : Fit p) (hp : PI w 0 w.heap.size p.items v) :
    Calls Tryd.prog 34 #[.agg #[.int .u8 p.kind, .bool p.yes, .bool p.neg, .string p.mag, .string p.raw, v], .int .i64 n] w (HeavyPost10 w) := by
  have hp0 := Lib.hid hp
  obtain ⟨a, cap, rfl, _, _⟩ := hp.open
  clear hp
  go_enter Tryd.func34, Tryd.ntmps34
  go_wp2_with fail
  refine (heavy10_any p _ _ n 0 hn0 hn1 (by decide) (by decide) hf (by first | exact hp0.out | exact hp0.out.later ((Below.refl _ _).alloc (Nat.le_refl _) _))).mono ?_
  rintro e w1 ⟨r, rfl, hr0, hr1, hb1⟩
  go_wp2_with fail
  go_ret
  exact ⟨r, rfl, hr0, hr1, by first | exact hb1 | exact ((Below.refl _ _).alloc (Nat.le_refl _) _).trans (hb1.mono (by simp))⟩
end Go.Proofs.YtcgphlilijeifaaDoor.V
end
