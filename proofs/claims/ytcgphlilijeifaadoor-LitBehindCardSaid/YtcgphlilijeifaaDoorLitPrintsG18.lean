import Derived.Laws.Bits64
import Derived.Test.YtcgphlilijeifaaDoorLitPrintsG17
import Derived.Test.YtcgphlilijeifaaDoorLitPrintsG1
/-
  The contracts of nat.shortest, nat.magnitude, nat.Of and nat.Small.
-/
namespace Go.Proofs.YtcgphlilijeifaaDoor
open Go.RowKit

/-- Block g is just the cells cs, none of them frozen. -/
def Blk (w : World) (g : Nat) (t : TypeId) (cs : Array Value) : Prop := w.heap[g]? = some (.cells cs t (0, 0))
section
variable {w w' : World} {g : Nat} {t : TypeId} {cs : Array Value}
theorem Blk.lt (h : Blk w g t cs) : g < w.heap.size := by
  rcases Nat.lt_or_ge g w.heap.size with hlt | hge
  · exact hlt
  · unfold Blk at h; rw [Array.getElem?_eq_none hge] at h; cases h
theorem Blk.cell (h : Blk w g t cs) (i : Nat) : w.cell? ⟨g, i, none⟩ = cs[i]? := cell_of_row w g i cs t (0, 0) h
theorem Blk.frozen (h : Blk w g t cs) (i : Nat) : w.frozen? ⟨g, i, none⟩ = false := by
  unfold Blk at h
  simp [World.frozen?, h]
theorem Blk.new (w : World) (t : TypeId) (cs : Array Value) : Blk (w.alloc (.cells cs t)) w.heap.size t cs := heap_alloc_new w _
theorem Blk.set_ (h : Blk w g t cs) (i : Nat) (u : Value) : Blk (w.setCell ⟨g, i, none⟩ u) g t (cs.setIfInBounds i u) := by
  unfold Blk at h ⊢
  simp [World.setCell, Array.getElem?_modify, h]
theorem Blk.below {B : Nat} (h : Blk w g t cs) (hb : Below B w w') (hg : g < B) : Blk w' g t cs := (hb.block g hg).trans h
end

theorem shortest_any (v : Value) (l : List UInt8) (w : World) (hcv : (convert 111 9 v).run Tryd.prog w = .ok (.string ⟨l.toArray⟩) w) :
    Calls Tryd.prog 56 #[v] w fun e w' => ∃ p : ByteArray, e = .returned (.string p) ∧ Hid (p.toList = strip l) ∧ w = w' := by
  go_enter Tryd.func56, Tryd.ntmps56
  go_wp2_with (go_at_call 91; refine (Tryd.strings_TrimLeft_one _ 0 (by decide) _).mono ?_; rintro e w1 ⟨rfl, rfl⟩)
  go_ret
  exact ⟨_, rfl, Lib.hid (by rw [ByteArray.toList_mk]; rfl), rfl⟩

theorem be_val (n k : Nat) : Value.int .u8 ((UInt8.ofNat (n / 2 ^ (8 * k))).toNat : Int) = Value.int .u8 ((n : Int) / 2 ^ (8 * k) % 256) := by
  congr 1

theorem bv_set (l : List UInt8) (i : Nat) (c : UInt8) : (bv l).toArray.setIfInBounds i (.int .u8 (c.toNat : Int)) = (bv (l.set i c)).toArray := by
  simp [bv, List.map_set]

theorem magnitude_any (n : Nat) (w : World) :
    Calls Tryd.prog 73 #[.int .u64 n] w fun e w' => ∃ p : ByteArray, e = .returned (.string p) ∧ Hid (p.toList = mag8 n) ∧ Below w.heap.size w w' := by
  go_enter Tryd.func73, Tryd.ntmps73
  go_wp2
  go_loopw [4, 5] (fun _ i wr => ∃ k : Nat, k ≤ 8 ∧ i = .int .i64 k ∧ Blk wr w.heap.size 170 (bv (beTo n k)).toArray ∧ Below w.heap.size w wr) (fun _ i _ => 8 - (intOf i).toNat)
  case atStart => exact ⟨0, Nat.zero_le _, rfl, by rw [beTo_zero]; exact Blk.new _ _ _, (Below.refl _ _).alloc (Nat.le_refl _) _⟩
  case round =>
    obtain ⟨k, hk, rfl, hO, hB⟩ := hrel
    by_cases hlt : k < 8
    · have hc : wr.cell? ⟨w.heap.size, 7 - k, none⟩ = some (.int .u8 (((beTo n k)[7 - k]'(by rw [beTo_length]; omega)).toNat : Int)) := by
        rw [hO.cell]
        have : 7 - k < (beTo n k).length := by rw [beTo_length]; omega
        simp [bv, List.getElem?_eq_getElem this]
      have hf := hO.frozen (7 - k)
      have hst := Lib.hid (hO.set_ (7 - k) (Value.int .u8 ((n : Int) / 2 ^ (8 * k) % 256)))
      go_wp2
      go_roundw
      case rel =>
        refine ⟨k + 1, by omega, by go_num, ?_, hB.setCell (Nat.le_refl _) _⟩
        have h := hst.out
        rw [← be_val, bv_set, beTo_set n k hlt] at h
        rw [← be_val]
        exact h
      case measure => simp [intOf]; omega
    · have hk8 : k = 8 := by omega
      subst hk8
      have hcv : (convert 111 9 (.slice (some ⟨w.heap.size, 0, none⟩) 8 8)).run Tryd.prog wr = .ok (.string ⟨(beTo n 8).toArray⟩) wr := by
        have := run_convert_bytes_back (P := Tryd.prog) wr 111 9 5 ⟨w.heap.size, 0, none⟩ 8 (beTo n 8) Tryd.underlying111 Tryd.underlying5 Tryd.underlying9 (fun j hj => by
          have e : (⟨w.heap.size, 0, none⟩ : Addr).add j = ⟨w.heap.size, j, none⟩ := by unfold Addr.add; split <;> simp_all
          rw [e, hO.cell]
          simp [bv, List.getElem?_eq_getElem hj])
        rw [beTo_length] at this
        exact this
      have HC := Lib.hid hcv
      clear hcv
      go_wp2_with fail
      refine (shortest_any _ _ _ HC.out).mono ?_
      rintro e w2 ⟨p, rfl, hp, rfl⟩
      go_wp2
      go_ret
      exact ⟨p, rfl, hp, hB⟩

theorem magnitude_c (x : Int) (w : World) (h0 : 0 ≤ x) (_h1 : x ≤ 9223372036854775808) :
    Calls Tryd.prog 73 #[.int .u64 x] w fun e w' => ∃ p : ByteArray, e = .returned (.string p) ∧ Hid (p.toList = mag8 x.toNat) ∧ Below w.heap.size w w' := by
  obtain ⟨n, rfl⟩ := Int.eq_ofNat_of_zero_le h0
  rw [Int.toNat_natCast]
  exact magnitude_any n w

theorem num_free {w w1 : World} {b : Bool} {s : ByteArray} {T : TypeId} (hb : Below (w.alloc (.cells #[.bool b, .string s] T)).heap.size (w.alloc (.cells #[.bool b, .string s] T)) w1) :
    w1.frozen? ⟨w.heap.size, 0, none⟩ = false ∧ w1.frozen? ⟨w.heap.size, 1, none⟩ = false :=
  ⟨(hb.frozen (p := ⟨w.heap.size, 0, none⟩) (by simp)).trans (by simp), (hb.frozen (p := ⟨w.heap.size, 1, none⟩) (by simp)).trans (by simp)⟩

theorem of_minus (i : Int) (w : World) (h0 : i < 0) (h1 : -9223372036854775808 ≤ i) :
    Calls Tryd.prog 31 #[.int .i64 i] w fun e w' => ∃ p : ByteArray, e = .returned (.agg #[.bool true, .string p]) ∧ Hid (p.toList = mag8 i.natAbs) ∧ Below w.heap.size w w' := by
  go_enter Tryd.func31, Tryd.ntmps31
  go_wp2_with fail
  refine (magnitude_c _ _ (by omega) (by omega)).mono ?_
  rintro e w1 ⟨p, rfl, hp, hb1⟩
  obtain ⟨c0, c1, hz, hbw⟩ := num_cells hb1
  obtain ⟨f0, f1⟩ := num_free hb1
  have hp2 := Lib.hid (show p.toList = mag8 i.natAbs by rw [hp.out, show (-(i + 1) + 1).toNat = i.natAbs from by omega])
  clear hp hb1
  go_wp2
  refine bodyPost_ret (v := .agg #[.bool true, .string p]) (by simp [results, Tryd.results31, go_sem, c0, c1]) rfl ⟨p, rfl, hp2, (hbw.setCell (Nat.le_refl _) _).setCell (Nat.le_refl _) _⟩
theorem of_plus (i : Int) (w : World) (h0 : 0 ≤ i) (h1 : i ≤ 9223372036854775807) :
    Calls Tryd.prog 31 #[.int .i64 i] w fun e w' => ∃ p : ByteArray, e = .returned (.agg #[.bool false, .string p]) ∧ Hid (p.toList = mag8 i.natAbs) ∧ Below w.heap.size w w' := by
  have hn : ¬ i < 0 := by omega
  go_enter Tryd.func31, Tryd.ntmps31
  go_wp2_with fail
  refine (magnitude_c _ _ (by omega) (by omega)).mono ?_
  rintro e w1 ⟨p, rfl, hp, hb1⟩
  obtain ⟨c0, c1, hz, hbw⟩ := num_cells hb1
  obtain ⟨f0, f1⟩ := num_free hb1
  have hp2 := Lib.hid (show p.toList = mag8 i.natAbs by rw [hp.out, show i.toNat = i.natAbs from by omega])
  clear hp hb1
  go_wp2
  refine bodyPost_ret (v := .agg #[.bool false, .string p]) (by simp [results, Tryd.results31, go_sem, c0, c1]) rfl ⟨p, rfl, hp2, (hbw.setCell (Nat.le_refl _) _).setCell (Nat.le_refl _) _⟩
end Go.Proofs.YtcgphlilijeifaaDoor
