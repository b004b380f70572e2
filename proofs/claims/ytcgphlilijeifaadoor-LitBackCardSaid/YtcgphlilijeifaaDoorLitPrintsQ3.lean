import Derived.Laws.Bits64
import Derived.Laws.Bits64b
import Derived.BigRegion
import Derived.WalkSmall
import Derived.Deep.LoopGhost
import Derived.Test.YtcgphlilijeifaaDoorLitPrintsQ2
import Derived.Test.YtcgphlilijeifaaDoorLitPrintsQ0
section
/-
  The contracts of nat.shortest, nat.magnitude, nat.Of and nat.Small.
-/
namespace Go.Proofs.YtcgphlilijeifaaDoor
open Go.RowKit

/-- Block g is just the cells cs, none of them frozen. -/
def Blk (w : World) (g : Nat) (t : TypeId) (cs : Array Value) : Prop := w.heap[g]? = some (.cells cs t (0, 0))
section
variable {w w' : World} {g : Nat} {t : TypeId} {cs : Array Value}
theorem Blk.lt (h : Blk w g t cs) : g < w.heap.size := by
  rcases Nat.lt_or_ge g w.heap.size with hlt | hge
  · exact hlt
  · unfold Blk at h; rw [Array.getElem?_eq_none hge] at h; cases h
theorem Blk.cell (h : Blk w g t cs) (i : Nat) : w.cell? ⟨g, i, none⟩ = cs[i]? := cell_of_row w g i cs t (0, 0) h
theorem Blk.frozen (h : Blk w g t cs) (i : Nat) : w.frozen? ⟨g, i, none⟩ = false := by
  unfold Blk at h
  simp [World.frozen?, h]
theorem Blk.new (w : World) (t : TypeId) (cs : Array Value) : Blk (w.alloc (.cells cs t)) w.heap.size t cs := heap_alloc_new w _
theorem Blk.set_ (h : Blk w g t cs) (i : Nat) (u : Value) : Blk (w.setCell ⟨g, i, none⟩ u) g t (cs.setIfInBounds i u) := by
  unfold Blk at h ⊢
  simp [World.setCell, Array.getElem?_modify, h]
theorem Blk.below {B : Nat} (h : Blk w g t cs) (hb : Below B w w') (hg : g < B) : Blk w' g t cs := (hb.block g hg).trans h
end

theorem shortest_any (v : Value) (l : List UInt8) (w : World) (hcv : (convert 111 9 v).run Tryd.prog w = .ok (.string ⟨l.toArray⟩) w) :
    Calls Tryd.prog 56 #[v] w fun e w' => ∃ p : ByteArray, e = .returned (.string p) ∧ Hid (p.toList = strip l) ∧ w = w' := by
  go_enter Tryd.func56, Tryd.ntmps56
  go_wp2_with (go_at_call 91; refine (Tryd.strings_TrimLeft_one _ 0 (by decide) _).mono ?_; rintro e w1 ⟨rfl, rfl⟩)
  go_ret
  exact ⟨_, rfl, Lib.hid (by rw [ByteArray.toList_mk]; rfl), rfl⟩

theorem be_val (n k : Nat) : Value.int .u8 ((UInt8.ofNat (n / 2 ^ (8 * k))).toNat : Int) = Value.int .u8 ((n : Int) / 2 ^ (8 * k) % 256) := by
  congr 1

theorem bv_set (l : List UInt8) (i : Nat) (c : UInt8) : (bv l).toArray.setIfInBounds i (.int .u8 (c.toNat : Int)) = (bv (l.set i c)).toArray := by
  simp [bv, List.map_set]

theorem magnitude_any (n : Nat) (w : World) :
    Calls Tryd.prog 73 #[.int .u64 n] w fun e w' => ∃ p : ByteArray, e = .returned (.string p) ∧ Hid (p.toList = mag8 n) ∧ Below w.heap.size w w' := by
  go_enter Tryd.func73, Tryd.ntmps73
  go_wp2
  go_loopw [4, 5] (fun _ i wr => ∃ k : Nat, k ≤ 8 ∧ i = .int .i64 k ∧ Blk wr w.heap.size 170 (bv (beTo n k)).toArray ∧ Below w.heap.size w wr) (fun _ i _ => 8 - (intOf i).toNat)
  case atStart => exact ⟨0, Nat.zero_le _, rfl, by rw [beTo_zero]; exact Blk.new _ _ _, (Below.refl _ _).alloc (Nat.le_refl _) _⟩
  case round =>
    obtain ⟨k, hk, rfl, hO, hB⟩ := hrel
    by_cases hlt : k < 8
    · have hc : wr.cell? ⟨w.heap.size, 7 - k, none⟩ = some (.int .u8 (((beTo n k)[7 - k]'(by rw [beTo_length]; omega)).toNat : Int)) := by
        rw [hO.cell]
        have : 7 - k < (beTo n k).length := by rw [beTo_length]; omega
        simp [bv, List.getElem?_eq_getElem this]
      have hf := hO.frozen (7 - k)
      have hst := Lib.hid (hO.set_ (7 - k) (Value.int .u8 ((n : Int) / 2 ^ (8 * k) % 256)))
      go_wp2
      go_roundw
      case rel =>
        refine ⟨k + 1, by omega, by go_num, ?_, hB.setCell (Nat.le_refl _) _⟩
        have h := hst.out
        rw [← be_val, bv_set, beTo_set n k hlt] at h
        rw [← be_val]
        exact h
      case measure => simp [intOf]; omega
    · have hk8 : k = 8 := by omega
      subst hk8
      have hcv : (convert 111 9 (.slice (some ⟨w.heap.size, 0, none⟩) 8 8)).run Tryd.prog wr = .ok (.string ⟨(beTo n 8).toArray⟩) wr := by
        have := run_convert_bytes_back (P := Tryd.prog) wr 111 9 5 ⟨w.heap.size, 0, none⟩ 8 (beTo n 8) Tryd.underlying111 Tryd.underlying5 Tryd.underlying9 (fun j hj => by
          have e : (⟨w.heap.size, 0, none⟩ : Addr).add j = ⟨w.heap.size, j, none⟩ := by unfold Addr.add; split <;> simp_all
          rw [e, hO.cell]
          simp [bv, List.getElem?_eq_getElem hj])
        rw [beTo_length] at this
        exact this
      have HC := Lib.hid hcv
      clear hcv
      go_wp2_with fail
      refine (shortest_any _ _ _ HC.out).mono ?_
      rintro e w2 ⟨p, rfl, hp, rfl⟩
      go_wp2
      go_ret
      exact ⟨p, rfl, hp, hB⟩

theorem magnitude_c (x : Int) (w : World) (h0 : 0 ≤ x) (_h1 : x ≤ 9223372036854775808) :
    Calls Tryd.prog 73 #[.int .u64 x] w fun e w' => ∃ p : ByteArray, e = .returned (.string p) ∧ Hid (p.toList = mag8 x.toNat) ∧ Below w.heap.size w w' := by
  obtain ⟨n, rfl⟩ := Int.eq_ofNat_of_zero_le h0
  rw [Int.toNat_natCast]
  exact magnitude_any n w

theorem num_free {w w1 : World} {b : Bool} {s : ByteArray} {T : TypeId} (hb : Below (w.alloc (.cells #[.bool b, .string s] T)).heap.size (w.alloc (.cells #[.bool b, .string s] T)) w1) :
    w1.frozen? ⟨w.heap.size, 0, none⟩ = false ∧ w1.frozen? ⟨w.heap.size, 1, none⟩ = false :=
  ⟨(hb.frozen (p := ⟨w.heap.size, 0, none⟩) (by simp)).trans (by simp), (hb.frozen (p := ⟨w.heap.size, 1, none⟩) (by simp)).trans (by simp)⟩

theorem of_minus (i : Int) (w : World) (h0 : i < 0) (h1 : -9223372036854775808 ≤ i) :
    Calls Tryd.prog 31 #[.int .i64 i] w fun e w' => ∃ p : ByteArray, e = .returned (.agg #[.bool true, .string p]) ∧ Hid (p.toList = mag8 i.natAbs) ∧ Below w.heap.size w w' := by
  go_enter Tryd.func31, Tryd.ntmps31
  go_wp2_with fail
  refine (magnitude_c _ _ (by omega) (by omega)).mono ?_
  rintro e w1 ⟨p, rfl, hp, hb1⟩
  obtain ⟨c0, c1, hz, hbw⟩ := num_cells hb1
  obtain ⟨f0, f1⟩ := num_free hb1
  have hp2 := Lib.hid (show p.toList = mag8 i.natAbs by rw [hp.out, show (-(i + 1) + 1).toNat = i.natAbs from by omega])
  clear hp hb1
  go_wp2
  refine bodyPost_ret (v := .agg #[.bool true, .string p]) (by simp [results, Tryd.results31, go_sem, c0, c1]) rfl ⟨p, rfl, hp2, (hbw.setCell (Nat.le_refl _) _).setCell (Nat.le_refl _) _⟩
theorem of_plus (i : Int) (w : World) (h0 : 0 ≤ i) (h1 : i ≤ 9223372036854775807) :
    Calls Tryd.prog 31 #[.int .i64 i] w fun e w' => ∃ p : ByteArray, e = .returned (.agg #[.bool false, .string p]) ∧ Hid (p.toList = mag8 i.natAbs) ∧ Below w.heap.size w w' := by
  have hn : ¬ i < 0 := by omega
  go_enter Tryd.func31, Tryd.ntmps31
  go_wp2_with fail
  refine (magnitude_c _ _ (by omega) (by omega)).mono ?_
  rintro e w1 ⟨p, rfl, hp, hb1⟩
  obtain ⟨c0, c1, hz, hbw⟩ := num_cells hb1
  obtain ⟨f0, f1⟩ := num_free hb1
  have hp2 := Lib.hid (show p.toList = mag8 i.natAbs by rw [hp.out, show i.toNat = i.natAbs from by omega])
  clear hp hb1
  go_wp2
  refine bodyPost_ret (v := .agg #[.bool false, .string p]) (by simp [results, Tryd.results31, go_sem, c0, c1]) rfl ⟨p, rfl, hp2, (hbw.setCell (Nat.le_refl _) _).setCell (Nat.le_refl _) _⟩
end Go.Proofs.YtcgphlilijeifaaDoor
end
section
/-
  The contract of nat.Small.
-/
namespace Go.Proofs.YtcgphlilijeifaaDoor
open Go.RowKit

theorem nv_bound (s : ByteArray) (k : Nat) (hk : k ≤ 7) : nv (s.data.toList.take k) < 72057594037927936 := by
  have h := nv_lt (s.data.toList.take k)
  have h2 : 256 ^ (s.data.toList.take k).length ≤ 256 ^ 7 := pow_mono (by have := List.length_take_le k s.data.toList; omega)
  have : 256 ^ 7 = 72057594037927936 := by decide
  omega
theorem nv_take (s : ByteArray) (k : Nat) (h : k < s.size) : nv (s.data.toList.take (k + 1)) = 256 * nv (s.data.toList.take k) + s[k].toNat := by
  rw [take_snoc s k h, nv_snoc]

theorem shl_or (u c : Nat) (hu : u < 72057594037927936) (hc : c < 256) : bits .or .u64 ((u : Int) * 256) (c : Int) = ((256 * u + c : Nat) : Int) := by
  have h := bits_or_u64_nat (256 * u) c (by omega) (by omega)
  rw [show ((u : Int) * 256) = ((256 * u : Nat) : Int) by omega, h]
  have := Nat.two_pow_add_eq_or_of_lt (i := 8) (b := c) (by omega) u
  rw [show 256 * u ||| c = 256 * u + c from this.symm]

/-- What Small tells. -/
def smallV (b : Bool) (m : List UInt8) : Int × Bool :=
  if chk b m ≠ 0 ∨ 8 < m.length then (0, false)
  else if b then (if nv m ≤ 9223372036854775808 then (-(nv m : Int), true) else (0, false))
  else (if nv m < 9223372036854775808 then ((nv m : Int), true) else (0, false))

theorem small_bad (b : Bool) (s : ByteArray) (w : World) (hs : s.size ≤ 9223372036854775807) (h : chk b s.toList ≠ 0 ∨ 8 < s.size) :
    Calls Tryd.prog 32 #[.agg #[.bool b, .string s]] w fun e w' => e = .returned (.tuple #[.int .i64 0, .bool false]) ∧ Below w.heap.size w w' := by
  by_cases h0 : chk b s.toList = 0
  · have h8 : 8 < s.size := h.resolve_left (fun e => e h0)
    have HR := Lib.hid h0
    clear h h0
    go_enter Tryd.func32, Tryd.ntmps32
    go_wp2_with fail
    refine (check_any b s _ hs 0 HR.out).mono ?_
    rintro e w1 ⟨rfl, hb1⟩
    obtain ⟨c0, c1, hz, hbw⟩ := num_cells hb1
    clear hb1
    go_wp2
    go_ret2
    exact ⟨rfl, hbw⟩
  · obtain ⟨r, hr⟩ : ∃ r, chk b s.toList = r := ⟨_, rfl⟩
    have f : (r != 0) = true := by rw [← hr]; simpa using h0
    have HR := Lib.hid hr
    clear h h0 hr
    go_enter Tryd.func32, Tryd.ntmps32
    go_wp2_with fail
    refine (check_any b s _ hs r HR.out).mono ?_
    rintro e w1 ⟨rfl, hb1⟩
    obtain ⟨c0, c1, hz, hbw⟩ := num_cells hb1
    clear hb1
    go_wp2
    go_ret2
    exact ⟨rfl, hbw⟩

theorem ret_small {x y : Int} {a : Bool} (h : x = y) : Ending.returned (.tuple #[.int .i64 x, .bool a]) = Ending.returned (.tuple #[.int .i64 y, .bool a]) := by rw [h]

theorem ret_small2 {x : Int} {a : Bool} {r : Int × Bool} (h : (x, a) = r) : Ending.returned (.tuple #[.int .i64 x, .bool a]) = Ending.returned (.tuple #[.int .i64 r.1, .bool r.2]) := by subst h; rfl

set_option maxHeartbeats 400000 in
theorem small_ok (b : Bool) (s : ByteArray) (w : World) (hr : chk b s.toList = 0) (h8 : s.size ≤ 8) :
    Calls Tryd.prog 32 #[.agg #[.bool b, .string s]] w fun e w' => e = .returned (.tuple #[.int .i64 (smallV b s.toList).1, .bool (smallV b s.toList).2]) ∧ Below w.heap.size w w' := by
  obtain ⟨r, hr2⟩ : ∃ r, smallV b s.toList = r := ⟨_, rfl⟩
  rw [hr2]
  have HS := Lib.hid hr2
  have HR := Lib.hid hr
  clear hr hr2
  go_enter Tryd.func32, Tryd.ntmps32
  go_wp2_with fail
  refine (check_any b s _ (by omega) 0 HR.out).mono ?_
  rintro e w1 ⟨rfl, hb1⟩
  obtain ⟨c0, c1, hz, hbw⟩ := num_cells hb1
  clear hb1
  have hd8 : decide (8 < (s.size : Int)) = false := by simp; omega
  go_wp2
  go_loop [4, 5, 18] (fun u _ i => ∃ k : Nat, k ≤ s.size ∧ i = .int .i64 k ∧ u = .int .u64 (nv (s.data.toList.take k))) (fun _ _ i => s.size - (intOf i).toNat)
  case atStart => exact ⟨0, Nat.zero_le _, rfl, rfl⟩
  case round =>
    obtain ⟨k, hk, rfl, rfl⟩ := hrel
    by_cases hlt : k < s.size
    · have hb := nv_bound s k (by omega)
      have hbd := s[k].toNat_lt
      have HV := Lib.hid (nv_take s k hlt)
      obtain ⟨u, hu⟩ : ∃ u, u = nv (s.data.toList.take k) := ⟨_, rfl⟩
      rw [← hu] at hb HV
      rw [← hu]
      clear hu
      go_wp2
      go_round
      case rel => exact ⟨k + 1, by omega, by go_num, by rw [shl_or u _ hb hbd, HV.out]⟩
      case measure => simp [intOf]; omega
    · rw [take_end s k hlt, ← Lib.toList_data]
      have hlen : s.toList.length ≤ 8 := by rw [size_of]; exact h8
      obtain ⟨u, hu⟩ : ∃ u, u = nv s.toList := ⟨_, rfl⟩
      have hu64 : u < 18446744073709551616 := by
        have h1 := nv_lt s.toList
        have h2 : 256 ^ s.toList.length ≤ 256 ^ 8 := pow_mono hlen
        have : 256 ^ 8 = 18446744073709551616 := by decide
        omega
      have hpos : b = true → 0 < u := by
        intro hbt
        have hc := chk_zero_iff.1 HR.out
        rcases Nat.eq_zero_or_pos u with h | h
        · have := nv_zero hc.2.2 (by rw [← hu]; exact h)
          have := hc.2.1 this
          rw [hbt] at this; cases this
        · exact h
      have hV := HS.out
      unfold smallV at hV
      rw [if_neg (by rw [HR.out]; simp; omega), ← hu] at hV
      rw [← hu]
      have HVV := Lib.hid hV
      clear hV hu hlen HS hd8
      cases b
      · simp only [Bool.false_eq_true, if_false] at HVV
        clear hpos
        by_cases h3 : u < 9223372036854775808
        · have hv := HVV.out
          rw [if_pos h3] at hv
          have H := Lib.hid hv
          clear hv HVV
          have d3 : decide ((u : Int) < 9223372036854775808) = true := by simp; omega
          go_wp2
          go_ret2
          exact ⟨ret_small2 H.out, hbw⟩
        · have hv := HVV.out
          rw [if_neg h3] at hv
          have H := Lib.hid hv
          clear hv HVV
          have d3 : decide ((u : Int) < 9223372036854775808) = false := by simp; omega
          go_wp2
          go_ret2
          exact ⟨ret_small2 H.out, hbw⟩
      · simp only [if_true] at HVV
        have hp := hpos rfl
        clear hpos
        by_cases h3 : u ≤ 9223372036854775808
        · have hv := HVV.out
          rw [if_pos h3] at hv
          have H := Lib.hid hv
          clear hv HVV
          have d3 : decide ((u : Int) ≤ 9223372036854775808) = true := by simp; omega
          go_wp2
          go_ret2
          exact ⟨(ret_small (by omega)).trans (ret_small2 H.out), hbw⟩
        · have hv := HVV.out
          rw [if_neg h3] at hv
          have H := Lib.hid hv
          clear hv HVV
          have d3 : decide ((u : Int) ≤ 9223372036854775808) = false := by simp; omega
          go_wp2
          go_ret2
          exact ⟨ret_small2 H.out, hbw⟩

theorem small_any (b : Bool) (s : ByteArray) (w : World) (hs : s.size ≤ 9223372036854775807) (r : Int × Bool) (hr : smallV b s.toList = r) :
    Calls Tryd.prog 32 #[.agg #[.bool b, .string s]] w fun e w' => e = .returned (.tuple #[.int .i64 r.1, .bool r.2]) ∧ Below w.heap.size w w' := by
  subst hr
  by_cases h : chk b s.toList ≠ 0 ∨ 8 < s.size
  · have : smallV b s.toList = (0, false) := by unfold smallV; rw [if_pos (by rw [size_of]; exact h)]
    rw [this]
    exact small_bad b s w hs h
  · exact small_ok b s w (Classical.byContradiction fun e => h (.inl e)) (by omega)
end Go.Proofs.YtcgphlilijeifaaDoor
end
section
/-
  Rows of bytes in a block that the call made; bytes of a string; slices.Reverse of bytes.
-/
namespace Go.Proofs.YtcgphlilijeifaaDoor
open Go.RowKit

/-- The first cells of block g are the bytes l, none of them frozen. -/
def RowB (w : World) (g : Nat) (l : List UInt8) : Prop := g < w.heap.size ∧ ∀ i (h : i < l.length), w.cell? ⟨g, i, none⟩ = some (.int .u8 (l[i].toNat : Int)) ∧ w.frozen? ⟨g, i, none⟩ = false
section
variable {w w' : World} {g : Nat} {l : List UInt8}
theorem RowB.cell (h : RowB w g l) (i : Nat) (hi : i < l.length) : w.cell? ⟨g, i, none⟩ = some (.int .u8 (l[i].toNat : Int)) := (h.2 i hi).1
theorem RowB.frozen (h : RowB w g l) (i : Nat) (hi : i < l.length) : w.frozen? ⟨g, i, none⟩ = false := (h.2 i hi).2
theorem RowB.same (h : RowB w g l) (hb : w'.heap[g]? = w.heap[g]?) (hs : w.heap.size ≤ w'.heap.size) : RowB w' g l :=
  ⟨Nat.lt_of_lt_of_le h.1 hs, fun i hi => ⟨(World.cell?_of_block hb).trans (h.2 i hi).1, (World.frozen?_of_block hb).trans (h.2 i hi).2⟩⟩
theorem RowB.below {B : Nat} (h : RowB w g l) (hb : Below B w w') (hg : g < B) : RowB w' g l := h.same (hb.block g hg) hb.size
theorem RowB.grown {row : Option Nat} (h : RowB w g l) (hb : w.grownBy w' row) (hg : some g ≠ row) : RowB w' g l := h.same (hb.block g h.1 hg) hb.size
theorem RowB.alloc (h : RowB w g l) (o : Obj) : RowB (w.alloc o) g l := h.same (Below.heap_alloc w o g h.1) (by simp)
theorem RowB.drew (h : RowB w g l) : RowB w.drew g l := h
theorem RowB.set (h : RowB w g l) (i : Nat) (c : UInt8) (hi : i < l.length) : RowB (w.setCell ⟨g, i, none⟩ (.int .u8 (c.toNat : Int))) g (l.set i c) := by
  refine ⟨by simpa [World.setCell] using h.1, fun j hj => ?_⟩
  have hj' : j < l.length := by simpa using hj
  refine ⟨?_, ?_⟩
  · by_cases e : i = j
    · subst e
      rw [List.getElem_set_self]
      exact World.cell?_setCell_same w _ _ (h.cell i hi)
    · rw [List.getElem_set_ne e, World.cell?_setCell_other w ⟨g, i, none⟩ ⟨g, j, none⟩ _ (by intro e2; injection e2 with _ e3; exact e e3)]
      exact h.cell j hj'
  · rw [World.frozen?_setCell]
    exact h.frozen j hj'
theorem RowB.conv (h : RowB w g l) (cap n : Nat) (hn : n = l.length) : (convert 111 9 (.slice (some ⟨g, 0, none⟩) n cap)).run Tryd.prog w = .ok (.string ⟨l.toArray⟩) w := by
  subst hn
  refine run_convert_bytes_back (P := Tryd.prog) w 111 9 5 ⟨g, 0, none⟩ cap l Tryd.underlying111 Tryd.underlying5 Tryd.underlying9 (fun j hj => ?_)
  have e : (⟨g, 0, none⟩ : Addr).add j = ⟨g, j, none⟩ := by unfold Addr.add; split <;> simp_all
  rw [e]
  exact h.cell j hj
end
theorem OwnB.row {w : World} {base g n cap : Nat} {l : List UInt8} (h : OwnB w base (.slice (some ⟨g, 0, none⟩) n cap) l) : RowB w g l := by
  rcases h.2 with ⟨hv, _⟩ | ⟨g', cap', cur, hv, hg, hgg, rest⟩
  · cases hv
  · injection hv with e1 e2 e3
    injection e1 with e1
    injection e1 with e1 _ _
    subst e1 e3
    refine ⟨(Array.getElem?_eq_some_iff.1 hgg).1, fun i hi => ⟨?_, ?_⟩⟩
    · have := World.ownsRow.cells h (g := g) rfl i (.int .u8 (l[i].toNat : Int)) (by simp [bv, List.getElem?_eq_getElem hi])
      have e : (⟨g, 0, none⟩ : Addr).add i = ⟨g, i, none⟩ := by unfold Addr.add; split <;> simp_all
      rw [e] at this
      exact this
    · simp [World.frozen?, hgg]

/-- The bytes of a string, in a new block. -/
theorem conv_string (w : World) (s : ByteArray) : ∃ w' cap, (convert 9 111 (.string s)).run Tryd.prog w = .ok (.slice (some ⟨w.heap.size, 0, none⟩) s.size cap) w' ∧
    RowB w' w.heap.size s.toList ∧ Below w.heap.size w w' ∧ w.heap.size < w'.heap.size := by
  refine ⟨_, _, run_bytes_of_string (P := Tryd.prog) w 9 111 5 s Tryd.underlying9 Tryd.underlying111 Tryd.underlying5, ⟨by simp, fun i hi => ?_⟩, ((Below.refl _ _).drew).alloc (by simp) _, by simp⟩
  have hi' : i < s.size := by rw [← size_of]; exact hi
  have hsz : s.data.size = s.size := rfl
  have hC : (bytesRow s (grownCap w s.size 0 5))[i]? = some (.int .u8 (s.toList[i].toNat : Int)) := by
    have e : s.toList = s.data.toList := Lib.toList_data s
    have e2 : s.toList[i]? = s.data.toList[i]? := by rw [e]
    rw [List.getElem?_eq_getElem hi] at e2
    simp only [bytesRow, Array.getElem?_append, Array.size_map, hsz, hi', if_true, Array.getElem?_map]
    rw [Array.getElem?_toList] at e2
    rw [← e2]
    rfl
  constructor
  · rw [show (w.drew.alloc (.cells (bytesRow s (grownCap w s.size 0 5)) 5 ((bytesRow s (grownCap w s.size 0 5)).size, (bytesRow s (grownCap w s.size 0 5)).size + 1))).cell? ⟨w.heap.size, i, none⟩ = (bytesRow s (grownCap w s.size 0 5))[i]? from World.cell?_alloc_mark w.drew _ 5 _ i]
    exact hC
  · have hb : (w.drew.alloc (.cells (bytesRow s (grownCap w s.size 0 5)) 5 ((bytesRow s (grownCap w s.size 0 5)).size, (bytesRow s (grownCap w s.size 0 5)).size + 1))).heap[w.heap.size]? = some (.cells (bytesRow s (grownCap w s.size 0 5)) 5 ((bytesRow s (grownCap w s.size 0 5)).size, (bytesRow s (grownCap w s.size 0 5)).size + 1)) := heap_alloc_new w.drew _
    have hlt : i < (bytesRow s (grownCap w s.size 0 5)).size := (Array.getElem?_eq_some_iff.1 hC).1
    simp only [World.frozen?, hb]
    simp; omega

/-- Bytes appended; beside it, which block alone may have been written. -/
theorem wpList_append_bytes2 {P : Program} {ops : Array Oper} {rest : List Oper} {o : Oper} {a : Act} {Q : Exit → Act → World → Prop} {W w : World} (hgd : o.guard = none) (s x : Operand) (t : TypeId)
    (ho : o.op = .call { callee := .builtin .append, args := #[s, x], argTypes := #[t, t] })
    (ht : P.underlying t = some (.slice 5)) (hinfo : (P.info? 5).map (fun i => (i.zero, i.size, i.bytes)) = some (some (.int .u8 0), 1, 1))
    {base : Nat} {v : Value} {l : List UInt8} (hs : a.eval s = v) (hown : OwnB w base v l)
    (ad : Addr) (m : List UInt8) (k c : Nat) (hk : m.length = k) (hx : a.eval x = .slice (some ad) k c) (hnews : ∀ j u, (bv m)[j]? = some u → w.cell? (ad.add j) = some u)
    (hlen : l.length + k ≤ 140737488355328) (hB : Below base W w) (hbase : base ≤ w.heap.size)
    (h : ∀ v' w', OwnB w' base v' (l ++ m) → Below base W w' → base ≤ w'.heap.size → w.grownBy w' v.ownBlock → wpList P ops Q rest (a.put o.dst v') w') : wpList P ops Q (o :: rest) a w := by
  subst hk
  obtain ⟨i0, hi, hz0, hz1, hz2⟩ := info_parts hinfo
  refine wpList_append_own w hgd s x t ho base 5 i0 (.int .u8 0) 1 1 ht hi hz0 hz1 hz2 rfl (by decide) v l.length (bv l) hs hown ad m.length c (bv m) hx (by simp [bv_length]) hnews (bv_one m) (by unfold maxLen; omega) (by omega) hbase ?_
  intro v' w' ho' hg _
  refine h v' w' ?_ (hB.grown hg hbase fun k hk => (World.ownsRow.lt hown k hk).1) (Nat.le_trans hbase hg.size) hg
  unfold OwnB
  rw [bv_append] at ho'
  simpa using ho'
def lenOf : Value → Nat
  | .slice _ n _ => n
  | _ => 0
theorem OwnB.lenOf {w : World} {base : Nat} {v : Value} {l : List UInt8} (h : OwnB w base v l) : lenOf v = l.length := by
  rcases h.2 with ⟨rfl, hn⟩ | ⟨g, cap, cur, rfl, _⟩
  · exact hn.symm
  · rfl
theorem OwnB.block_lt {w : World} {base : Nat} {v : Value} {l : List UInt8} (h : OwnB w base v l) {g : Nat} (hg : w.heap.size ≤ g) : some g ≠ v.ownBlock := by
  intro e
  have := (World.ownsRow.lt h g e.symm).2
  omega
theorem OwnB.setOther {w : World} {base : Nat} {v : Value} {l : List UInt8} (h : OwnB w base v l) {g i : Nat} {u : Value} (hg : some g ≠ v.ownBlock) : OwnB (w.setCell ⟨g, i, none⟩ u) base v l := by
  refine ⟨h.1, ?_⟩
  rcases h.2 with hn | ⟨g', cap, cur, rfl, hb, hgg, rest⟩
  · exact .inl hn
  · refine .inr ⟨g', cap, cur, rfl, hb, ?_, rest⟩
    rw [Below.heap_setCell _ _ _ _ (by intro e; exact hg (by simp [Value.ownBlock, e]))]
    exact hgg
theorem OwnB.form {w : World} {base : Nat} {v : Value} {l : List UInt8} (h : OwnB w base v l) (hl : l ≠ []) : ∃ g cap, v = .slice (some ⟨g, 0, none⟩) l.length cap ∧ base ≤ g := by
  rcases h.2 with ⟨rfl, hn⟩ | ⟨g, cap, cur, rfl, hb, _⟩
  · exact absurd (List.eq_nil_of_length_eq_zero hn) hl
  · exact ⟨g, cap, rfl, hb⟩

/-- After k exchanges from both ends. -/
def revTo (l : List UInt8) (k : Nat) : List UInt8 := (List.range l.length).map fun i => if i < k ∨ l.length - 1 - i < k then l.getD (l.length - 1 - i) 0 else l.getD i 0
theorem revTo_length (l : List UInt8) (k : Nat) : (revTo l k).length = l.length := by simp [revTo]
theorem revTo_get (l : List UInt8) (k i : Nat) (hi : i < l.length) : (revTo l k)[i]? = some (if i < k ∨ l.length - 1 - i < k then l.getD (l.length - 1 - i) 0 else l.getD i 0) := by simp [revTo, hi]
theorem revTo_zero (l : List UInt8) : revTo l 0 = l := by
  apply List.ext_getElem?
  intro i
  by_cases hi : i < l.length
  · rw [revTo_get l 0 i hi]
    simp [hi]
  · rw [List.getElem?_eq_none (by rw [revTo_length]; omega), List.getElem?_eq_none (by omega)]
theorem revTo_end (l : List UInt8) (k : Nat) (h : l.length ≤ 2 * k + 1) : revTo l k = l.reverse := by
  apply List.ext_getElem?
  intro i
  by_cases hi : i < l.length
  · rw [revTo_get l k i hi, List.getElem?_reverse hi]
    by_cases e : i < k ∨ l.length - 1 - i < k
    · rw [if_pos e, List.getElem?_eq_getElem (by omega)]
      simp [List.getD, List.getElem?_eq_getElem (show l.length - 1 - i < l.length by omega)]
    · rw [if_neg e, show l.length - 1 - i = i by omega, List.getElem?_eq_getElem hi]
      simp [List.getD, List.getElem?_eq_getElem hi]
  · rw [List.getElem?_eq_none (by rw [revTo_length]; omega), List.getElem?_eq_none (by rw [List.length_reverse]; omega)]
theorem revTo_step (l : List UInt8) (k m : Nat) (h : k + m + 1 = l.length) (hk : k < m) (a b : UInt8) (ha : (revTo l k)[k]? = some a) (hb : (revTo l k)[m]? = some b) :
    ((revTo l k).set k b).set m a = revTo l (k + 1) := by
  apply List.ext_getElem?
  intro i
  have hka : a = l.getD k 0 := by
    rw [revTo_get l k k (by omega), if_neg (by omega)] at ha
    exact (Option.some.inj ha).symm
  have hmb : b = l.getD m 0 := by
    rw [revTo_get l k m (by omega), if_neg (by omega)] at hb
    exact (Option.some.inj hb).symm
  by_cases hi : i < l.length
  · rw [revTo_get l (k + 1) i hi, List.getElem?_set]
    by_cases e : m = i
    · subst e
      rw [if_pos rfl, if_pos (by simp [revTo_length]; omega), if_pos (by omega), hka, show l.length - 1 - m = k by omega]
    · rw [if_neg e, List.getElem?_set]
      by_cases e2 : k = i
      · subst e2
        rw [if_pos rfl, if_pos (by rw [revTo_length]; omega), if_pos (by omega), hmb, show l.length - 1 - k = m by omega]
      · rw [if_neg e2, revTo_get l k i hi]
        by_cases f : i < k ∨ l.length - 1 - i < k
        · rw [if_pos f, if_pos (by omega)]
        · rw [if_neg f, if_neg (by omega)]
  · rw [List.getElem?_eq_none (by simp [revTo_length]; omega), List.getElem?_eq_none (by rw [revTo_length]; omega)]

theorem reverse_any (g n cap : Nat) (l : List UInt8) (w : World) (hr : RowB w g l) (hn : n = l.length) (h0 : 0 < n) (hmax : n ≤ 9223372036854775807) :
    Calls Tryd.prog 57 #[.slice (some ⟨g, 0, none⟩) n cap] w fun e w' => e = .returned (.tuple #[]) ∧ RowB w' g l.reverse ∧ Below g w w' := by
  have HN := Lib.hid hn
  clear hn
  go_enter Tryd.func57, Tryd.ntmps57
  go_wp2
  go_loopw [2, 3] (fun i j wr => ∃ k m : Nat, i = .int .i64 k ∧ j = .int .i64 m ∧ k < n ∧ m < n ∧ k ≤ m + 1 ∧ RowKit.Hid (k + m + 1 = n) ∧ RowB wr g (revTo l k) ∧ Below g w wr) (fun _ j _ => (intOf j).toNat + 1)
  case atStart => exact ⟨0, n - 1, rfl, by go_num, by omega, by omega, by omega, Lib.hid (by omega), by rw [revTo_zero]; exact hr, Below.refl _ _⟩
  case round =>
    clear hr
    obtain ⟨k, m, rfl, rfl, hk, hm, hkm, HK, hO, hB⟩ := hrel
    by_cases hlt : k < m
    · have hkl : k < (revTo l k).length := by rw [revTo_length, ← HN.out]; exact hk
      have hml : m < (revTo l k).length := by rw [revTo_length, ← HN.out]; exact hm
      obtain ⟨a, ha⟩ : ∃ a, (revTo l k)[k] = a := ⟨_, rfl⟩
      obtain ⟨b, hb⟩ : ∃ b, (revTo l k)[m] = b := ⟨_, rfl⟩
      have ck := hO.cell k hkl
      have cm := hO.cell m hml
      have fk := hO.frozen k hkl
      have fm := hO.frozen m hml
      rw [ha] at ck
      rw [hb] at cm
      have HS := Lib.hid (revTo_step l k m (by rw [HK.out, HN.out]) hlt a b (by rw [List.getElem?_eq_getElem hkl, ha]) (by rw [List.getElem?_eq_getElem hml, hb]))
      have HR := Lib.hid ((hO.set k b hkl).set m a (by rw [List.length_set]; exact hml))
      have HB := Lib.hid ((hB.setCell (p := ⟨g, k, none⟩) (Nat.le_refl _) (.int .u8 (b.toNat : Int))).setCell (p := ⟨g, m, none⟩) (Nat.le_refl _) (.int .u8 (a.toNat : Int)))
      clear ha hb hkl hml hO
      go_wp2
      go_region
      all_goals go_wp2
      go_roundw
      case rel => exact ⟨k + 1, m - 1, by go_num, by go_num, by omega, by omega, by omega, Lib.hid (by have := HK.out; omega), by rw [← HS.out]; exact HR.out, HB.out.drew⟩
      case measure => simp [intOf]; omega
    · have HE := Lib.hid (revTo_end l k (by rw [← HN.out]; have := HK.out; omega))
      go_wp2
      go_end0
      exact ⟨rfl, by rw [← HE.out]; exact hO, hB⟩
end Go.Proofs.YtcgphlilijeifaaDoor
end
section
/-
  The contract of nat.Print: the decimal digits, for every number that may be; else Check's error.
-/
namespace Go.Proofs.YtcgphlilijeifaaDoor
open Go.RowKit

/-- A number's digits. -/
def digitsOf (b : Bool) (m : List UInt8) : List UInt8 := if m = [] then [48] else (if b then [45] else []) ++ dec (nv m)

theorem print_bad (b : Bool) (s : ByteArray) (w : World) (hs : s.size ≤ 9223372036854775807) (r : Int) (hr : chk b s.toList = r) (h1 : (r != 0) = true) :
    Calls Tryd.prog 24 #[.agg #[.bool b, .string s]] w fun e w' => e = .returned (.tuple #[.string ⟨#[]⟩, .int .i64 r]) ∧ Below w.heap.size w w' := by
  have HR := Lib.hid hr
  clear hr
  go_enter Tryd.func24, Tryd.ntmps24
  go_wp2_with fail
  refine (check_any b s _ hs r HR.out).mono ?_
  rintro e w1 ⟨rfl, hb1⟩
  go_wp2
  go_ret2
  exact ⟨rfl, (num_cells hb1).2.2.2⟩

theorem print_zero (b : Bool) (s : ByteArray) (w : World) (hr : chk b s.toList = 0) (h0 : s.toList = []) :
    Calls Tryd.prog 24 #[.agg #[.bool b, .string s]] w fun e w' => e = .returned (.tuple #[.string ⟨#[48]⟩, .int .i64 0]) ∧ Below w.heap.size w w' := by
  have hs : s.size = 0 := by rw [← size_of, h0]; rfl
  have hs2 : s.size ≤ 255 := by omega
  have hne : s.toList.isEmpty = true := by rw [h0]; rfl
  have HR := Lib.hid hr
  clear hr hs h0
  go_enter Tryd.func24, Tryd.ntmps24
  go_wp2_with fail
  refine (check_any b s _ (by omega) 0 HR.out).mono ?_
  rintro e w1 ⟨rfl, hb1⟩
  obtain ⟨c0, c1, hz, hbw⟩ := num_cells hb1
  go_wp2
  go_ret2
  exact ⟨rfl, hbw⟩

theorem reverse_c (base : Nat) (v : Value) (l : List UInt8) (w : World) (hO : OwnB w base v l) (hl : l ≠ []) (hmax : l.length ≤ 9223372036854775807) :
    Calls Tryd.prog 57 #[v] w fun e w' => e = .returned (.tuple #[]) ∧ (convert 111 9 v).run Tryd.prog w' = .ok (.string ⟨l.reverse.toArray⟩) w' ∧ Below base w w' := by
  obtain ⟨g, cap, rfl, hg⟩ := hO.form hl
  exact (reverse_any g l.length cap l w hO.row rfl (List.length_pos_iff.2 hl) hmax).mono fun _ _ ⟨he, hr, hb⟩ => ⟨he, hr.conv cap _ (by rw [List.length_reverse]), hb.mono hg⟩

theorem div_byte (q c : Nat) (h : q ≤ 9) (hc : c < 256) : ((UInt8.ofNat ((q * 256 + c) / 10)).toNat : Int) = ((q : Int) * 256 + (c : Int)) / 10 := by
  rw [ofNat_toNat _ (by omega)]
  omega
/-- What a round of the outer loop does to the digits. -/
theorem dec_round {l o : List UInt8} {m : Nat} (h : dec m = dec (nv l) ++ o.reverse) (hl : l ≠ []) (h0 : l.head? ≠ some 0) (q : Nat) (hq : q = (divMod l 0).2) :
    dec m = dec (nv (strip (divMod l 0).1)) ++ (o ++ [UInt8.ofNat (48 + q)]).reverse ∧ (dec (nv l)).length = (dec (nv (strip (divMod l 0).1))).length + 1 := by
  have hn : nv l ≠ 0 := fun e => hl (nv_zero h0 e)
  have ht := divMod_ten l
  rw [nv_strip, ht.1]
  rw [hq, ht.2]
  rw [dec_pos _ hn] at h ⊢
  refine ⟨by rw [h]; simp, by simp⟩

theorem add48 (r : Nat) (h : r ≤ 9) : ((UInt8.ofNat (48 + r)).toNat : Int) = 48 + (r : Int) := by rw [ofNat48 r (by omega)]; omega

set_option maxHeartbeats 1000000 in
theorem print_some (b : Bool) (s : ByteArray) (w : World) (hr : chk b s.toList = 0) (h0 : s.toList ≠ []) :
    Calls Tryd.prog 24 #[.agg #[.bool b, .string s]] w fun e w' => ∃ p : ByteArray, e = .returned (.tuple #[.string p, .int .i64 0]) ∧ Hid (p.toList = digitsOf b s.toList) ∧ Below w.heap.size w w' := by
  have hk := chk_zero_iff.1 hr
  have hlen := hk.1
  rw [size_of] at hlen
  have hne : s.toList.isEmpty = false := by cases h : s.toList with
    | nil => exact absurd h h0
    | cons _ _ => rfl
  have HD := Lib.hid (dec_nv_len s.toList)
  have HH := Lib.hid hk.2.2
  have HN := Lib.hid h0
  have HR := Lib.hid hr
  clear hr hk h0
  go_enter Tryd.func24, Tryd.ntmps24
  go_wp2_with fail
  refine (check_any b s _ (by omega) 0 HR.out).mono ?_
  rintro e w1 ⟨rfl, hb1⟩
  obtain ⟨c0, c1, hz, hbw⟩ := num_cells hb1
  clear hb1
  obtain ⟨W2, cap2, hcv, hrow, hb2, hz2⟩ := conv_string w1 s
  have hrow2 := Lib.hid hrow
  have hb22 := Lib.hid hb2
  clear hrow hb2
  go_wp2
  go_loopw [5, 6, 7, 8, 25] (fun v x _ _ _ wr => ∃ (o l : List UInt8) (g cap : Nat), x = .slice (some ⟨g, 0, none⟩) l.length cap ∧ OwnB wr w1.heap.size v o ∧ some g ≠ v.ownBlock ∧ w1.heap.size ≤ g ∧ RowB wr g l ∧ Below w1.heap.size w1 wr ∧
      l.length ≤ 255 ∧ o.length + (dec (nv l)).length ≤ 765 ∧ RowKit.Hid (l.head? ≠ some 0 ∧ dec (nv s.toList) = dec (nv l) ++ o.reverse)) (fun v _ _ _ _ _ => 800 - lenOf v)
  case atStart =>
    refine ⟨[], s.toList, w1.heap.size, cap2, by rw [size_of], OwnB.nil _ _, by simp [Value.ownBlock], Nat.le_refl _, hrow2.out, hb22.out, by rw [size_of]; exact hlen, ?_, Lib.hid ⟨HH.out, by simp⟩⟩
    have := HD.out
    have h3 := size_of s
    simp only [List.length_nil]
    omega
  case round =>
    clear hrow2 hb22 hcv
    obtain ⟨o, l, g, cap, rfl, hO, hg, hgb, hrow, hB, hl, hdl, HE⟩ := hrel
    by_cases hl0 : 0 < l.length
    · have hlne : l ≠ [] := by intro e; subst e; simp at hl0
      have HL := Lib.hid hlne
      clear hlne
      have hol : o.length < 765 := by
        have h1 := HE.out
        have h2 := dec_round h1.2 HL.out h1.1 _ rfl
        omega
      obtain ⟨wo, hwo⟩ : ∃ wo : World, wo = wr := ⟨_, rfl⟩
      subst hwo
      go_wp2
      go_loopw [7, 8, 25] (fun r _ i wi => ∃ k q : Nat, k ≤ l.length ∧ i = .int .i64 k ∧ r = .int .i64 q ∧ q ≤ 9 ∧ RowKit.Hid (q = (divMod (l.take k) 0).2) ∧ OwnB wi w1.heap.size u5 o ∧ RowB wi g (divTo l k) ∧ Below w1.heap.size w1 wi) (fun _ _ i _ => l.length - (intOf i).toNat)
      case atStart => exact ⟨0, 0, Nat.zero_le _, rfl, rfl, by omega, Lib.hid rfl, hO, by rw [divTo_zero]; exact hrow, hB⟩
      case round =>
        clear hO hrow hB
        obtain ⟨k, q, hk, rfl, rfl, hq, HQ, hO, hrow, hB⟩ := hrel
        by_cases hlt : k < l.length
        · have hll : k < (divTo l k).length := by rw [divTo_length l k hk]; exact hlt
          have hc := hrow.cell k hll
          have hf := hrow.frozen k hll
          obtain ⟨c, hcc⟩ : ∃ c, l[k] = c := ⟨_, rfl⟩
          rw [divTo_get l k hlt hll, hcc] at hc
          have hbd := c.toNat_lt
          have HS := Lib.hid (divTo_step l k hlt)
          rw [← HQ.out, hcc] at HS
          have HR2 := Lib.hid (hrow.set k (UInt8.ofNat ((q * 256 + c.toNat) / 10)) hll)
          have HO2 := Lib.hid (hO.setOther (i := k) (u := Value.int .u8 ((UInt8.ofNat ((q * 256 + c.toNat) / 10)).toNat : Int)) hg)
          have HB2 := Lib.hid (hB.setCell (p := ⟨g, k, none⟩) hgb (.int .u8 ((UInt8.ofNat ((q * 256 + c.toNat) / 10)).toNat : Int)))
          rw [div_byte q _ hq hbd] at HR2 HO2 HB2
          clear hcc hll
          go_wp2
          go_roundw
          case rel => exact ⟨k + 1, (q * 256 + c.toNat) % 10, by omega, by go_num, by go_num, by omega, Lib.hid (by rw [HS.out.2]), HO2.out, by rw [← HS.out.1]; exact HR2.out, HB2.out⟩
          case measure => simp [intOf]; omega
        · have HQ2 := Lib.hid (show q = (divMod l 0).2 by rw [HQ.out, List.take_of_length_le (by omega)])
          rw [divTo_end l k (by omega)] at hrow
          have hdl2 := divMod_length l 0
          have HLQ := Lib.hid hdl2
          clear HQ hdl2
          have hz3 := hB.size
          go_wp2_with (first
            | (at_builtin; refine wpList_append_bytes2 rfl (.tmp 45) (.tmp 49) 111 rfl Tryd.underlying111 Tryd.info5 rfl (hO.alloc _) _ [UInt8.ofNat (48 + q)] 1 _ rfl rfl (bv_cells_oneI _ _ _ (add48 q hq)) (by omega) (hB.alloc hB.size _) (by simp; omega) ?_; intro v2 w2 hO2 hB2 hs2 hg2; have hrow2 := (hrow.alloc _).grown hg2 hg; clear hg2)
            | (go_at_call 56; refine (shortest_any _ _ _ (hrow2.conv cap l.length HLQ.out.symm)).mono ?_; rintro e w3 ⟨p, rfl, hp, rfl⟩; obtain ⟨W3, cap3, hcv3, hrow3, hb3, hz4⟩ := conv_string w2 p))
          have hR := Lib.hid (dec_round HE.out.2 HL.out HE.out.1 q HQ2.out)
          have l1 := hO.lenOf
          have l2 := hO2.lenOf
          have hsl := strip_length (divMod l 0).1
          rw [HLQ.out, ← hp.out] at hsl
          go_roundw
          case rel =>
            refine ⟨o ++ [UInt8.ofNat (48 + q)], p.toList, w2.heap.size, cap3, by rw [size_of], hO2.below hb3, hO2.block_lt (Nat.le_refl _), hs2, hrow3, hB2.trans (hb3.mono hs2), by omega, ?_, Lib.hid ⟨by rw [hp.out]; exact strip_head _, by rw [hp.out]; exact hR.out.1⟩⟩
            have := hR.out.2
            rw [hp.out, List.length_append]
            simp only [List.length_cons, List.length_nil]
            omega
          case measure =>
            rw [l1, l2, List.length_append]
            simp; omega
    · have hle : l = [] := List.eq_nil_of_length_eq_zero (by omega)
      subst hle
      have hdec : dec (nv s.toList) = o.reverse := by
        have := HE.out.2
        simpa [nv, dec_zero] using this
      have hone : o ≠ [] := by
        intro e
        rw [e] at hdec
        have h3 := dv_dec (nv s.toList)
        rw [hdec] at h3
        exact HN.out (nv_zero HH.out (by rw [← h3]; rfl))
      have hcb : wr.cell? ⟨w.heap.size, 0, none⟩ = some (.bool b) := (hB.cell (p := ⟨w.heap.size, 0, none⟩) hz).trans c0
      have HO := Lib.hid hone
      have HDec := Lib.hid hdec
      have hol : o.length ≤ 765 := by omega
      have hzr := hB.size
      clear hone hdec HE hdl hl c0 c1
      cases b
      · go_wp2_with (go_at_call 57; refine (reverse_c w1.heap.size _ o _ hO HO.out (by omega)).mono ?_; rintro e w3 ⟨rfl, hcv3, hb3⟩)
        go_ret2
        exact ⟨_, rfl, Lib.hid (by rw [ByteArray.toList_mk, digitsOf, if_neg HN.out, HDec.out]; rfl), hbw.trans ((hB.trans hb3).mono (by omega))⟩
      · go_wp2_with (first
          | (at_builtin; refine wpList_append_bytes rfl (.tmp 56) (.tmp 57) 111 rfl Tryd.underlying111 Tryd.info5 rfl (hO.alloc _) _ [45] 1 _ rfl rfl (bv_cells_one _ 45 _) (by omega) (hB.alloc hB.size _) (by simp; omega) ?_; intro v2 w2 hO2 hB2 hs2)
          | (go_at_call 57; refine (reverse_c w1.heap.size _ _ _ hO2 (by simp) (by simp; omega)).mono ?_; rintro e w3 ⟨rfl, hcv3, hb3⟩))
        go_ret2
        exact ⟨_, rfl, Lib.hid (by rw [ByteArray.toList_mk, digitsOf, if_neg HN.out, HDec.out]; simp), hbw.trans ((hB2.trans hb3).mono (by omega))⟩

theorem print_ok (b : Bool) (s : ByteArray) (w : World) (hr : chk b s.toList = 0) :
    Calls Tryd.prog 24 #[.agg #[.bool b, .string s]] w fun e w' => ∃ p : ByteArray, e = .returned (.tuple #[.string p, .int .i64 0]) ∧ Hid (p.toList = digitsOf b s.toList) ∧ Below w.heap.size w w' := by
  by_cases h : s.toList = []
  · exact (print_zero b s w hr h).mono fun _ _ ⟨he, hb⟩ => ⟨_, he, Lib.hid (by rw [bytes1, digitsOf, if_pos h]), hb⟩
  · exact print_some b s w hr h
end Go.Proofs.YtcgphlilijeifaaDoor
end
