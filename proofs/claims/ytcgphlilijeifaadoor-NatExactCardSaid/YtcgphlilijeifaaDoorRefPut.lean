/-
  The document's Put: its contract.
-/
import Derived.Test.YtcgphlilijeifaaDoorRefA
import Derived.Test.YtcgphlilijeifaaDoorTakeV
namespace Go.Proofs.YtcgphlilijeifaaDoor
open Go.RowKit

/-- The bytes so far. -/
def putTo (hd : List UInt8) (b : Bool) (l : List UInt8) (k : Nat) : List UInt8 := hd ++ (l.take k).map (fl b)
theorem putTo_zero (hd : List UInt8) (b : Bool) (l : List UInt8) : putTo hd b l 0 = hd := by simp [putTo]
theorem putTo_succ (hd : List UInt8) (b : Bool) (s : ByteArray) (k : Nat) (h : k < s.size) : putTo hd b s.data.toList (k + 1) = putTo hd b s.data.toList k ++ [fl b s[k]] := by
  unfold putTo
  rw [take_snoc s k h]
  simp
theorem putTo_end (b : Bool) (s : ByteArray) (k : Nat) (h : ¬ k < s.size) : putTo (putHead b s.size) b s.data.toList k = putBytes b s.toList := by
  unfold putTo putBytes
  rw [take_end s k h, fl_eq, size_of, Lib.toList_data]
theorem putTo_len (hd : List UInt8) (b : Bool) (l : List UInt8) (k : Nat) : (putTo hd b l k).length ≤ hd.length + k := by
  simp [putTo]; omega

theorem rput_bad (b : Bool) (s : ByteArray) (w : World) (hs : s.size ≤ 9223372036854775807) (r : Int) (hr : chk b s.toList = r) (h0 : r ≠ 0) :
    Calls Tryd.prog 70 #[.agg #[.bool b, .string s]] w fun e w' => e = .returned (.tuple #[.string ⟨#[]⟩, .int .i64 r]) ∧ Below w.heap.size w w' := by
  have HR := Lib.hid hr
  have q1 : (r != 0) = true := by simpa using h0
  clear hr h0
  go_enter Tryd.func70, Tryd.ntmps70
  go_wp2_with fail
  refine (rcheck_any b s _ hs r HR.out).mono ?_
  rintro e w1 ⟨rfl, hb1⟩
  obtain ⟨c0, c1, hz, hbw⟩ := num_cells hb1
  go_wp2_with fail
  go_ret2
  exact ⟨rfl, hbw⟩

set_option maxRecDepth 100000 in
set_option maxHeartbeats 1000000 in
theorem rput_false_short (s : ByteArray) (w : World) (hr : chk false s.toList = 0) (hk : ¬ 126 < s.size) :
    Calls Tryd.prog 70 #[.agg #[.bool false, .string s]] w fun e w' => ∃ p : ByteArray, e = .returned (.tuple #[.string p, .int .i64 0]) ∧ Hid (p.toList = putBytes false s.toList) ∧ Below w.heap.size w w' := by
  have hlen : s.size ≤ 255 := by have := (chk_zero_iff.1 hr).1; rw [size_of] at this; exact this
  have HR := Lib.hid hr
  have HH := Lib.hid (show putHead false s.size = [UInt8.ofNat (128 + s.size)] by unfold putHead; simp; omega)
  have q1 : decide ((s.size : Int) ≤ 126) = true := by simp; omega
  have hnot : ∀ (x : Bool) (w : World), (Op.unary .not (.bool x)).run Tryd.prog w = .ok (.bool (!x)) w := fun _ _ => rfl
  clear hr
  go_enter Tryd.func70, Tryd.ntmps70
  go_wp2_with fail
  refine (rcheck_any false s _ (by omega) 0 HR.out).mono ?_
  rintro e w1 ⟨rfl, hb1⟩
  obtain ⟨c0, c1, hz, hbw⟩ := num_cells hb1
  go_wp2_with (at_builtin; refine wpList_append_bytes rfl (.tmp 34) (.tmp 38) 111 rfl Tryd.underlying111 Tryd.info5 rfl (OwnB.nil _ w1.heap.size) _ [UInt8.ofNat (128 + s.size)] 1 _ rfl rfl (bv_cells_oneI _ _ _ (by first | (simp; done) | (simp; omega))) (by simp) ((Below.refl w1.heap.size w1).alloc (Nat.le_refl _) _) (by simp; try omega) ?_; intro v2 w2 hO2 hB2 hs2)
  have hOi : OwnB w2 w1.heap.size v2 (putTo (putHead false s.size) false s.data.toList 0) := by rw [putTo_zero, HH.out]; simpa using hO2
  go_loopw [6, 7, 8] (fun v i _ wr => ∃ k : Nat, k ≤ s.size ∧ i = .int .i64 k ∧ OwnB wr w1.heap.size v (putTo (putHead false s.size) false s.data.toList k) ∧ Below w1.heap.size w1 wr ∧ w1.heap.size ≤ wr.heap.size) (fun _ i _ _ => s.size - (intOf i).toNat)
  case atStart => exact ⟨0, Nat.zero_le _, rfl, hOi, hB2, hs2⟩
  case round =>
    clear hOi hO2 hB2 hs2
    obtain ⟨k, hkk, rfl, hO, hB, hsz⟩ := hrel
    have e0 : wr.cell? ⟨w.heap.size, 0, none⟩ = some (.bool false) := (hB.cell (p := ⟨w.heap.size, 0, none⟩) hz).trans c0
    have e1 : wr.cell? ⟨w.heap.size, 1, none⟩ = some (.string s) := (hB.cell (p := ⟨w.heap.size, 1, none⟩) hz).trans c1
    have hzr : w.heap.size < wr.heap.size := by omega
    have hpl := putTo_len (putHead false s.size) false s.data.toList k
    have hph : (putHead false s.size).length ≤ 2 := by rw [HH.out]; simp
    by_cases hlt : k < s.size
    · have hbd := s[k].toNat_lt
      have hsb := Lib.hid (show ((fl false s[k]).toNat : Int) = (s[k].toNat : Int) from rfl)
      have HS := Lib.hid (putTo_succ (putHead false s.size) false s k hlt)
      go_wp2_with (at_builtin; refine wpList_append_bytes rfl (.tmp 74) (.tmp 76) 111 rfl Tryd.underlying111 Tryd.info5 rfl (hO.alloc _) _ [fl false s[k]] 1 _ rfl rfl (bv_cells_oneI _ _ _ hsb.out) (by omega) (hB.alloc hsz _) (by simp; omega) ?_; intro v7 w7 hO7 hB7 hs7)
      go_roundw
      case rel => exact ⟨k + 1, by omega, by go_num, by rw [HS.out]; exact hO7, hB7, hs7⟩
      case measure => simp [intOf]; omega
    · have hcv := hO.conv 111 9 Tryd.underlying111 Tryd.underlying5 Tryd.underlying9
      rw [putTo_end _ s k hlt] at hcv
      go_wp2_with fail
      go_ret2
      exact ⟨_, rfl, Lib.hid (by rw [ByteArray.toList_mk]), hbw.trans (hB.mono (Nat.le_of_lt hz))⟩

set_option maxRecDepth 100000 in
set_option maxHeartbeats 1000000 in
theorem rput_false_long (s : ByteArray) (w : World) (hr : chk false s.toList = 0) (hk : 126 < s.size) :
    Calls Tryd.prog 70 #[.agg #[.bool false, .string s]] w fun e w' => ∃ p : ByteArray, e = .returned (.tuple #[.string p, .int .i64 0]) ∧ Hid (p.toList = putBytes false s.toList) ∧ Below w.heap.size w w' := by
  have hlen : s.size ≤ 255 := by have := (chk_zero_iff.1 hr).1; rw [size_of] at this; exact this
  have HR := Lib.hid hr
  have HH := Lib.hid (show putHead false s.size = [255, UInt8.ofNat s.size] by unfold putHead; simp; omega)
  have q1 : decide ((s.size : Int) ≤ 126) = false := by simp; omega
  have hnot : ∀ (x : Bool) (w : World), (Op.unary .not (.bool x)).run Tryd.prog w = .ok (.bool (!x)) w := fun _ _ => rfl
  clear hr
  go_enter Tryd.func70, Tryd.ntmps70
  go_wp2_with fail
  refine (rcheck_any false s _ (by omega) 0 HR.out).mono ?_
  rintro e w1 ⟨rfl, hb1⟩
  obtain ⟨c0, c1, hz, hbw⟩ := num_cells hb1
  go_wp2_with (first
    | (at_builtin; refine wpList_append_bytes rfl (.tmp 44) (.tmp 45) 111 rfl Tryd.underlying111 Tryd.info5 rfl (OwnB.nil _ w1.heap.size) _ [255] 1 _ rfl rfl (bv_cells_oneI _ _ _ (by first | (simp; done) | (simp; omega))) (by simp) ((Below.refl w1.heap.size w1).alloc (Nat.le_refl _) _) (by simp; try omega) ?_; intro v2 w2 hO2 hB2 hs2; have c0' := (hB2.cell (p := ⟨w.heap.size, 0, none⟩) hz).trans c0; have c1' := (hB2.cell (p := ⟨w.heap.size, 1, none⟩) hz).trans c1; have hz' : w.heap.size < w2.heap.size := by omega)
    | (at_builtin; refine wpList_append_bytes rfl (.tmp 47) (.tmp 50) 111 rfl Tryd.underlying111 Tryd.info5 rfl (hO2.alloc _) _ [UInt8.ofNat s.size] 1 _ rfl rfl (bv_cells_oneI _ _ _ (by first | (simp; done) | (simp; omega))) (by simp) (hB2.alloc hs2 _) (by simp; try omega) ?_; intro v3 w3 hO3 hB3 hs3))
  have hOi : OwnB w3 w1.heap.size v3 (putTo (putHead false s.size) false s.data.toList 0) := by rw [putTo_zero, HH.out]; simpa using hO3
  go_loopw [6, 7, 8] (fun v i _ wr => ∃ k : Nat, k ≤ s.size ∧ i = .int .i64 k ∧ OwnB wr w1.heap.size v (putTo (putHead false s.size) false s.data.toList k) ∧ Below w1.heap.size w1 wr ∧ w1.heap.size ≤ wr.heap.size) (fun _ i _ _ => s.size - (intOf i).toNat)
  case atStart => exact ⟨0, Nat.zero_le _, rfl, hOi, hB3, hs3⟩
  case round =>
    clear hOi hO3 hB3 hs3
    obtain ⟨k, hkk, rfl, hO, hB, hsz⟩ := hrel
    have e0 : wr.cell? ⟨w.heap.size, 0, none⟩ = some (.bool false) := (hB.cell (p := ⟨w.heap.size, 0, none⟩) hz).trans c0
    have e1 : wr.cell? ⟨w.heap.size, 1, none⟩ = some (.string s) := (hB.cell (p := ⟨w.heap.size, 1, none⟩) hz).trans c1
    have hzr : w.heap.size < wr.heap.size := by omega
    have hpl := putTo_len (putHead false s.size) false s.data.toList k
    have hph : (putHead false s.size).length ≤ 2 := by rw [HH.out]; simp
    by_cases hlt : k < s.size
    · have hbd := s[k].toNat_lt
      have hsb := Lib.hid (show ((fl false s[k]).toNat : Int) = (s[k].toNat : Int) from rfl)
      have HS := Lib.hid (putTo_succ (putHead false s.size) false s k hlt)
      go_wp2_with (at_builtin; refine wpList_append_bytes rfl (.tmp 74) (.tmp 76) 111 rfl Tryd.underlying111 Tryd.info5 rfl (hO.alloc _) _ [fl false s[k]] 1 _ rfl rfl (bv_cells_oneI _ _ _ hsb.out) (by omega) (hB.alloc hsz _) (by simp; omega) ?_; intro v7 w7 hO7 hB7 hs7)
      go_roundw
      case rel => exact ⟨k + 1, by omega, by go_num, by rw [HS.out]; exact hO7, hB7, hs7⟩
      case measure => simp [intOf]; omega
    · have hcv := hO.conv 111 9 Tryd.underlying111 Tryd.underlying5 Tryd.underlying9
      rw [putTo_end _ s k hlt] at hcv
      go_wp2_with fail
      go_ret2
      exact ⟨_, rfl, Lib.hid (by rw [ByteArray.toList_mk]), hbw.trans (hB.mono (Nat.le_of_lt hz))⟩

set_option maxRecDepth 100000 in
set_option maxHeartbeats 1000000 in
theorem rput_true_short (s : ByteArray) (w : World) (hr : chk true s.toList = 0) (hk : ¬ 126 < s.size) :
    Calls Tryd.prog 70 #[.agg #[.bool true, .string s]] w fun e w' => ∃ p : ByteArray, e = .returned (.tuple #[.string p, .int .i64 0]) ∧ Hid (p.toList = putBytes true s.toList) ∧ Below w.heap.size w w' := by
  have hlen : s.size ≤ 255 := by have := (chk_zero_iff.1 hr).1; rw [size_of] at this; exact this
  have HR := Lib.hid hr
  have HH := Lib.hid (show putHead true s.size = [UInt8.ofNat (128 - s.size)] by unfold putHead; simp; omega)
  have q1 : decide ((s.size : Int) ≤ 126) = true := by simp; omega
  have hnot : ∀ (x : Bool) (w : World), (Op.unary .not (.bool x)).run Tryd.prog w = .ok (.bool (!x)) w := fun _ _ => rfl
  clear hr
  go_enter Tryd.func70, Tryd.ntmps70
  go_wp2_with fail
  refine (rcheck_any true s _ (by omega) 0 HR.out).mono ?_
  rintro e w1 ⟨rfl, hb1⟩
  obtain ⟨c0, c1, hz, hbw⟩ := num_cells hb1
  go_wp2_with (at_builtin; refine wpList_append_bytes rfl (.tmp 55) (.tmp 59) 111 rfl Tryd.underlying111 Tryd.info5 rfl (OwnB.nil _ w1.heap.size) _ [UInt8.ofNat (128 - s.size)] 1 _ rfl rfl (bv_cells_oneI _ _ _ (by first | (simp; done) | (simp; omega))) (by simp) ((Below.refl w1.heap.size w1).alloc (Nat.le_refl _) _) (by simp; try omega) ?_; intro v2 w2 hO2 hB2 hs2)
  have hOi : OwnB w2 w1.heap.size v2 (putTo (putHead true s.size) true s.data.toList 0) := by rw [putTo_zero, HH.out]; simpa using hO2
  go_loopw [6, 7, 8] (fun v i _ wr => ∃ k : Nat, k ≤ s.size ∧ i = .int .i64 k ∧ OwnB wr w1.heap.size v (putTo (putHead true s.size) true s.data.toList k) ∧ Below w1.heap.size w1 wr ∧ w1.heap.size ≤ wr.heap.size) (fun _ i _ _ => s.size - (intOf i).toNat)
  case atStart => exact ⟨0, Nat.zero_le _, rfl, hOi, hB2, hs2⟩
  case round =>
    clear hOi hO2 hB2 hs2
    obtain ⟨k, hkk, rfl, hO, hB, hsz⟩ := hrel
    have e0 : wr.cell? ⟨w.heap.size, 0, none⟩ = some (.bool true) := (hB.cell (p := ⟨w.heap.size, 0, none⟩) hz).trans c0
    have e1 : wr.cell? ⟨w.heap.size, 1, none⟩ = some (.string s) := (hB.cell (p := ⟨w.heap.size, 1, none⟩) hz).trans c1
    have hzr : w.heap.size < wr.heap.size := by omega
    have hpl := putTo_len (putHead true s.size) true s.data.toList k
    have hph : (putHead true s.size).length ≤ 2 := by rw [HH.out]; simp
    by_cases hlt : k < s.size
    · have hbd := s[k].toNat_lt
      have hsb := Lib.hid (show ((fl true s[k]).toNat : Int) = 255 - (s[k].toNat : Int) from sub255 s[k])
      have HS := Lib.hid (putTo_succ (putHead true s.size) true s k hlt)
      go_wp2_with (at_builtin; refine wpList_append_bytes rfl (.tmp 74) (.tmp 76) 111 rfl Tryd.underlying111 Tryd.info5 rfl (hO.alloc _) _ [fl true s[k]] 1 _ rfl rfl (bv_cells_oneI _ _ _ hsb.out) (by omega) (hB.alloc hsz _) (by simp; omega) ?_; intro v7 w7 hO7 hB7 hs7)
      go_roundw
      case rel => exact ⟨k + 1, by omega, by go_num, by rw [HS.out]; exact hO7, hB7, hs7⟩
      case measure => simp [intOf]; omega
    · have hcv := hO.conv 111 9 Tryd.underlying111 Tryd.underlying5 Tryd.underlying9
      rw [putTo_end _ s k hlt] at hcv
      go_wp2_with fail
      go_ret2
      exact ⟨_, rfl, Lib.hid (by rw [ByteArray.toList_mk]), hbw.trans (hB.mono (Nat.le_of_lt hz))⟩

set_option maxRecDepth 100000 in
set_option maxHeartbeats 1000000 in
theorem rput_true_long (s : ByteArray) (w : World) (hr : chk true s.toList = 0) (hk : 126 < s.size) :
    Calls Tryd.prog 70 #[.agg #[.bool true, .string s]] w fun e w' => ∃ p : ByteArray, e = .returned (.tuple #[.string p, .int .i64 0]) ∧ Hid (p.toList = putBytes true s.toList) ∧ Below w.heap.size w w' := by
  have hlen : s.size ≤ 255 := by have := (chk_zero_iff.1 hr).1; rw [size_of] at this; exact this
  have HR := Lib.hid hr
  have HH := Lib.hid (show putHead true s.size = [1, UInt8.ofNat (255 - s.size)] by unfold putHead; simp; omega)
  have q1 : decide ((s.size : Int) ≤ 126) = false := by simp; omega
  have hnot : ∀ (x : Bool) (w : World), (Op.unary .not (.bool x)).run Tryd.prog w = .ok (.bool (!x)) w := fun _ _ => rfl
  clear hr
  go_enter Tryd.func70, Tryd.ntmps70
  go_wp2_with fail
  refine (rcheck_any true s _ (by omega) 0 HR.out).mono ?_
  rintro e w1 ⟨rfl, hb1⟩
  obtain ⟨c0, c1, hz, hbw⟩ := num_cells hb1
  go_wp2_with (first
    | (at_builtin; refine wpList_append_bytes rfl (.tmp 17) (.tmp 18) 111 rfl Tryd.underlying111 Tryd.info5 rfl (OwnB.nil _ w1.heap.size) _ [1] 1 _ rfl rfl (bv_cells_oneI _ _ _ (by first | (simp; done) | (simp; omega))) (by simp) ((Below.refl w1.heap.size w1).alloc (Nat.le_refl _) _) (by simp; try omega) ?_; intro v2 w2 hO2 hB2 hs2; have c0' := (hB2.cell (p := ⟨w.heap.size, 0, none⟩) hz).trans c0; have c1' := (hB2.cell (p := ⟨w.heap.size, 1, none⟩) hz).trans c1; have hz' : w.heap.size < w2.heap.size := by omega)
    | (at_builtin; refine wpList_append_bytes rfl (.tmp 20) (.tmp 24) 111 rfl Tryd.underlying111 Tryd.info5 rfl (hO2.alloc _) _ [UInt8.ofNat (255 - s.size)] 1 _ rfl rfl (bv_cells_oneI _ _ _ (by first | (simp; done) | (simp; omega))) (by simp) (hB2.alloc hs2 _) (by simp; try omega) ?_; intro v3 w3 hO3 hB3 hs3))
  have hOi : OwnB w3 w1.heap.size v3 (putTo (putHead true s.size) true s.data.toList 0) := by rw [putTo_zero, HH.out]; simpa using hO3
  go_loopw [6, 7, 8] (fun v i _ wr => ∃ k : Nat, k ≤ s.size ∧ i = .int .i64 k ∧ OwnB wr w1.heap.size v (putTo (putHead true s.size) true s.data.toList k) ∧ Below w1.heap.size w1 wr ∧ w1.heap.size ≤ wr.heap.size) (fun _ i _ _ => s.size - (intOf i).toNat)
  case atStart => exact ⟨0, Nat.zero_le _, rfl, hOi, hB3, hs3⟩
  case round =>
    clear hOi hO3 hB3 hs3
    obtain ⟨k, hkk, rfl, hO, hB, hsz⟩ := hrel
    have e0 : wr.cell? ⟨w.heap.size, 0, none⟩ = some (.bool true) := (hB.cell (p := ⟨w.heap.size, 0, none⟩) hz).trans c0
    have e1 : wr.cell? ⟨w.heap.size, 1, none⟩ = some (.string s) := (hB.cell (p := ⟨w.heap.size, 1, none⟩) hz).trans c1
    have hzr : w.heap.size < wr.heap.size := by omega
    have hpl := putTo_len (putHead true s.size) true s.data.toList k
    have hph : (putHead true s.size).length ≤ 2 := by rw [HH.out]; simp
    by_cases hlt : k < s.size
    · have hbd := s[k].toNat_lt
      have hsb := Lib.hid (show ((fl true s[k]).toNat : Int) = 255 - (s[k].toNat : Int) from sub255 s[k])
      have HS := Lib.hid (putTo_succ (putHead true s.size) true s k hlt)
      go_wp2_with (at_builtin; refine wpList_append_bytes rfl (.tmp 74) (.tmp 76) 111 rfl Tryd.underlying111 Tryd.info5 rfl (hO.alloc _) _ [fl true s[k]] 1 _ rfl rfl (bv_cells_oneI _ _ _ hsb.out) (by omega) (hB.alloc hsz _) (by simp; omega) ?_; intro v7 w7 hO7 hB7 hs7)
      go_roundw
      case rel => exact ⟨k + 1, by omega, by go_num, by rw [HS.out]; exact hO7, hB7, hs7⟩
      case measure => simp [intOf]; omega
    · have hcv := hO.conv 111 9 Tryd.underlying111 Tryd.underlying5 Tryd.underlying9
      rw [putTo_end _ s k hlt] at hcv
      go_wp2_with fail
      go_ret2
      exact ⟨_, rfl, Lib.hid (by rw [ByteArray.toList_mk]), hbw.trans (hB.mono (Nat.le_of_lt hz))⟩

theorem rput_ok (b : Bool) (s : ByteArray) (w : World) (hr : chk b s.toList = 0) :
    Calls Tryd.prog 70 #[.agg #[.bool b, .string s]] w fun e w' => ∃ p : ByteArray, e = .returned (.tuple #[.string p, .int .i64 0]) ∧ Hid (p.toList = putBytes b s.toList) ∧ Below w.heap.size w w' := by
  by_cases h : 126 < s.size <;> cases b
  · exact rput_false_long s w hr h
  · exact rput_true_long s w hr h
  · exact rput_false_short s w hr h
  · exact rput_true_short s w hr h
end Go.Proofs.YtcgphlilijeifaaDoor
