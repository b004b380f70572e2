import Derived.Test.YtcgphlilijeifaaDoorLitPrintsG21
import Derived.Test.YtcgphlilijeifaaDoorLitPrintsG20
/-
  The document's Of: its contract.
-/
namespace Go.Proofs.YtcgphlilijeifaaDoor
open Go.RowKit

theorem magN_pos (u : Nat) (h : 0 < u) : magN u = magN (u / 256) ++ [UInt8.ofNat u] := by
  refine nv_inj (magN_head u) ?_ ?_
  · cases hm : magN (u / 256) with
    | nil =>
      have h0 : u / 256 = 0 := by
        have := magN_nv (u / 256)
        rw [hm] at this
        exact this.symm
      intro e
      have e2 : UInt8.ofNat u = 0 := by simpa using e
      have := congrArg UInt8.toNat e2
      rw [UInt8.toNat_ofNat'] at this
      have h3 : (0 : UInt8).toNat = 0 := rfl
      omega
    | cons c r =>
      have := magN_head (u / 256)
      rw [hm] at this
      simpa using this
  · rw [nv_snoc, magN_nv, magN_nv, UInt8.toNat_ofNat']
    omega
theorem magN_zero : magN 0 = [] := rfl
theorem mag8_magN (n : Nat) (h : n < 18446744073709551616) : mag8 n = magN n := nv_inj (mag8_head n) (magN_head n) (by rw [mag8_nv n h, magN_nv])
theorem rem_byte (x : Nat) : ((UInt8.ofNat x).toNat : Int) = (x : Int) % 256 := by rw [UInt8.toNat_ofNat']; omega
theorem take_rev (l : List UInt8) (k : Nat) (h : k < l.length) : l.reverse.take (l.length - 1 - k + 1) = l.reverse.take (l.length - 1 - k) ++ [l[k]] := by
  rw [List.take_succ_eq_append_getElem (by rw [List.length_reverse]; omega)]
  congr 2
  rw [List.getElem_reverse]
  congr 1
  omega
theorem u64_minus (i : Int) (h0 : i < 0) (h1 : -9223372036854775808 ≤ i) : IntKind.u64.wrap (-IntKind.u64.wrap i) = (i.natAbs : Int) := by
  rw [IntKind.wrap_u64, IntKind.wrap_u64]
  omega
theorem plus_abs (i : Int) (h0 : 0 ≤ i) : i = (i.natAbs : Int) := by omega

set_option maxRecDepth 100000 in
set_option maxHeartbeats 1000000 in
theorem rof_minus (i : Int) (w : World) (h0 : i < 0) (h1 : -9223372036854775808 ≤ i) :
    Calls Tryd.prog 65 #[.int .i64 i] w fun e w' => ∃ p : ByteArray, e = .returned (.agg #[.bool true, .string p]) ∧ Hid (p.toList = mag8 i.natAbs) ∧ Below w.heap.size w w' := by
  have q0 : decide (i < 0) = true := by simp; omega
  go_enter Tryd.func65, Tryd.ntmps65
  go_wp2_with fail
  go_loopw [4, 5] (fun u v wr => ∃ (x : Nat) (bk : List UInt8), u = .int .u64 x ∧ x ≤ 18446744073709551615 ∧ bk.length ≤ 8 ∧ OwnB wr (w.heap.size + 1) v bk ∧ RowKit.Hid (magN i.natAbs = magN x ++ bk.reverse) ∧ Below (w.heap.size + 1) (w.alloc (.cells #[.bool false, .string ⟨#[]⟩] 24)) wr ∧ w.heap.size + 1 ≤ wr.heap.size) (fun u _ _ => (intOf u).toNat)
  case atStart => exact ⟨i.natAbs, [], congrArg (Value.int .u64) (u64_minus i h0 h1), by omega, by simp, OwnB.nil _ _, Lib.hid (by simp), Below.refl _ _, by simp⟩
  case round =>
    obtain ⟨x, bk, rfl, hx, hbl, hO, HM, hB, hsz⟩ := hrel
    have c0 : wr.cell? ⟨w.heap.size, 0, none⟩ = some (.bool false) := (hB.cell (p := ⟨w.heap.size, 0, none⟩) (by simp)).trans (by simp)
    have c1 : wr.cell? ⟨w.heap.size, 1, none⟩ = some (.string ⟨#[]⟩) := (hB.cell (p := ⟨w.heap.size, 1, none⟩) (by simp)).trans (by simp)
    have z0 : wr.frozen? ⟨w.heap.size, 0, none⟩ = false := (hB.frozen (p := ⟨w.heap.size, 0, none⟩) (by simp)).trans (by simp)
    have z1 : wr.frozen? ⟨w.heap.size, 1, none⟩ = false := (hB.frozen (p := ⟨w.heap.size, 1, none⟩) (by simp)).trans (by simp)
    by_cases hx0 : 0 < x
    · have HS := Lib.hid (show magN i.natAbs = magN (x / 256) ++ (bk ++ [UInt8.ofNat x]).reverse by rw [HM.out, magN_pos x hx0]; simp)
      have HL := Lib.hid (show bk.length < 8 by
        have h := congrArg List.length HS.out
        have h2 := mag8_length i.natAbs
        rw [mag8_magN _ (by omega)] at h2
        rw [h] at h2
        simp at h2
        omega)
      have hlt8 := HL.out
      clear c0 c1 z0 z1
      go_wp2_with (at_builtin; refine wpList_append_bytes rfl (.tmp 17) (.tmp 21) 111 rfl Tryd.underlying111 Tryd.info5 rfl (hO.alloc _) _ [UInt8.ofNat x] 1 _ rfl rfl (bv_cells_oneI _ _ _ (rem_byte x)) (by omega) (hB.alloc hsz _) (by simp; omega) ?_; intro v7 w7 hO7 hB7 hs7)
      go_roundw
      case rel => exact ⟨x / 256, bk ++ [UInt8.ofNat x], by go_num, by omega, by simp; omega, hO7, HS, hB7, hs7⟩
      case measure => simp [intOf]; omega
    · have hx00 : x = 0 := by omega
      have HE := Lib.hid (show mag8 i.natAbs = bk.reverse by rw [mag8_magN _ (by omega), HM.out, hx00]; rfl)
      have hne : bk ≠ [] := by
        intro e
        have h := magN_nv i.natAbs
        rw [HM.out, hx00, e] at h
        have h2 : (0 : Nat) = i.natAbs := h
        omega
      subst hx00
      have hlp : 0 < bk.length := List.length_pos_iff.2 hne
      obtain ⟨g, cap, hform, hgb⟩ := hO.form hne
      rw [hform] at hO ⊢
      have hrow := Lib.hid hO.row
      have hgl : g < wr.heap.size := hO.row.1
      obtain ⟨W1, hW1⟩ : ∃ W1 : World, W1 = wr := ⟨_, rfl⟩
      subst hW1
      clear HM hne hform hO
      go_wp2_with fail
      go_loopw [6, 7] (fun v y wi => ∃ z : Int, -1 ≤ z ∧ z < bk.length ∧ y = .int .i64 z ∧ OwnB wi W1.heap.size v (bk.reverse.take (bk.length - (z + 1).toNat)) ∧ Below W1.heap.size W1 wi ∧ W1.heap.size ≤ wi.heap.size) (fun _ y _ => (intOf y + 1).toNat)
      case atStart => exact ⟨(bk.length : Int) - 1, by omega, by omega, rfl, by rw [show bk.length - ((bk.length : Int) - 1 + 1).toNat = 0 by omega]; exact OwnB.nil _ _, Below.refl _ _, Nat.le_refl _⟩
      case round =>
        obtain ⟨z, hz1, hz2, rfl, hO2, hB2, hs2⟩ := hrel
        by_cases hz : 0 ≤ z
        · obtain ⟨j, rfl⟩ := Int.eq_ofNat_of_zero_le hz
          have hjl : j < bk.length := by omega
          have hc := (hrow.out.below hB2 hgl).cell j hjl
          have HT := Lib.hid (take_rev bk j hjl)
          rw [show bk.length - ((j : Int) + 1).toNat = bk.length - 1 - j by omega] at hO2
          have hol : (bk.reverse.take (bk.length - 1 - j)).length ≤ 8 := by simp; omega
          obtain ⟨b, hb⟩ : ∃ b, bk[j] = b := ⟨_, rfl⟩
          rw [hb] at hc HT
          clear hb
          go_wp2_with (at_builtin; refine wpList_append_bytes rfl (.tmp 32) (.tmp 37) 111 rfl Tryd.underlying111 Tryd.info5 rfl (hO2.alloc _) _ [b] 1 _ rfl rfl (bv_cells_oneI _ _ _ rfl) (by omega) (hB2.alloc hs2 _) (by simp; omega) ?_; intro v7 w7 hO7 hB7 hs7)
          refine ⟨?_, by simp [intOf]⟩
          (repeat apply Exists.intro)
          exact ⟨⟨(j : Int) - 1, by omega, by omega, rfl, by rw [show bk.length - ((j : Int) - 1 + 1).toNat = bk.length - 1 - j + 1 by omega, HT.out]; exact hO7, hB7, hs7⟩, rfl⟩
        · have hze : bk.length - (z + 1).toNat = bk.length := by omega
          rw [hze, List.take_of_length_le (by simp)] at hO2
          have hcv := hO2.conv 111 9 Tryd.underlying111 Tryd.underlying5 Tryd.underlying9
          have d0 := (hB2.cell (p := ⟨w.heap.size, 0, none⟩) (by simp; omega)).trans c0
          have d1 := (hB2.cell (p := ⟨w.heap.size, 1, none⟩) (by simp; omega)).trans c1
          have y0 := (hB2.frozen (p := ⟨w.heap.size, 0, none⟩) (by simp; omega)).trans z0
          have y1 := (hB2.frozen (p := ⟨w.heap.size, 1, none⟩) (by simp; omega)).trans z1
          have hzi : w.heap.size < wr.heap.size := by omega
          have hbr : Below w.heap.size w wr := ((Below.refl _ w).alloc (Nat.le_refl _) _).trans ((hB.mono (by omega)).trans (hB2.mono (by omega)))
          have hZE := Lib.hid hze
          clear hze c0 c1 z0 z1 hO2 hrow
          go_wp2_with fail
          exact bodyPost_ret (v := .agg #[.bool true, .string ⟨bk.reverse.toArray⟩]) (by simp [results, Tryd.results65, go_sem, d0, d1]) rfl ⟨_, rfl, Lib.hid (by rw [HE.out, ByteArray.toList_mk]), (hbr.setCell (Nat.le_refl _) _).setCell (Nat.le_refl _) _⟩

set_option maxRecDepth 100000 in
set_option maxHeartbeats 1000000 in
theorem rof_plus (i : Int) (w : World) (h0 : 0 < i) (h1 : i ≤ 9223372036854775807) :
    Calls Tryd.prog 65 #[.int .i64 i] w fun e w' => ∃ p : ByteArray, e = .returned (.agg #[.bool false, .string p]) ∧ Hid (p.toList = mag8 i.natAbs) ∧ Below w.heap.size w w' := by
  have q0 : decide (i < 0) = false := by simp; omega
  go_enter Tryd.func65, Tryd.ntmps65
  go_wp2_with fail
  go_loopw [4, 5] (fun u v wr => ∃ (x : Nat) (bk : List UInt8), u = .int .u64 x ∧ x ≤ 18446744073709551615 ∧ bk.length ≤ 8 ∧ OwnB wr (w.heap.size + 1) v bk ∧ RowKit.Hid (magN i.natAbs = magN x ++ bk.reverse) ∧ Below (w.heap.size + 1) (w.alloc (.cells #[.bool false, .string ⟨#[]⟩] 24)) wr ∧ w.heap.size + 1 ≤ wr.heap.size) (fun u _ _ => (intOf u).toNat)
  case atStart => exact ⟨i.natAbs, [], congrArg (Value.int .u64) (plus_abs i (by omega)), by omega, by simp, OwnB.nil _ _, Lib.hid (by simp), Below.refl _ _, by simp⟩
  case round =>
    obtain ⟨x, bk, rfl, hx, hbl, hO, HM, hB, hsz⟩ := hrel
    have c0 : wr.cell? ⟨w.heap.size, 0, none⟩ = some (.bool false) := (hB.cell (p := ⟨w.heap.size, 0, none⟩) (by simp)).trans (by simp)
    have c1 : wr.cell? ⟨w.heap.size, 1, none⟩ = some (.string ⟨#[]⟩) := (hB.cell (p := ⟨w.heap.size, 1, none⟩) (by simp)).trans (by simp)
    have z0 : wr.frozen? ⟨w.heap.size, 0, none⟩ = false := (hB.frozen (p := ⟨w.heap.size, 0, none⟩) (by simp)).trans (by simp)
    have z1 : wr.frozen? ⟨w.heap.size, 1, none⟩ = false := (hB.frozen (p := ⟨w.heap.size, 1, none⟩) (by simp)).trans (by simp)
    by_cases hx0 : 0 < x
    · have HS := Lib.hid (show magN i.natAbs = magN (x / 256) ++ (bk ++ [UInt8.ofNat x]).reverse by rw [HM.out, magN_pos x hx0]; simp)
      have HL := Lib.hid (show bk.length < 8 by
        have h := congrArg List.length HS.out
        have h2 := mag8_length i.natAbs
        rw [mag8_magN _ (by omega)] at h2
        rw [h] at h2
        simp at h2
        omega)
      have hlt8 := HL.out
      clear c0 c1 z0 z1
      go_wp2_with (at_builtin; refine wpList_append_bytes rfl (.tmp 17) (.tmp 21) 111 rfl Tryd.underlying111 Tryd.info5 rfl (hO.alloc _) _ [UInt8.ofNat x] 1 _ rfl rfl (bv_cells_oneI _ _ _ (rem_byte x)) (by omega) (hB.alloc hsz _) (by simp; omega) ?_; intro v7 w7 hO7 hB7 hs7)
      go_roundw
      case rel => exact ⟨x / 256, bk ++ [UInt8.ofNat x], by go_num, by omega, by simp; omega, hO7, HS, hB7, hs7⟩
      case measure => simp [intOf]; omega
    · have hx00 : x = 0 := by omega
      have HE := Lib.hid (show mag8 i.natAbs = bk.reverse by rw [mag8_magN _ (by omega), HM.out, hx00]; rfl)
      have hne : bk ≠ [] := by
        intro e
        have h := magN_nv i.natAbs
        rw [HM.out, hx00, e] at h
        have h2 : (0 : Nat) = i.natAbs := h
        omega
      subst hx00
      have hlp : 0 < bk.length := List.length_pos_iff.2 hne
      obtain ⟨g, cap, hform, hgb⟩ := hO.form hne
      rw [hform] at hO ⊢
      have hrow := Lib.hid hO.row
      have hgl : g < wr.heap.size := hO.row.1
      obtain ⟨W1, hW1⟩ : ∃ W1 : World, W1 = wr := ⟨_, rfl⟩
      subst hW1
      clear HM hne hform hO
      go_wp2_with fail
      go_loopw [6, 7] (fun v y wi => ∃ z : Int, -1 ≤ z ∧ z < bk.length ∧ y = .int .i64 z ∧ OwnB wi W1.heap.size v (bk.reverse.take (bk.length - (z + 1).toNat)) ∧ Below W1.heap.size W1 wi ∧ W1.heap.size ≤ wi.heap.size) (fun _ y _ => (intOf y + 1).toNat)
      case atStart => exact ⟨(bk.length : Int) - 1, by omega, by omega, rfl, by rw [show bk.length - ((bk.length : Int) - 1 + 1).toNat = 0 by omega]; exact OwnB.nil _ _, Below.refl _ _, Nat.le_refl _⟩
      case round =>
        obtain ⟨z, hz1, hz2, rfl, hO2, hB2, hs2⟩ := hrel
        by_cases hz : 0 ≤ z
        · obtain ⟨j, rfl⟩ := Int.eq_ofNat_of_zero_le hz
          have hjl : j < bk.length := by omega
          have hc := (hrow.out.below hB2 hgl).cell j hjl
          have HT := Lib.hid (take_rev bk j hjl)
          rw [show bk.length - ((j : Int) + 1).toNat = bk.length - 1 - j by omega] at hO2
          have hol : (bk.reverse.take (bk.length - 1 - j)).length ≤ 8 := by simp; omega
          obtain ⟨b, hb⟩ : ∃ b, bk[j] = b := ⟨_, rfl⟩
          rw [hb] at hc HT
          clear hb
          go_wp2_with (at_builtin; refine wpList_append_bytes rfl (.tmp 32) (.tmp 37) 111 rfl Tryd.underlying111 Tryd.info5 rfl (hO2.alloc _) _ [b] 1 _ rfl rfl (bv_cells_oneI _ _ _ rfl) (by omega) (hB2.alloc hs2 _) (by simp; omega) ?_; intro v7 w7 hO7 hB7 hs7)
          refine ⟨?_, by simp [intOf]⟩
          (repeat apply Exists.intro)
          exact ⟨⟨(j : Int) - 1, by omega, by omega, rfl, by rw [show bk.length - ((j : Int) - 1 + 1).toNat = bk.length - 1 - j + 1 by omega, HT.out]; exact hO7, hB7, hs7⟩, rfl⟩
        · have hze : bk.length - (z + 1).toNat = bk.length := by omega
          rw [hze, List.take_of_length_le (by simp)] at hO2
          have hcv := hO2.conv 111 9 Tryd.underlying111 Tryd.underlying5 Tryd.underlying9
          have d0 := (hB2.cell (p := ⟨w.heap.size, 0, none⟩) (by simp; omega)).trans c0
          have d1 := (hB2.cell (p := ⟨w.heap.size, 1, none⟩) (by simp; omega)).trans c1
          have y0 := (hB2.frozen (p := ⟨w.heap.size, 0, none⟩) (by simp; omega)).trans z0
          have y1 := (hB2.frozen (p := ⟨w.heap.size, 1, none⟩) (by simp; omega)).trans z1
          have hzi : w.heap.size < wr.heap.size := by omega
          have hbr : Below w.heap.size w wr := ((Below.refl _ w).alloc (Nat.le_refl _) _).trans ((hB.mono (by omega)).trans (hB2.mono (by omega)))
          have hZE := Lib.hid hze
          clear hze c0 c1 z0 z1 hO2 hrow
          go_wp2_with fail
          exact bodyPost_ret (v := .agg #[.bool false, .string ⟨bk.reverse.toArray⟩]) (by simp [results, Tryd.results65, go_sem, d0, d1]) rfl ⟨_, rfl, Lib.hid (by rw [HE.out, ByteArray.toList_mk]), (hbr.setCell (Nat.le_refl _) _).setCell (Nat.le_refl _) _⟩

theorem rof_zero (w : World) :
    Calls Tryd.prog 65 #[.int .i64 0] w fun e w' => e = .returned (.agg #[.bool false, .string ⟨#[]⟩]) ∧ Below w.heap.size w w' := by
  have hcv : ∀ w : World, (convert 111 9 (.slice none 0 0)).run Tryd.prog w = .ok (.string ⟨#[]⟩) w := fun w => run_convert_bytes_nil (P := Tryd.prog) w 111 5 Tryd.underlying111 Tryd.underlying5 0 0 9 Tryd.underlying9
  go_enter Tryd.func65, Tryd.ntmps65
  go_wp2_with fail
  refine wp_loop_rounds 1 ?_
  rw [rounds_succ]
  go_wp2_with fail
  refine wp_loop_rounds 1 ?_
  rw [rounds_succ]
  go_wp2_with fail
  exact bodyPost_ret (v := .agg #[.bool false, .string ⟨#[]⟩]) (by simp [results, Tryd.results65, go_sem]) rfl ⟨rfl, (Below.refl _ _).alloc (Nat.le_refl _) _⟩
theorem rof_any (i : Int) (w : World) (h0 : -9223372036854775808 ≤ i) (h1 : i ≤ 9223372036854775807) (b : Bool) (hb : decide (i < 0) = b) :
    Calls Tryd.prog 65 #[.int .i64 i] w fun e w' => ∃ p : ByteArray, e = .returned (.agg #[.bool b, .string p]) ∧ Hid (p.toList = mag8 i.natAbs) ∧ Below w.heap.size w w' := by
  subst hb
  rcases Int.lt_trichotomy i 0 with h | h | h
  · rw [show decide (i < 0) = true from decide_eq_true h]
    exact rof_minus i w h h0
  · subst h
    exact (rof_zero w).mono fun e w' ⟨he, hb⟩ => ⟨_, he, Lib.hid (by rw [ByteArray.toList_mk]; decide), hb⟩
  · rw [show decide (i < 0) = false from decide_eq_false (by omega)]
    exact rof_plus i w h h1
end Go.Proofs.YtcgphlilijeifaaDoor
