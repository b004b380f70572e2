/-
  The document's Take: its contract.
-/
import Derived.Test.YtcgphlilijeifaaDoorTake
namespace Go.Proofs.YtcgphlilijeifaaDoor
open Go.RowKit

theorem take_post_ok {s : ByteArray} {a : Nat} {w w' : World} {m : List UInt8} {f : Nat} {x : Int} {below : Bool} {q : ByteArray} (h : takeE s.toList a = .ok (below, m, f)) (hx : x = f) (hq : q.data.toList = m) (hb : Below w.heap.size w w') :
    TakePost s a w (.returned (.tuple #[.agg #[.bool below, .string q], .int .i64 x, .int .i64 0])) w' := by
  unfold TakePost
  rw [h, hx]
  exact ⟨q, rfl, Lib.hid (by rw [Lib.toList_data]; exact hq), hb⟩

set_option maxRecDepth 100000 in
set_option maxHeartbeats 4000000 in
theorem rtake_high (s : ByteArray) (a : Nat) (w : World) (hs : s.size ≤ 9223372036854775807) (ha : a < s.size) (h1 : 128 ≤ s[a].toNat) (h2 : s[a].toNat ≠ 255) : Calls Tryd.prog 71 #[.string s, .int .i64 a] w (TakePost s a w) := by
  have hc := s[a].toNat_lt
  have HE := Lib.hid (show sizeE s.toList a = .ok (s[a].toNat - 128, false, a + 1) by simp [sizeE, at_some s a ha, h1, h2])
  have q0 : decide ((a : Int) < (0 : Int)) = false := by simp
  have q1 : decide (s.size < a) = false := by simp; omega
  have q2 : ((a : Int) == (s.size : Int)) = false := by simp; omega
  have q3 : ((s[a].toNat : Int) == 0) = false := by simp; omega
  have q4 : ((s[a].toNat : Int) == 255) = false := by simp; omega
  have q5 : ((s[a].toNat : Int) == 1) = false := by simp; omega
  have q6 : decide ((s[a].toNat : Int) < 128) = false := by simp; omega
  have q8 : decide ((s[a].toNat : Int) - 128 < 0) = false := by simp; omega
  go_enter Tryd.func71, Tryd.ntmps71
  go_wp2_with fail
  obtain ⟨k, hk⟩ : ∃ k : Nat, s[a].toNat - 128 = k := ⟨_, rfl⟩
  obtain ⟨f, hf⟩ : ∃ f : Nat, a + 1 = f := ⟨_, rfl⟩
  rw [hk, hf] at HE
  rw [show ((s[a].toNat : Int) - 128) = (k : Int) by omega, show ((a : Int) + 1) = (f : Int) by omega]
  obtain ⟨g1, g2, g3⟩ := sizeE_ok HE.out
  rw [size_of] at g3
  go_loopw [10, 11] (fun v i wr => ∃ j : Nat, j ≤ k ∧ f + j ≤ s.size ∧ i = .int .i64 j ∧ OwnB wr (w.heap.size + 1) v (readL s.toList false f j) ∧ Below (w.heap.size + 1) (w.alloc (.cells #[.bool false, .string ⟨#[]⟩] 24)) wr ∧ w.heap.size + 1 ≤ wr.heap.size ∧
    RowKit.Hid (j = 0 ∨ OnE s.toList false f k)) (fun _ i _ => k - (intOf i).toNat)
  case atStart => exact ⟨0, Nat.zero_le _, by omega, rfl, by rw [readL_zero]; exact OwnB.nil _ _, Below.refl _ _, by simp, Lib.hid (.inl rfl)⟩
  case round =>
    obtain ⟨j, hjk, hfj, rfl, hO, hB, hsz, HON⟩ := hrel
    have hrl : (readL s.toList false f j).length = j := readL_length _ _ _ _ (by rw [size_of]; exact hfj)
    have c0 : wr.cell? ⟨w.heap.size, 0, none⟩ = some (.bool false) := (hB.cell (p := ⟨w.heap.size, 0, none⟩) (by simp)).trans (by simp)
    have c1 : wr.cell? ⟨w.heap.size, 1, none⟩ = some (.string ⟨#[]⟩) := (hB.cell (p := ⟨w.heap.size, 1, none⟩) (by simp)).trans (by simp)
    have z0 : wr.frozen? ⟨w.heap.size, 0, none⟩ = false := (hB.frozen (p := ⟨w.heap.size, 0, none⟩) (by simp)).trans (by simp)
    have z1 : wr.frozen? ⟨w.heap.size, 1, none⟩ = false := (hB.frozen (p := ⟨w.heap.size, 1, none⟩) (by simp)).trans (by simp)
    have hzr : w.heap.size < wr.heap.size := by omega
    have hbr : Below w.heap.size w wr := ((Below.refl _ w).alloc (Nat.le_refl _) _).trans (hB.mono (by omega))
    by_cases hlt : j < k
    · have r1 : decide ((j : Int) < (k : Int)) = true := by simpa using hlt
      by_cases hin : f + j < s.size
      · have r2 : ((f : Int) + (j : Int) == (s.size : Int)) = false := by simp; omega
        have hat := at_some s (f + j) hin
        have HS := Lib.hid (readL_succ s.toList false f j s[f + j] hat)
        have hcb := s[f + j].toNat_lt
        have hsb := Lib.hid (show ((fl false s[f + j]).toNat : Int) = (s[f + j].toNat : Int) from rfl)
        by_cases hj0 : j = 0
        · subst hj0
          have hin0 : f < s.size := hin
          have hat0 := at_some s f hin0
          have hcb0 := s[f].toNat_lt
          have r20 : ((f : Int) == (s.size : Int)) = false := by simp; omega
          have HS0 := Lib.hid (readL_succ s.toList false f 0 s[f] hat0)
          have hsb0 := Lib.hid (show ((fl false s[f]).toNat : Int) = (s[f].toNat : Int) from rfl)
          clear hat HS hsb hcb r2
          by_cases hz : fl false s[f] = 0
          · have hz0 : s[f].toNat = 0 := by have := congrArg UInt8.toNat hz; simpa [fl] using this
            have r4 : ((s[f].toNat : Int) == 0) = true := by simp; omega
            have HZ := Lib.hid (takeE_mag HE.out (magE_zero (l := s.toList) (below := false) (f := f) (k := k) (by omega) hat0 hz))
            clear hat0 hO HS0 hsb0 hz hz0
            go_wp2_with fail
            exact bodyPost_ret (v := .tuple #[.agg #[.bool false, .string ⟨#[]⟩], .int .i64 f, .int .i64 20]) (by simp [results, Tryd.results71, go_sem, c0, c1]) rfl (take_post_bad HZ.out rfl ((hbr.setCell (Nat.le_refl _) _).setCell (Nat.le_refl _) _))
          · have hz0 : s[f].toNat ≠ 0 := fun e => hz (UInt8.toNat_inj.1 (by simp only [fl, Bool.false_eq_true, if_false, e]; rfl))
            have r4 : ((s[f].toNat : Int) == 0) = false := by simp; omega
            have HN := Lib.hid (onE_first (l := s.toList) (below := false) (f := f) (k := k) (by omega) hat0 hz)
            clear hat0 hz hz0 c0 c1 z0 z1 hbr
            go_wp2_with (at_builtin; refine wpList_append_bytes rfl (.tmp 101) (.tmp 103) 111 rfl Tryd.underlying111 Tryd.info5 rfl (hO.alloc _) _ [fl false s[f]] 1 _ rfl rfl (bv_cells_oneI _ _ _ hsb0.out) (by omega) (hB.alloc hsz _) (by simp; omega) ?_; intro v7 w7 hO7 hB7 hs7)
            go_roundw
            case rel => exact ⟨1, by omega, by omega, by go_num, by rw [HS0.out]; exact hO7, hB7, hs7, Lib.hid (.inr HN.out)⟩
            case measure => simp [intOf]; omega
        · have r3 : ((j : Int) == 0) = false := by simp; omega
          have HN := Lib.hid (HON.out.resolve_left hj0)
          clear hat c0 c1 z0 z1 hbr
          go_wp2_with (at_builtin; refine wpList_append_bytes rfl (.tmp 101) (.tmp 103) 111 rfl Tryd.underlying111 Tryd.info5 rfl (hO.alloc _) _ [fl false s[f + j]] 1 _ rfl rfl (bv_cells_oneI _ _ _ hsb.out) (by omega) (hB.alloc hsz _) (by simp; omega) ?_; intro v7 w7 hO7 hB7 hs7)
          go_roundw
          case rel => exact ⟨j + 1, by omega, by omega, by go_num, by rw [HS.out]; exact hO7, hB7, hs7, Lib.hid (.inr HN.out)⟩
          case measure => simp [intOf]; omega
      · have r2 : ((f : Int) + (j : Int) == (s.size : Int)) = true := by simp; omega
        have HZ := Lib.hid (takeE_mag HE.out (magE_end (l := s.toList) (below := false) (f := f) hlt (by rw [size_of]; omega) HON.out))
        clear hO
        go_wp2_with fail
        exact bodyPost_ret (v := .tuple #[.agg #[.bool false, .string ⟨#[]⟩], .int .i64 s.size, .int .i64 20]) (by simp [results, Tryd.results71, go_sem, c0, c1]) rfl (take_post_bad HZ.out (by rw [size_of]) ((hbr.setCell (Nat.le_refl _) _).setCell (Nat.le_refl _) _))
    · have hjk2 : j = k := by omega
      have r1 : decide ((j : Int) < (k : Int)) = false := by simp; omega
      have HM := Lib.hid (takeE_ok HE.out (magE_all (l := s.toList) (below := false) (f := f) (k := k) (by rw [size_of]; omega) (hjk2 ▸ HON.out)))
      have hcv := hO.conv 111 9 Tryd.underlying111 Tryd.underlying5 Tryd.underlying9
      rw [hjk2] at hcv
      clear hO
      go_wp2_with fail
      exact bodyPost_ret (v := .tuple #[.agg #[.bool false, .string ⟨(readL s.toList false f k).toArray⟩], .int .i64 ((f : Int) + (k : Int)), .int .i64 0]) (by simp [results, Tryd.results71, go_sem, c0, c1]) rfl (take_post_ok HM.out (by omega) rfl ((hbr.setCell (Nat.le_refl _) _).setCell (Nat.le_refl _) _))

set_option maxRecDepth 100000 in
set_option maxHeartbeats 4000000 in
theorem rtake_low (s : ByteArray) (a : Nat) (w : World) (hs : s.size ≤ 9223372036854775807) (ha : a < s.size) (h1 : s[a].toNat < 128) (h2 : 2 ≤ s[a].toNat) : Calls Tryd.prog 71 #[.string s, .int .i64 a] w (TakePost s a w) := by
  have hc := s[a].toNat_lt
  have HE := Lib.hid (show sizeE s.toList a = .ok (128 - s[a].toNat, true, a + 1) by simp [sizeE, at_some s a ha, h2, show ¬ s[a].toNat = 255 by omega, show ¬ 128 ≤ s[a].toNat by omega])
  have q0 : decide ((a : Int) < (0 : Int)) = false := by simp
  have q1 : decide (s.size < a) = false := by simp; omega
  have q2 : ((a : Int) == (s.size : Int)) = false := by simp; omega
  have q3 : ((s[a].toNat : Int) == 0) = false := by simp; omega
  have q4 : ((s[a].toNat : Int) == 255) = false := by simp; omega
  have q5 : ((s[a].toNat : Int) == 1) = false := by simp; omega
  have q6 : decide ((s[a].toNat : Int) < 128) = true := by simp; omega
  have q8 : decide ((s[a].toNat : Int) - 128 < 0) = true := by simp; omega
  go_enter Tryd.func71, Tryd.ntmps71
  go_wp2_with fail
  obtain ⟨k, hk⟩ : ∃ k : Nat, 128 - s[a].toNat = k := ⟨_, rfl⟩
  obtain ⟨f, hf⟩ : ∃ f : Nat, a + 1 = f := ⟨_, rfl⟩
  rw [hk, hf] at HE
  rw [show (-((s[a].toNat : Int) - 128)) = (k : Int) by omega, show ((a : Int) + 1) = (f : Int) by omega]
  obtain ⟨g1, g2, g3⟩ := sizeE_ok HE.out
  rw [size_of] at g3
  go_loopw [10, 11] (fun v i wr => ∃ j : Nat, j ≤ k ∧ f + j ≤ s.size ∧ i = .int .i64 j ∧ OwnB wr (w.heap.size + 1) v (readL s.toList true f j) ∧ Below (w.heap.size + 1) (w.alloc (.cells #[.bool false, .string ⟨#[]⟩] 24)) wr ∧ w.heap.size + 1 ≤ wr.heap.size ∧
    RowKit.Hid (j = 0 ∨ OnE s.toList true f k)) (fun _ i _ => k - (intOf i).toNat)
  case atStart => exact ⟨0, Nat.zero_le _, by omega, rfl, by rw [readL_zero]; exact OwnB.nil _ _, Below.refl _ _, by simp, Lib.hid (.inl rfl)⟩
  case round =>
    obtain ⟨j, hjk, hfj, rfl, hO, hB, hsz, HON⟩ := hrel
    have hrl : (readL s.toList true f j).length = j := readL_length _ _ _ _ (by rw [size_of]; exact hfj)
    have c0 : wr.cell? ⟨w.heap.size, 0, none⟩ = some (.bool false) := (hB.cell (p := ⟨w.heap.size, 0, none⟩) (by simp)).trans (by simp)
    have c1 : wr.cell? ⟨w.heap.size, 1, none⟩ = some (.string ⟨#[]⟩) := (hB.cell (p := ⟨w.heap.size, 1, none⟩) (by simp)).trans (by simp)
    have z0 : wr.frozen? ⟨w.heap.size, 0, none⟩ = false := (hB.frozen (p := ⟨w.heap.size, 0, none⟩) (by simp)).trans (by simp)
    have z1 : wr.frozen? ⟨w.heap.size, 1, none⟩ = false := (hB.frozen (p := ⟨w.heap.size, 1, none⟩) (by simp)).trans (by simp)
    have hzr : w.heap.size < wr.heap.size := by omega
    have hbr : Below w.heap.size w wr := ((Below.refl _ w).alloc (Nat.le_refl _) _).trans (hB.mono (by omega))
    by_cases hlt : j < k
    · have r1 : decide ((j : Int) < (k : Int)) = true := by simpa using hlt
      by_cases hin : f + j < s.size
      · have r2 : ((f : Int) + (j : Int) == (s.size : Int)) = false := by simp; omega
        have hat := at_some s (f + j) hin
        have HS := Lib.hid (readL_succ s.toList true f j s[f + j] hat)
        have hcb := s[f + j].toNat_lt
        have hsb := Lib.hid (show ((fl true s[f + j]).toNat : Int) = 255 - (s[f + j].toNat : Int) from sub255 s[f + j])
        by_cases hj0 : j = 0
        · subst hj0
          have hin0 : f < s.size := hin
          have hat0 := at_some s f hin0
          have hcb0 := s[f].toNat_lt
          have r20 : ((f : Int) == (s.size : Int)) = false := by simp; omega
          have HS0 := Lib.hid (readL_succ s.toList true f 0 s[f] hat0)
          have hsb0 := Lib.hid (show ((fl true s[f]).toNat : Int) = 255 - (s[f].toNat : Int) from sub255 s[f])
          clear hat HS hsb hcb r2
          by_cases hz : fl true s[f] = 0
          · have hz0 : s[f].toNat = 255 := by have := congrArg UInt8.toNat hz; simp only [fl, if_true, sub255n] at this; have h0 : (0 : UInt8).toNat = 0 := rfl; omega
            have r4 : ((255 - (s[f].toNat : Int)) == 0) = true := by simp; omega
            have HZ := Lib.hid (takeE_mag HE.out (magE_zero (l := s.toList) (below := true) (f := f) (k := k) (by omega) hat0 hz))
            clear hat0 hO HS0 hsb0 hz hz0
            go_wp2_with fail
            exact bodyPost_ret (v := .tuple #[.agg #[.bool false, .string ⟨#[]⟩], .int .i64 f, .int .i64 20]) (by simp [results, Tryd.results71, go_sem, c0, c1]) rfl (take_post_bad HZ.out rfl ((hbr.setCell (Nat.le_refl _) _).setCell (Nat.le_refl _) _))
          · have hz0 : s[f].toNat ≠ 255 := fun e => hz (UInt8.toNat_inj.1 (by simp only [fl, if_true, sub255n, e]; rfl))
            have r4 : ((255 - (s[f].toNat : Int)) == 0) = false := by simp; omega
            have HN := Lib.hid (onE_first (l := s.toList) (below := true) (f := f) (k := k) (by omega) hat0 hz)
            clear hat0 hz hz0 c0 c1 z0 z1 hbr
            go_wp2_with (at_builtin; refine wpList_append_bytes rfl (.tmp 101) (.tmp 103) 111 rfl Tryd.underlying111 Tryd.info5 rfl (hO.alloc _) _ [fl true s[f]] 1 _ rfl rfl (bv_cells_oneI _ _ _ hsb0.out) (by omega) (hB.alloc hsz _) (by simp; omega) ?_; intro v7 w7 hO7 hB7 hs7)
            go_roundw
            case rel => exact ⟨1, by omega, by omega, by go_num, by rw [HS0.out]; exact hO7, hB7, hs7, Lib.hid (.inr HN.out)⟩
            case measure => simp [intOf]; omega
        · have r3 : ((j : Int) == 0) = false := by simp; omega
          have HN := Lib.hid (HON.out.resolve_left hj0)
          clear hat c0 c1 z0 z1 hbr
          go_wp2_with (at_builtin; refine wpList_append_bytes rfl (.tmp 101) (.tmp 103) 111 rfl Tryd.underlying111 Tryd.info5 rfl (hO.alloc _) _ [fl true s[f + j]] 1 _ rfl rfl (bv_cells_oneI _ _ _ hsb.out) (by omega) (hB.alloc hsz _) (by simp; omega) ?_; intro v7 w7 hO7 hB7 hs7)
          go_roundw
          case rel => exact ⟨j + 1, by omega, by omega, by go_num, by rw [HS.out]; exact hO7, hB7, hs7, Lib.hid (.inr HN.out)⟩
          case measure => simp [intOf]; omega
      · have r2 : ((f : Int) + (j : Int) == (s.size : Int)) = true := by simp; omega
        have HZ := Lib.hid (takeE_mag HE.out (magE_end (l := s.toList) (below := true) (f := f) hlt (by rw [size_of]; omega) HON.out))
        clear hO
        go_wp2_with fail
        exact bodyPost_ret (v := .tuple #[.agg #[.bool false, .string ⟨#[]⟩], .int .i64 s.size, .int .i64 20]) (by simp [results, Tryd.results71, go_sem, c0, c1]) rfl (take_post_bad HZ.out (by rw [size_of]) ((hbr.setCell (Nat.le_refl _) _).setCell (Nat.le_refl _) _))
    · have hjk2 : j = k := by omega
      have r1 : decide ((j : Int) < (k : Int)) = false := by simp; omega
      have HM := Lib.hid (takeE_ok HE.out (magE_all (l := s.toList) (below := true) (f := f) (k := k) (by rw [size_of]; omega) (hjk2 ▸ HON.out)))
      have hcv := hO.conv 111 9 Tryd.underlying111 Tryd.underlying5 Tryd.underlying9
      rw [hjk2] at hcv
      clear hO
      go_wp2_with fail
      exact bodyPost_ret (v := .tuple #[.agg #[.bool true, .string ⟨(readL s.toList true f k).toArray⟩], .int .i64 ((f : Int) + (k : Int)), .int .i64 0]) (by simp [results, Tryd.results71, go_sem, c0, c1]) rfl (take_post_ok HM.out (by omega) rfl ((hbr.setCell (Nat.le_refl _) _).setCell (Nat.le_refl _) _))

set_option maxRecDepth 100000 in
set_option maxHeartbeats 4000000 in
theorem rtake_longp (s : ByteArray) (a : Nat) (w : World) (hs : s.size ≤ 9223372036854775807) (ha : a < s.size) (h1 : s[a].toNat = 255) (hl : a + 1 < s.size) (h2 : 126 < s[a + 1].toNat) : Calls Tryd.prog 71 #[.string s, .int .i64 a] w (TakePost s a w) := by
  have hc := s[a].toNat_lt
  have HE := Lib.hid (show sizeE s.toList a = .ok (s[a + 1].toNat, false, a + 2) by simp [sizeE, at_some s a ha, at_some s (a + 1) hl, h1, h2])
  have q0 : decide ((a : Int) < (0 : Int)) = false := by simp
  have q1 : decide (s.size < a) = false := by simp; omega
  have q2 : ((a : Int) == (s.size : Int)) = false := by simp; omega
  have q3 : ((s[a].toNat : Int) == 0) = false := by simp; omega
  have q4 : ((s[a].toNat : Int) == 255) = true := by simp; omega
  have q5 : ((s[a].toNat : Int) == 1) = false := by simp; omega
  have q6 : decide ((s[a].toNat : Int) < 128) = false := by simp; omega
  have q8 : decide ((s[a].toNat : Int) - 128 < 0) = false := by simp; omega
  have hc2 := s[a + 1].toNat_lt
  have q7 : ((a : Int) + 1 == (s.size : Int)) = false := by simp; omega
  go_enter Tryd.func71, Tryd.ntmps71
  go_wp2_with fail
  obtain ⟨k, hk⟩ : ∃ k : Nat, s[a + 1].toNat = k := ⟨_, rfl⟩
  obtain ⟨f, hf⟩ : ∃ f : Nat, a + 2 = f := ⟨_, rfl⟩
  rw [hk, hf] at HE
  rw [show ((s[a + 1].toNat : Int)) = (k : Int) by omega, show ((a : Int) + 1 + 1) = (f : Int) by omega]
  obtain ⟨g1, g2, g3⟩ := sizeE_ok HE.out
  rw [size_of] at g3
  go_loopw [10, 11] (fun v i wr => ∃ j : Nat, j ≤ k ∧ f + j ≤ s.size ∧ i = .int .i64 j ∧ OwnB wr (w.heap.size + 1) v (readL s.toList false f j) ∧ Below (w.heap.size + 1) (w.alloc (.cells #[.bool false, .string ⟨#[]⟩] 24)) wr ∧ w.heap.size + 1 ≤ wr.heap.size ∧
    RowKit.Hid (j = 0 ∨ OnE s.toList false f k)) (fun _ i _ => k - (intOf i).toNat)
  case atStart => exact ⟨0, Nat.zero_le _, by omega, rfl, by rw [readL_zero]; exact OwnB.nil _ _, Below.refl _ _, by simp, Lib.hid (.inl rfl)⟩
  case round =>
    obtain ⟨j, hjk, hfj, rfl, hO, hB, hsz, HON⟩ := hrel
    have hrl : (readL s.toList false f j).length = j := readL_length _ _ _ _ (by rw [size_of]; exact hfj)
    have c0 : wr.cell? ⟨w.heap.size, 0, none⟩ = some (.bool false) := (hB.cell (p := ⟨w.heap.size, 0, none⟩) (by simp)).trans (by simp)
    have c1 : wr.cell? ⟨w.heap.size, 1, none⟩ = some (.string ⟨#[]⟩) := (hB.cell (p := ⟨w.heap.size, 1, none⟩) (by simp)).trans (by simp)
    have z0 : wr.frozen? ⟨w.heap.size, 0, none⟩ = false := (hB.frozen (p := ⟨w.heap.size, 0, none⟩) (by simp)).trans (by simp)
    have z1 : wr.frozen? ⟨w.heap.size, 1, none⟩ = false := (hB.frozen (p := ⟨w.heap.size, 1, none⟩) (by simp)).trans (by simp)
    have hzr : w.heap.size < wr.heap.size := by omega
    have hbr : Below w.heap.size w wr := ((Below.refl _ w).alloc (Nat.le_refl _) _).trans (hB.mono (by omega))
    by_cases hlt : j < k
    · have r1 : decide ((j : Int) < (k : Int)) = true := by simpa using hlt
      by_cases hin : f + j < s.size
      · have r2 : ((f : Int) + (j : Int) == (s.size : Int)) = false := by simp; omega
        have hat := at_some s (f + j) hin
        have HS := Lib.hid (readL_succ s.toList false f j s[f + j] hat)
        have hcb := s[f + j].toNat_lt
        have hsb := Lib.hid (show ((fl false s[f + j]).toNat : Int) = (s[f + j].toNat : Int) from rfl)
        by_cases hj0 : j = 0
        · subst hj0
          have hin0 : f < s.size := hin
          have hat0 := at_some s f hin0
          have hcb0 := s[f].toNat_lt
          have r20 : ((f : Int) == (s.size : Int)) = false := by simp; omega
          have HS0 := Lib.hid (readL_succ s.toList false f 0 s[f] hat0)
          have hsb0 := Lib.hid (show ((fl false s[f]).toNat : Int) = (s[f].toNat : Int) from rfl)
          clear hat HS hsb hcb r2
          by_cases hz : fl false s[f] = 0
          · have hz0 : s[f].toNat = 0 := by have := congrArg UInt8.toNat hz; simpa [fl] using this
            have r4 : ((s[f].toNat : Int) == 0) = true := by simp; omega
            have HZ := Lib.hid (takeE_mag HE.out (magE_zero (l := s.toList) (below := false) (f := f) (k := k) (by omega) hat0 hz))
            clear hat0 hO HS0 hsb0 hz hz0
            go_wp2_with fail
            exact bodyPost_ret (v := .tuple #[.agg #[.bool false, .string ⟨#[]⟩], .int .i64 f, .int .i64 20]) (by simp [results, Tryd.results71, go_sem, c0, c1]) rfl (take_post_bad HZ.out rfl ((hbr.setCell (Nat.le_refl _) _).setCell (Nat.le_refl _) _))
          · have hz0 : s[f].toNat ≠ 0 := fun e => hz (UInt8.toNat_inj.1 (by simp only [fl, Bool.false_eq_true, if_false, e]; rfl))
            have r4 : ((s[f].toNat : Int) == 0) = false := by simp; omega
            have HN := Lib.hid (onE_first (l := s.toList) (below := false) (f := f) (k := k) (by omega) hat0 hz)
            clear hat0 hz hz0 c0 c1 z0 z1 hbr
            go_wp2_with (at_builtin; refine wpList_append_bytes rfl (.tmp 101) (.tmp 103) 111 rfl Tryd.underlying111 Tryd.info5 rfl (hO.alloc _) _ [fl false s[f]] 1 _ rfl rfl (bv_cells_oneI _ _ _ hsb0.out) (by omega) (hB.alloc hsz _) (by simp; omega) ?_; intro v7 w7 hO7 hB7 hs7)
            go_roundw
            case rel => exact ⟨1, by omega, by omega, by go_num, by rw [HS0.out]; exact hO7, hB7, hs7, Lib.hid (.inr HN.out)⟩
            case measure => simp [intOf]; omega
        · have r3 : ((j : Int) == 0) = false := by simp; omega
          have HN := Lib.hid (HON.out.resolve_left hj0)
          clear hat c0 c1 z0 z1 hbr
          go_wp2_with (at_builtin; refine wpList_append_bytes rfl (.tmp 101) (.tmp 103) 111 rfl Tryd.underlying111 Tryd.info5 rfl (hO.alloc _) _ [fl false s[f + j]] 1 _ rfl rfl (bv_cells_oneI _ _ _ hsb.out) (by omega) (hB.alloc hsz _) (by simp; omega) ?_; intro v7 w7 hO7 hB7 hs7)
          go_roundw
          case rel => exact ⟨j + 1, by omega, by omega, by go_num, by rw [HS.out]; exact hO7, hB7, hs7, Lib.hid (.inr HN.out)⟩
          case measure => simp [intOf]; omega
      · have r2 : ((f : Int) + (j : Int) == (s.size : Int)) = true := by simp; omega
        have HZ := Lib.hid (takeE_mag HE.out (magE_end (l := s.toList) (below := false) (f := f) hlt (by rw [size_of]; omega) HON.out))
        clear hO
        go_wp2_with fail
        exact bodyPost_ret (v := .tuple #[.agg #[.bool false, .string ⟨#[]⟩], .int .i64 s.size, .int .i64 20]) (by simp [results, Tryd.results71, go_sem, c0, c1]) rfl (take_post_bad HZ.out (by rw [size_of]) ((hbr.setCell (Nat.le_refl _) _).setCell (Nat.le_refl _) _))
    · have hjk2 : j = k := by omega
      have r1 : decide ((j : Int) < (k : Int)) = false := by simp; omega
      have HM := Lib.hid (takeE_ok HE.out (magE_all (l := s.toList) (below := false) (f := f) (k := k) (by rw [size_of]; omega) (hjk2 ▸ HON.out)))
      have hcv := hO.conv 111 9 Tryd.underlying111 Tryd.underlying5 Tryd.underlying9
      rw [hjk2] at hcv
      clear hO
      go_wp2_with fail
      exact bodyPost_ret (v := .tuple #[.agg #[.bool false, .string ⟨(readL s.toList false f k).toArray⟩], .int .i64 ((f : Int) + (k : Int)), .int .i64 0]) (by simp [results, Tryd.results71, go_sem, c0, c1]) rfl (take_post_ok HM.out (by omega) rfl ((hbr.setCell (Nat.le_refl _) _).setCell (Nat.le_refl _) _))

set_option maxRecDepth 100000 in
set_option maxHeartbeats 4000000 in
theorem rtake_longm (s : ByteArray) (a : Nat) (w : World) (hs : s.size ≤ 9223372036854775807) (ha : a < s.size) (h1 : s[a].toNat = 1) (hl : a + 1 < s.size) (h2 : 126 < 255 - s[a + 1].toNat) : Calls Tryd.prog 71 #[.string s, .int .i64 a] w (TakePost s a w) := by
  have hc := s[a].toNat_lt
  have HE := Lib.hid (show sizeE s.toList a = .ok (255 - s[a + 1].toNat, true, a + 2) by simp [sizeE, at_some s a ha, at_some s (a + 1) hl, h1, h2])
  have q0 : decide ((a : Int) < (0 : Int)) = false := by simp
  have q1 : decide (s.size < a) = false := by simp; omega
  have q2 : ((a : Int) == (s.size : Int)) = false := by simp; omega
  have q3 : ((s[a].toNat : Int) == 0) = false := by simp; omega
  have q4 : ((s[a].toNat : Int) == 255) = false := by simp; omega
  have q5 : ((s[a].toNat : Int) == 1) = true := by simp; omega
  have q6 : decide ((s[a].toNat : Int) < 128) = true := by simp; omega
  have q8 : decide ((s[a].toNat : Int) - 128 < 0) = true := by simp; omega
  have hc2 := s[a + 1].toNat_lt
  have q7 : ((a : Int) + 1 == (s.size : Int)) = false := by simp; omega
  go_enter Tryd.func71, Tryd.ntmps71
  go_wp2_with fail
  obtain ⟨k, hk⟩ : ∃ k : Nat, 255 - s[a + 1].toNat = k := ⟨_, rfl⟩
  obtain ⟨f, hf⟩ : ∃ f : Nat, a + 2 = f := ⟨_, rfl⟩
  rw [hk, hf] at HE
  rw [show (255 - (s[a + 1].toNat : Int)) = (k : Int) by omega, show ((a : Int) + 1 + 1) = (f : Int) by omega]
  obtain ⟨g1, g2, g3⟩ := sizeE_ok HE.out
  rw [size_of] at g3
  go_loopw [10, 11] (fun v i wr => ∃ j : Nat, j ≤ k ∧ f + j ≤ s.size ∧ i = .int .i64 j ∧ OwnB wr (w.heap.size + 1) v (readL s.toList true f j) ∧ Below (w.heap.size + 1) (w.alloc (.cells #[.bool false, .string ⟨#[]⟩] 24)) wr ∧ w.heap.size + 1 ≤ wr.heap.size ∧
    RowKit.Hid (j = 0 ∨ OnE s.toList true f k)) (fun _ i _ => k - (intOf i).toNat)
  case atStart => exact ⟨0, Nat.zero_le _, by omega, rfl, by rw [readL_zero]; exact OwnB.nil _ _, Below.refl _ _, by simp, Lib.hid (.inl rfl)⟩
  case round =>
    obtain ⟨j, hjk, hfj, rfl, hO, hB, hsz, HON⟩ := hrel
    have hrl : (readL s.toList true f j).length = j := readL_length _ _ _ _ (by rw [size_of]; exact hfj)
    have c0 : wr.cell? ⟨w.heap.size, 0, none⟩ = some (.bool false) := (hB.cell (p := ⟨w.heap.size, 0, none⟩) (by simp)).trans (by simp)
    have c1 : wr.cell? ⟨w.heap.size, 1, none⟩ = some (.string ⟨#[]⟩) := (hB.cell (p := ⟨w.heap.size, 1, none⟩) (by simp)).trans (by simp)
    have z0 : wr.frozen? ⟨w.heap.size, 0, none⟩ = false := (hB.frozen (p := ⟨w.heap.size, 0, none⟩) (by simp)).trans (by simp)
    have z1 : wr.frozen? ⟨w.heap.size, 1, none⟩ = false := (hB.frozen (p := ⟨w.heap.size, 1, none⟩) (by simp)).trans (by simp)
    have hzr : w.heap.size < wr.heap.size := by omega
    have hbr : Below w.heap.size w wr := ((Below.refl _ w).alloc (Nat.le_refl _) _).trans (hB.mono (by omega))
    by_cases hlt : j < k
    · have r1 : decide ((j : Int) < (k : Int)) = true := by simpa using hlt
      by_cases hin : f + j < s.size
      · have r2 : ((f : Int) + (j : Int) == (s.size : Int)) = false := by simp; omega
        have hat := at_some s (f + j) hin
        have HS := Lib.hid (readL_succ s.toList true f j s[f + j] hat)
        have hcb := s[f + j].toNat_lt
        have hsb := Lib.hid (show ((fl true s[f + j]).toNat : Int) = 255 - (s[f + j].toNat : Int) from sub255 s[f + j])
        by_cases hj0 : j = 0
        · subst hj0
          have hin0 : f < s.size := hin
          have hat0 := at_some s f hin0
          have hcb0 := s[f].toNat_lt
          have r20 : ((f : Int) == (s.size : Int)) = false := by simp; omega
          have HS0 := Lib.hid (readL_succ s.toList true f 0 s[f] hat0)
          have hsb0 := Lib.hid (show ((fl true s[f]).toNat : Int) = 255 - (s[f].toNat : Int) from sub255 s[f])
          clear hat HS hsb hcb r2
          by_cases hz : fl true s[f] = 0
          · have hz0 : s[f].toNat = 255 := by have := congrArg UInt8.toNat hz; simp only [fl, if_true, sub255n] at this; have h0 : (0 : UInt8).toNat = 0 := rfl; omega
            have r4 : ((255 - (s[f].toNat : Int)) == 0) = true := by simp; omega
            have HZ := Lib.hid (takeE_mag HE.out (magE_zero (l := s.toList) (below := true) (f := f) (k := k) (by omega) hat0 hz))
            clear hat0 hO HS0 hsb0 hz hz0
            go_wp2_with fail
            exact bodyPost_ret (v := .tuple #[.agg #[.bool false, .string ⟨#[]⟩], .int .i64 f, .int .i64 20]) (by simp [results, Tryd.results71, go_sem, c0, c1]) rfl (take_post_bad HZ.out rfl ((hbr.setCell (Nat.le_refl _) _).setCell (Nat.le_refl _) _))
          · have hz0 : s[f].toNat ≠ 255 := fun e => hz (UInt8.toNat_inj.1 (by simp only [fl, if_true, sub255n, e]; rfl))
            have r4 : ((255 - (s[f].toNat : Int)) == 0) = false := by simp; omega
            have HN := Lib.hid (onE_first (l := s.toList) (below := true) (f := f) (k := k) (by omega) hat0 hz)
            clear hat0 hz hz0 c0 c1 z0 z1 hbr
            go_wp2_with (at_builtin; refine wpList_append_bytes rfl (.tmp 101) (.tmp 103) 111 rfl Tryd.underlying111 Tryd.info5 rfl (hO.alloc _) _ [fl true s[f]] 1 _ rfl rfl (bv_cells_oneI _ _ _ hsb0.out) (by omega) (hB.alloc hsz _) (by simp; omega) ?_; intro v7 w7 hO7 hB7 hs7)
            go_roundw
            case rel => exact ⟨1, by omega, by omega, by go_num, by rw [HS0.out]; exact hO7, hB7, hs7, Lib.hid (.inr HN.out)⟩
            case measure => simp [intOf]; omega
        · have r3 : ((j : Int) == 0) = false := by simp; omega
          have HN := Lib.hid (HON.out.resolve_left hj0)
          clear hat c0 c1 z0 z1 hbr
          go_wp2_with (at_builtin; refine wpList_append_bytes rfl (.tmp 101) (.tmp 103) 111 rfl Tryd.underlying111 Tryd.info5 rfl (hO.alloc _) _ [fl true s[f + j]] 1 _ rfl rfl (bv_cells_oneI _ _ _ hsb.out) (by omega) (hB.alloc hsz _) (by simp; omega) ?_; intro v7 w7 hO7 hB7 hs7)
          go_roundw
          case rel => exact ⟨j + 1, by omega, by omega, by go_num, by rw [HS.out]; exact hO7, hB7, hs7, Lib.hid (.inr HN.out)⟩
          case measure => simp [intOf]; omega
      · have r2 : ((f : Int) + (j : Int) == (s.size : Int)) = true := by simp; omega
        have HZ := Lib.hid (takeE_mag HE.out (magE_end (l := s.toList) (below := true) (f := f) hlt (by rw [size_of]; omega) HON.out))
        clear hO
        go_wp2_with fail
        exact bodyPost_ret (v := .tuple #[.agg #[.bool false, .string ⟨#[]⟩], .int .i64 s.size, .int .i64 20]) (by simp [results, Tryd.results71, go_sem, c0, c1]) rfl (take_post_bad HZ.out (by rw [size_of]) ((hbr.setCell (Nat.le_refl _) _).setCell (Nat.le_refl _) _))
    · have hjk2 : j = k := by omega
      have r1 : decide ((j : Int) < (k : Int)) = false := by simp; omega
      have HM := Lib.hid (takeE_ok HE.out (magE_all (l := s.toList) (below := true) (f := f) (k := k) (by rw [size_of]; omega) (hjk2 ▸ HON.out)))
      have hcv := hO.conv 111 9 Tryd.underlying111 Tryd.underlying5 Tryd.underlying9
      rw [hjk2] at hcv
      clear hO
      go_wp2_with fail
      exact bodyPost_ret (v := .tuple #[.agg #[.bool true, .string ⟨(readL s.toList true f k).toArray⟩], .int .i64 ((f : Int) + (k : Int)), .int .i64 0]) (by simp [results, Tryd.results71, go_sem, c0, c1]) rfl (take_post_ok HM.out (by omega) rfl ((hbr.setCell (Nat.le_refl _) _).setCell (Nat.le_refl _) _))

end Go.Proofs.YtcgphlilijeifaaDoor
