/-
  The walk of the law OrdNext: it returns true, for every two texts.
-/
import Derived.Test.YtocmnkcnghapfaaEscapes
namespace Go.Proofs.Ytocmnkcnghapfaa
open Go.RowKit

theorem le_of_not_gt255 {c d : UInt8} (h : ¬ c < d) (h2 : ¬ d < c) : c = d := UInt8.le_antisymm (UInt8.not_lt.1 h2) (UInt8.not_lt.1 h)
theorem lt_succ (c : UInt8) (h : c ≠ 255) : c < c + 1 := by
  rw [UInt8.lt_iff_toNat_lt, UInt8.toNat_add]
  have h1 : (1 : UInt8).toNat = 1 := rfl
  have : ¬ c.toNat = 255 := fun e => h (UInt8.toNat_inj.1 (by simpa using e))
  have := c.toNat_lt
  rw [h1]; omega
theorem lt_succ_iff (c d : UInt8) (h : c ≠ 255) : d < c + 1 ↔ d ≤ c := by
  rw [UInt8.lt_iff_toNat_lt, UInt8.le_iff_toNat_le, UInt8.toNat_add]
  have h1 : (1 : UInt8).toNat = 1 := rfl
  have : ¬ c.toNat = 255 := fun e => h (UInt8.toNat_inj.1 (by simpa using e))
  have := c.toNat_lt
  rw [h1]; omega
theorem le_255 (c : UInt8) : ¬ (255 : UInt8) < c := by
  rw [UInt8.lt_iff_toNat_lt]
  have h255 : (255 : UInt8).toNat = 255 := rfl
  have := c.toNat_lt
  rw [h255]; omega

/-- Where nothing stands above all that begins with s, just what begins with s stands from s on. -/
theorem nx_none (s t : List UInt8) (h : nx s = none) : (0 ≤ cmp t s) ↔ s.isPrefixOf t = true := by
  induction s generalizing t with
  | nil => cases t <;> simp [cmp]
  | cons c r ih =>
    have hr : nx r = none := by
      cases e : nx r with
      | none => rfl
      | some m => simp [nx, e] at h
    have hc : c = 255 := by
      simp only [nx, hr] at h
      by_cases e : c = 255
      · exact e
      · simp [e] at h
    subst hc
    cases t with
    | nil => simp [cmp]
    | cons d q =>
      simp only [cmp, List.isPrefixOf]
      by_cases e1 : d < 255
      · have : ¬ (255 : UInt8) = d := fun e => by subst e; simp at e1
        simp [e1, this]
      · have e2 : ¬ 255 < d := le_255 d
        have e3 := le_of_not_gt255 e1 e2
        subst e3
        simp [ih q hr]
/-- Else just the texts from s up to that one; and s stands ahead of it. -/
theorem nx_some (s t m : List UInt8) (h : nx s = some m) : (0 ≤ cmp t s ∧ cmp t m < 0) ↔ s.isPrefixOf t = true := by
  induction s generalizing t m with
  | nil => simp [nx] at h
  | cons c r ih =>
    cases e : nx r with
    | some n =>
      have hm : m = c :: n := by simpa [nx, e] using h.symm
      subst hm
      cases t with
      | nil => simp [cmp]
      | cons d q =>
        simp only [cmp, List.isPrefixOf]
        by_cases e1 : d < c
        · have : ¬ c = d := fun e => by subst e; simp at e1
          simp [e1, this]
        · by_cases e2 : c < d
          · have : ¬ c = d := fun e => by subst e; simp at e2
            simp [e1, e2, this]
          · have e3 := le_of_not_gt255 e1 e2
            subst e3
            simp [ih q n e]
    | none =>
      have hc : c ≠ 255 := fun hc => by simp [nx, e, hc] at h
      have hm : m = [c + 1] := by simpa [nx, e, hc] using h.symm
      subst hm
      cases t with
      | nil => simp [cmp]
      | cons d q =>
        have hn := nx_none r q e
        have hl := lt_succ c hc
        by_cases e1 : d < c
        · have : ¬ c = d := fun e => by subst e; simp at e1
          simp [cmp, List.isPrefixOf, e1, this]
        · by_cases e2 : c < d
          · have h3 : ¬ c = d := fun e => by subst e; simp at e2
            have h4 : ¬ d < c + 1 := fun h => e1 ((UInt8.lt_iff_le_and_ne.2 ⟨(lt_succ_iff c d hc).1 h, fun e => h3 e.symm⟩))
            by_cases h5 : c + 1 < d
            · simp [cmp, List.isPrefixOf, e1, e2, h3, h4, h5]
            · cases q <;> simp [cmp, List.isPrefixOf, e1, e2, h3, h4, h5]
          · have e3 := le_of_not_gt255 e1 e2
            subst e3
            simp [cmp, List.isPrefixOf, hl, hn]
theorem nx_above (s m : List UInt8) (h : nx s = some m) : cmp s m = -1 := by
  have h1 := (nx_some s s m h).2 (by simp)
  rcases cmp_three s m with e | e | e
  · exact e
  · rw [e] at h1; simp at h1
  · rw [e] at h1; simp at h1

theorem flip_flip (l : List UInt8) : (l.map (255 - ·)).map (255 - ·) = l := by
  rw [List.map_map]
  have : ((fun c : UInt8 => 255 - c) ∘ (fun c : UInt8 => 255 - c)) = id := by
    funext c
    refine UInt8.toNat_inj.1 ?_
    have h255 : (255 : UInt8).toNat = 255 := rfl
    have := c.toNat_lt
    simp only [Function.comp, id, UInt8.toNat_sub, h255]
    omega
  rw [this, List.map_id]

theorem next_big (s t : ByteArray) (w : World) (h : ¬ (s.size ≤ 1073741823 ∧ t.size ≤ 1073741823)) :
    Calls Try.prog 8 #[.string s, .string t] w fun e w' => e = .returned (.bool true) ∧ Below w.heap.size w w' := by
  by_cases h1 : 1073741823 < s.size
  · go_enter Try.func8, Try.ntmps8
    go_wp2
    go_ret
    exact ⟨rfl, Below.refl _ _⟩
  · have h2 : 1073741823 < t.size := by omega
    clear h
    go_enter Try.func8, Try.ntmps8
    go_wp2
    go_ret
    exact ⟨rfl, Below.refl _ _⟩

set_option maxHeartbeats 400000 in
theorem nextlaw_none (s t : ByteArray) (w : World) (h1 : s.size ≤ 1073741823) (h2 : t.size ≤ 1073741823) (hn : nx s.toList = none) :
    Calls Try.prog 8 #[.string s, .string t] w fun e w' => e = .returned (.bool true) ∧ Below w.heap.size w w' := by
  have hb := nx_none s.toList t.toList hn
  obtain ⟨c, hc⟩ : ∃ c, cmp t.toList s.toList = c := ⟨_, rfl⟩
  rw [hc] at hb
  have HN := Lib.hid hn
  have HC := Lib.hid hc
  clear hn hc
  have hcase : (0 ≤ c ∧ s.toList.isPrefixOf t.toList = true) ∨ (c < 0 ∧ s.toList.isPrefixOf t.toList = false) := by
    by_cases h : 0 ≤ c
    · exact .inl ⟨h, hb.1 h⟩
    · exact .inr ⟨by omega, by rw [Bool.eq_false_iff]; exact fun e => h (hb.2 e)⟩
  clear hb
  rcases hcase with ⟨h3, hp⟩ | ⟨h3, hp⟩
  all_goals
    have HP := Lib.hid hp
    clear hp
    go_enter Try.func8, Try.ntmps8
    go_wp2_with fail
    refine (next_none _ _ (by omega) HN.out).mono ?_
    rintro e w1 ⟨rfl, hb1⟩
    go_wp2_with fail
    refine (order_any _ _ _ _ HC.out).mono ?_
    rintro e w2 ⟨rfl, hb2⟩
    go_wp2_with fail
    refine (flip_c _ _ (by omega)).mono ?_
    rintro e w3 ⟨u, rfl, hu, hb3⟩
    have zu : u.size = s.size := by rw [← size_of, ← size_of, hu.out]; simp
    have zl : u.size ≤ s.size := by omega
    have fu : ((u.size : Int) == (s.size : Int)) = true := by rw [zu]; simp
    clear zu
    go_wp2_with fail
    refine (begins_any _ _ _ _ HP.out).mono ?_
    rintro e w4 ⟨rfl, hb4⟩
    go_wp2_with fail
    refine (flip_c _ _ (by omega)).mono ?_
    rintro e w5 ⟨v, rfl, hv, hb5⟩
    have fv : (v.toList == s.toList) = true := by rw [hv.out, hu.out, flip_flip]; exact beq_self_eq_true _
    go_wp2_with fail
    refine (awake_any _).mono ?_
    rintro e w6 ⟨rfl, hb6⟩
    go_wp2
    go_ret
    exact ⟨rfl, two (two (two (two (two hb1 hb2) hb3) hb4) hb5) hb6⟩

set_option maxHeartbeats 400000 in
theorem nextlaw_low (s t : ByteArray) (w : World) (h1 : s.size ≤ 1073741823) (h2 : t.size ≤ 1073741823) (m : List UInt8) (hn : nx s.toList = some m) (c : Int) (hc : cmp t.toList s.toList = c) (h3 : c < 0) :
    Calls Try.prog 8 #[.string s, .string t] w fun e w' => e = .returned (.bool true) ∧ Below w.heap.size w w' := by
  have hb := nx_some s.toList t.toList m hn
  have hs := nx_above s.toList m hn
  have HP := Lib.hid (show s.toList.isPrefixOf t.toList = false by
    rw [Bool.eq_false_iff]; exact fun e => by have := (hb.2 e).1; omega)
  have HN := Lib.hid hn
  have HC := Lib.hid hc
  have HS := Lib.hid hs
  clear hn hc hb hs
  go_enter Try.func8, Try.ntmps8
  go_wp2_with fail
  refine (next_some _ _ (by omega) m HN.out).mono ?_
  rintro e w1 ⟨q, rfl, hq, hb1⟩
  go_wp2_with fail
  refine (order_any _ _ _ _ HC.out).mono ?_
  rintro e w2 ⟨rfl, hb2⟩
  go_wp2_with fail
  refine (flip_c _ _ (by omega)).mono ?_
  rintro e w3 ⟨u, rfl, hu, hb3⟩
  have zu : u.size = s.size := by rw [← size_of, ← size_of, hu.out]; simp
  have zl : u.size ≤ s.size := by omega
  have fu : ((u.size : Int) == (s.size : Int)) = true := by rw [zu]; simp
  clear zu
  go_wp2_with fail
  refine (begins_any _ _ _ _ HP.out).mono ?_
  rintro e w4 ⟨rfl, hb4⟩
  go_wp2_with fail
  refine (order_any _ _ _ (-1) (by rw [hq.out]; exact HS.out)).mono ?_
  rintro e w7 ⟨rfl, hb7⟩
  go_wp2_with fail
  refine (flip_c _ _ (by omega)).mono ?_
  rintro e w5 ⟨v, rfl, hv, hb5⟩
  have fv : (v.toList == s.toList) = true := by rw [hv.out, hu.out, flip_flip]; exact beq_self_eq_true _
  go_wp2_with fail
  refine (awake_any _).mono ?_
  rintro e w6 ⟨rfl, hb6⟩
  go_wp2
  go_ret
  exact ⟨rfl, two (two (two (two (two (two hb1 hb2) hb3) hb4) hb7) hb5) hb6⟩

set_option maxHeartbeats 400000 in
theorem nextlaw_some (s t : ByteArray) (w : World) (h1 : s.size ≤ 1073741823) (h2 : t.size ≤ 1073741823) (m : List UInt8) (hn : nx s.toList = some m) (c : Int) (hc : cmp t.toList s.toList = c) (h3 : 0 ≤ c) :
    Calls Try.prog 8 #[.string s, .string t] w fun e w' => e = .returned (.bool true) ∧ Below w.heap.size w w' := by
  have hb := nx_some s.toList t.toList m hn
  have hs := nx_above s.toList m hn
  obtain ⟨d, hd⟩ : ∃ d, cmp t.toList m = d := ⟨_, rfl⟩
  rw [hd, hc] at hb
  have hcase : (d < 0 ∧ decide (d < 0) = true ∧ s.toList.isPrefixOf t.toList = true) ∨ (0 ≤ d ∧ decide (d < 0) = false ∧ s.toList.isPrefixOf t.toList = false) := by
    by_cases h : d < 0
    · exact .inl ⟨h, decide_eq_true h, hb.1 ⟨h3, h⟩⟩
    · exact .inr ⟨by omega, decide_eq_false h, by rw [Bool.eq_false_iff]; exact fun e => h (hb.2 e).2⟩
  have HN := Lib.hid hn
  have HC := Lib.hid hc
  have HS := Lib.hid hs
  have HD := Lib.hid hd
  clear hn hc hb hs hd
  rcases hcase with ⟨h4, h5, hp⟩ | ⟨h4, h5, hp⟩
  all_goals
    have HP := Lib.hid hp
    clear hp
    go_enter Try.func8, Try.ntmps8
    go_wp2_with fail
    refine (next_some _ _ (by omega) m HN.out).mono ?_
    rintro e w1 ⟨q, rfl, hq, hb1⟩
    go_wp2_with fail
    refine (order_any _ _ _ _ HC.out).mono ?_
    rintro e w2 ⟨rfl, hb2⟩
    go_wp2_with fail
    refine (order_any _ _ _ d (by rw [hq.out]; exact HD.out)).mono ?_
    rintro e w8 ⟨rfl, hb8⟩
    go_wp2_with fail
    refine (flip_c _ _ (by omega)).mono ?_
    rintro e w3 ⟨u, rfl, hu, hb3⟩
    have zu : u.size = s.size := by rw [← size_of, ← size_of, hu.out]; simp
    have zl : u.size ≤ s.size := by omega
    have fu : ((u.size : Int) == (s.size : Int)) = true := by rw [zu]; simp
    clear zu
    go_wp2_with fail
    refine (begins_any _ _ _ _ HP.out).mono ?_
    rintro e w4 ⟨rfl, hb4⟩
    go_wp2_with fail
    refine (order_any _ _ _ (-1) (by rw [hq.out]; exact HS.out)).mono ?_
    rintro e w7 ⟨rfl, hb7⟩
    go_wp2_with fail
    refine (flip_c _ _ (by omega)).mono ?_
    rintro e w5 ⟨v, rfl, hv, hb5⟩
    have fv : (v.toList == s.toList) = true := by rw [hv.out, hu.out, flip_flip]; exact beq_self_eq_true _
    go_wp2_with fail
    refine (awake_any _).mono ?_
    rintro e w6 ⟨rfl, hb6⟩
    go_wp2
    go_ret
    exact ⟨rfl, two (two (two (two (two (two (two hb1 hb2) hb8) hb3) hb4) hb7) hb5) hb6⟩

theorem ordNext_walk (s t : ByteArray) (_w0 : s.size ≤ maxLen) (_w1 : t.size ≤ maxLen) (w : World) :
    Calls Try.prog 8 #[.string s, .string t] w fun e w' => e = .returned (.bool true) ∧ Below w.heap.size w w' := by
  by_cases h : s.size ≤ 1073741823 ∧ t.size ≤ 1073741823
  · cases e : nx s.toList with
    | none => exact nextlaw_none s t w h.1 h.2 e
    | some m =>
      by_cases h3 : 0 ≤ cmp t.toList s.toList
      · exact nextlaw_some s t w h.1 h.2 m e _ rfl h3
      · exact nextlaw_low s t w h.1 h.2 m e _ rfl (by omega)
  · exact next_big s t w h
end Go.Proofs.Ytocmnkcnghapfaa
