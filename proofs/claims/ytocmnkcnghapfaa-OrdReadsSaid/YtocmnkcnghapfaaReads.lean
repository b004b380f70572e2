/-
  The walk of the law OrdReads: it returns true, for every text and place.
-/
import Derived.Test.YtocmnkcnghapfaaLawOrd
import Derived.Deep.RegionHeld3
namespace Go.Proofs.Ytocmnkcnghapfaa
open Go.RowKit

theorem unescape_o (s : ByteArray) (i : Int) (w : World) (hs : s.size ≤ 1099511627776) (hi : i < 0 ∨ (s.size : Int) < i) :
    Calls Try.prog 11 #[.string s, .int .i64 i] w fun e w' => ∃ p : ByteArray, e = .returned (.tuple #[.string p, .int .i64 0, .int .i64 1]) ∧ Hid (p.toList = []) ∧ Below w.heap.size w w' :=
  (unescape_out s i w hs hi).mono fun _ _ ⟨he, hb⟩ => ⟨_, he, by show ByteArray.toList _ = _; rw [Lib.toList_data], hb⟩

set_option maxHeartbeats 800000 in
theorem ordReads_walk (s : ByteArray) (i : Int) (w0 : s.size ≤ maxLen) (_w1 : (Lit.int .i64 i).wf = true) (w : World) :
    Calls Try.prog 7 #[.string s, .int .i64 i] w fun e w' => e = .returned (.bool true) ∧ Below w.heap.size w w' := by
  unfold maxLen at w0
  by_cases hs : 2147483647 < s.size
  · go_enter Try.func7, Try.ntmps7
    go_wp2
    go_ret
    exact ⟨rfl, Below.refl _ _⟩
  · by_cases hi : i < 0 ∨ (s.size : Int) < i
    · by_cases h0 : i < 0
      · go_enter Try.func7, Try.ntmps7
        go_wp2_with fail
        refine (unescape_o _ _ _ (by omega) hi).mono ?_
        rintro e w1 ⟨p, rfl, hp, hb1⟩
        have f1 : p.toList = [] := hp.out
        have f2 : p.toList.isEmpty = true := by rw [f1]; rfl
        clear hi f1
        go_wp2_with fail
        refine (awake_any _).mono ?_
        rintro e w2 ⟨rfl, hb2⟩
        go_wp2
        go_ret
        exact ⟨rfl, two hb1 hb2⟩
      · have h1 : (s.size : Int) < i := by omega
        go_enter Try.func7, Try.ntmps7
        go_wp2_with fail
        refine (unescape_o _ _ _ (by omega) hi).mono ?_
        rintro e w1 ⟨p, rfl, hp, hb1⟩
        have f1 : p.toList = [] := hp.out
        have f2 : p.toList.isEmpty = true := by rw [f1]; rfl
        clear hi f1
        go_wp2_with fail
        refine (awake_any _).mono ?_
        rintro e w2 ⟨rfl, hb2⟩
        go_wp2
        go_ret
        exact ⟨rfl, two hb1 hb2⟩
    · have h0 : 0 ≤ i := by omega
      have h1 : i ≤ s.size := by omega
      obtain ⟨r, hr⟩ : ∃ r, un (s.toList.drop i.toNat) = r := ⟨_, rfl⟩
      have hle := un_le (s.toList.drop i.toNat)
      have htl := un_text_le (s.toList.drop i.toNat)
      rw [hr] at hle htl
      have hsz : s.toList.length = s.size := by rw [Lib.toList_data, Lib.size_eq]
      have hm : r.2.1 ≤ s.size - i.toNat := by rw [List.length_drop, hsz] at hle; exact hle
      rcases un_code (s.toList.drop i.toNat) with hc | hc
      · have hesc := esc_un _ hc
        rw [hr] at hc hesc
        obtain ⟨t, m, c⟩ := r
        simp only at hc hm hesc htl
        subst hc
        have HR := Lib.hid hr
        have HE := Lib.hid hesc
        have HI := Lib.hid hi
        clear hr hesc hle hsz hi
        go_enter Try.func7, Try.ntmps7
        go_wp2_with fail
        refine (unescape_c _ _ t m 0 _ (by omega) h0 h1 HR.out).mono ?_
        rintro e w1 ⟨p, n, rfl, hp, hn, hb1⟩
        have n1 : i ≤ n := by rw [hn.out]; omega
        have n2 : n ≤ s.size := by rw [hn.out]; omega
        have hps : p.size ≤ 1099511627776 := by rw [Lib.size_eq, ← Lib.toList_data, hp.out]; omega
        clear htl hm
        have d1 : decide (i ≤ n) = true := by simpa using n1
        have d2 : decide (n ≤ (s.size : Int)) = true := by simpa using n2
        have hx := Lib.hid (show ((s.extract i.toNat n.toNat).toList) = esc t ++ [0, 1] by
          rw [Lib.extract_toList, ← Lib.toList_data, hn.out, ← HE.out, show (i + (m : Int)).toNat - i.toNat = m from by omega])
        go_wp2_with fail
        go_region_held3 (fun _ => True) (trivial) (first
          | (go_at_call 10; refine (escape_c p _ hps).mono ?_; rintro e w2 ⟨q, rfl, hq, hb2⟩; have f3 : (q.toList == (s.extract i.toNat n.toNat).toList) = true := by rw [hq.out, hx.out, hp.out]; exact beq_self_eq_true _)
          | (go_at_call 9; refine (awake_any _).mono ?_; rintro e w3 ⟨rfl, hb3⟩))
        go_wp2
        go_ret
        exact ⟨rfl, two (two hb1.drew hb2) hb3⟩
      · have hbad := un_bad (s.toList.drop i.toNat) (by rw [hc]; decide)
        rw [hr] at hc hbad
        obtain ⟨t, m, c⟩ := r
        simp only at hc hm hbad
        obtain ⟨rfl, _⟩ := hbad
        subst hc
        have HR := Lib.hid hr
        have HI := Lib.hid hi
        clear hr hle htl hsz hi
        go_enter Try.func7, Try.ntmps7
        go_wp2_with fail
        refine (unescape_c _ _ [] m 10 _ (by omega) h0 h1 HR.out).mono ?_
        rintro e w1 ⟨p, n, rfl, hp, hn, hb1⟩
        have n1 : i ≤ n := by rw [hn.out]; omega
        have n2 : n ≤ s.size := by rw [hn.out]; omega
        have f1 : p.toList = [] := hp.out
        have f2 : p.toList.isEmpty = true := by rw [f1]; rfl
        clear hm f1
        go_wp2_with fail
        refine (awake_any _).mono ?_
        rintro e w2 ⟨rfl, hb2⟩
        go_wp2
        go_ret
        exact ⟨rfl, two hb1 hb2⟩
end Go.Proofs.Ytocmnkcnghapfaa
