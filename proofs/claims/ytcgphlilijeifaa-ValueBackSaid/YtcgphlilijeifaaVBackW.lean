/-
  ValueBack's walk.
-/
import Derived.Test.YtcgphlilijeifaaVAwake
namespace Go.Proofs.Ytcgphlilijeifaa.V
open Go.RowKit

theorem sameL_self {l : List Pt} (h : ∀ q ∈ l, sameP q q = true) : sameL l l = true := by
  induction l with
  | nil => exact sameL_nil
  | cons p r ih => rw [sameL_cons, h p (List.mem_cons_self ..), ih (fun q hq => h q (List.mem_cons_of_mem _ hq))]; rfl
theorem sameP_self (p : Pt) : sameP p p = true := by
  induction p using Pt.ind with
  | h p ih => rw [sameP_eq, sameL_self ih]; simp [oneB]

set_option maxRecDepth 100000 in
set_option maxHeartbeats 4000000 in
theorem back_any (p : Pt) (v : Value) (w : World) (hf : FitA p) (hp : PI w 0 w.heap.size p.items v) :
    Calls Try.prog 6 #[.agg #[.int .u8 p.kind, .bool p.yes, .bool p.neg, .string p.mag, .string p.raw, v]] w fun e w' => e = .returned (.bool true) ∧ Below w.heap.size w w' := by
  have f0 := Lib.hid hf.fit
  have hp0 := Lib.hid hp
  obtain ⟨a, cap, rfl, _, _⟩ := hp.open
  have hbx := Lib.hid (Box.new w p (.slice a p.items.length cap) 27)
  clear hp
  go_enter Try.func6, Try.ntmps6
  go_wp2_with fail
  refine (awake_any _).mono ?_
  rintro e w1 ⟨rfl, hb1⟩
  have hB1 : Below w.heap.size w w1 := ((Below.refl _ _).alloc (Nat.le_refl _) _).trans (hb1.mono (by simp))
  have hx1 := Lib.hid (hbx.out.later hb1 (by simp))
  clear hbx
  obtain ⟨_, ⟨c0, c1, c2, c3, c4, c5⟩⟩ := hx1.out
  go_wp2_with fail
  refine (weight_any p _ _ 0 (by decide) (by decide) f0.out (hp0.out.later hB1)).mono ?_
  rintro e w2 ⟨r, rfl, hr0, hr1, hb2⟩
  have hB2 := two hB1 hb2
  have hx2 := Lib.hid (hx1.out.later hb2 hx1.out.lt)
  clear c0 c1 c2 c3 c4 c5 hb1 hb2
  obtain ⟨_, ⟨c0, c1, c2, c3, c4, c5⟩⟩ := hx2.out
  by_cases hbig : 134217728 < r
  · have q1 : decide (134217728 < r) = true := by simpa using hbig
    go_wp2_with fail
    go_ret
    exact ⟨rfl, hB2⟩
  have q1 : decide (134217728 < r) = false := by simpa using hbig
  clear hbig hr0 hr1
  go_wp2_with fail
  refine (make_any p _ _ f0.out (hp0.out.later hB2)).mono ?_
  rintro e w3 ⟨u, rfl, hnil, hv, hb3⟩
  have hB3 := two hB2 hb3
  have hx3 := Lib.hid (hx2.out.later hb3 hx2.out.lt)
  clear c0 c1 c2 c3 c4 c5 hb3
  obtain ⟨_, ⟨c0, c1, c2, c3, c4, c5⟩⟩ := hx3.out
  rcases makeE_three p with hm | hm | hm
  rotate_left
  · obtain rfl := hnil (by rw [hm]; decide)
    rw [hm]
    clear hv hnil
    go_wp2_with fail
    go_ret
    exact ⟨rfl, hB3⟩
  · obtain rfl := hnil (by rw [hm]; decide)
    rw [hm]
    clear hv hnil
    go_wp2_with fail
    go_ret
    exact ⟨rfl, hB3⟩
  have hv := Lib.hid ((hv hm).wide (Nat.zero_le _) (Nat.le_refl _))
  have HM := Lib.hid (makeE_ok hm).2
  have HD := makeE_depth hm
  rw [hm]
  clear hnil
  go_wp2_with fail
  refine (tell_any p u _ HM.out hf hv.out).mono ?_
  rintro e w4 ⟨a2, cap2, rfl, hown, hb4⟩
  have hB4 := two hB3 hb4
  have hx4 := Lib.hid (hx3.out.later hb4 hx3.out.lt)
  have hv4 := Lib.hid (hv.out.later hb4)
  have ho4 := Lib.hid (hown.reads.wide (Nat.zero_le _) (Nat.le_refl _))
  clear c0 c1 c2 c3 c4 c5 hb4 hown
  obtain ⟨_, ⟨c0, c1, c2, c3, c4, c5⟩⟩ := hx4.out
  have hy4 := Lib.hid (Box.new w4 p (.slice a2 p.items.length cap2) 27)
  have hA4 : Below w4.heap.size w4 (w4.alloc (.cells #[.int .u8 p.kind, .bool p.yes, .bool p.neg, .string p.mag, .string p.raw, .slice a2 p.items.length cap2] 27)) := (Below.refl _ _).alloc (Nat.le_refl _) _
  go_wp2_with fail
  refine (make_any p _ _ f0.out (ho4.out.later hA4)).mono ?_
  rintro e w5 ⟨u2, rfl, _, hv2, hb5⟩
  have hA5 := hA4.trans (hb5.mono (by simp))
  have hB5 := two hB4 hA5
  have hx5 := Lib.hid (hx4.out.later hA5 hx4.out.lt)
  have hy5 := Lib.hid (hy4.out.later hb5 (by simp))
  have hv5 := Lib.hid (hv4.out.later hA5)
  have ho5 := Lib.hid (ho4.out.later hA5)
  have hz5 := Lib.hid ((hv2 hm).wide (Nat.zero_le _) (Nat.le_refl _))
  rw [hm]
  clear c0 c1 c2 c3 c4 c5 hv2 hA4 hA5 hb5
  obtain ⟨_, ⟨c0, c1, c2, c3, c4, c5⟩⟩ := hx5.out
  obtain ⟨_, ⟨d0, d1, d2, d3, d4, d5⟩⟩ := hy5.out
  clear hm
  go_wp2_with fail
  refine (same_any p p _ _ _ f0.out f0.out ho5.out (hp0.out.later hB5)).mono ?_
  rintro e w6 ⟨rfl, hb6⟩
  have hB6 := two hB5 hb6
  have hv6 := Lib.hid (hv5.out.later hb6)
  have hz6 := Lib.hid (hz5.out.later hb6)
  rw [sameP_self]
  clear c0 c1 c2 c3 c4 c5 d0 d1 d2 d3 d4 d5 hb6 hx1 hx2 hx3 hx4 hx5 hy4 hy5
  go_wp2_with fail
  refine (Same_any p p u u2 _ HM.out HM.out hv6.out hz6.out).mono ?_
  rintro e w7 ⟨rfl, hb7⟩
  have hB7 := two hB6 hb7
  have hv7 := Lib.hid (hv6.out.later hb7)
  rw [sameP_self]
  clear hb7 hv6 hz6 hB6 hB5 hB4 hB3 hB2 hB1 ho4 ho5 hv4 hv5 hz5 hv hp0
  go_wp2_with fail
  have hk7 : p.kind ≤ 7 := may_kind7 HM.out
  by_cases h7 : p.kind = 7
  · refine (AsList_any p u _ hv7.out hk7 true (by simp [h7])).mono ?_
    rintro e w8 ⟨rfl, rfl⟩
    obtain ⟨b, capb, F, hu, hC, hF⟩ := hv7.out.tupleOf h7
    subst hu
    rw [show ∀ v, asked true v = v from fun _ => rfl]
    have m1 : ∀ w : World, (method 200 76 (.agg #[.slice b p.items.length capb]) "Len").run Try.prog w = .ok (62, .agg #[.slice b p.items.length capb]) w := fun _ => by kernel_rfl
    have m2 : ∀ w : World, (method 200 76 (.agg #[.slice b p.items.length capb]) "At").run Try.prog w = .ok (60, .agg #[.slice b p.items.length capb]) w := fun _ => by kernel_rfl
    go_wp2_with fail
    have HC := Lib.hid hC
    have HDp := Lib.hid hF
    have hlen := may_len HM.out h7
    have hD : depthP p = depthL p.items + 1 := by rw [depthP_eq, if_pos h7]
    have hdl : depthL p.items ≤ 15 := by omega
    clear hC hF h7 hk7
    go_loopw [12, 13] (fun m i wr => ∃ k : Nat, k ≤ p.items.length ∧ i = .int .i64 k ∧ m = .int .i64 (depthL (p.items.take k)) ∧ Below w7.heap.size w7 wr) (fun _ i _ => p.items.length - (intOf i).toNat)
    case atStart => exact ⟨0, Nat.zero_le _, rfl, by rw [List.take_zero, depthL_nil]; rfl, Below.refl _ _⟩
    case round =>
      obtain ⟨k, hkl, rfl, rfl, hB⟩ := hrel
      have hdk := depthL_take_le p.items k
      by_cases hlt : k < p.items.length
      · have q3 : decide (k < p.items.length) = true := by simpa using hlt
        obtain ⟨g0, rfl, _, hg0, hcell⟩ := HC.out k hlt
        have HE := Lib.hid (depthL_take hlt)
        have hmem : p.items[k] ∈ p.items := List.getElem_mem _
        have hdq := depthL_mem hmem
        have hvi := Lib.hid (HDp.out k hlt)
        obtain ⟨q, hq⟩ : ∃ q, p.items[k] = q := ⟨_, rfl⟩
        rw [hq] at HE hmem hdq hvi
        have hmq := Lib.hid (mayB_item HM.out hmem)
        have hcell2 := Lib.hid (keep hB hg0 hcell)
        obtain ⟨M, hM⟩ : ∃ M, depthL (p.items.take k) = M := ⟨_, rfl⟩
        rw [hM] at hdk HE ⊢
        clear hM hq hcell
        go_wp2_with fail
        refine (len_tuple _ _ _ _).mono ?_
        rintro e w1 ⟨rfl, hb1⟩
        have hB1 := hB.trans (hb1.mono hB.size)
        go_wp2_with fail
        refine (at_in g0 _ capb k (F k) _ (by omega) hlt (kc hb1 hcell2.out)).mono ?_
        rintro e w2 ⟨rfl, hb2⟩
        have hB2 := hB1.trans (hb2.mono hB1.size)
        go_wp2_with fail
        refine (Depth_any q (F k) _ hmq.out (by omega) (hvi.out.later hB2)).mono ?_
        rintro e w3 ⟨rfl, hb3⟩
        have hB3 := hB2.trans (hb3.mono hB2.size)
        clear hB hB1 hB2 hb1 hb2 hb3
        by_cases hc : M < depthP q
        · have q5 : decide (M < depthP q) = true := by simpa using hc
          go_wp2_with fail
          refine ⟨⟨k + 1, by omega, rfl, ?_, hB3⟩, by simp [intOf]; omega⟩
          rw [HE.out]
          exact congrArg (Value.int .i64) (by omega)
        · have q5 : decide (M < depthP q) = false := by simpa using hc
          go_wp2_with fail
          refine ⟨⟨k + 1, by omega, rfl, ?_, hB3⟩, by simp [intOf]; omega⟩
          rw [HE.out]
          exact congrArg (Value.int .i64) (by omega)
      · have q3 : decide (k < p.items.length) = false := by simpa using hlt
        have HT := Lib.hid (show p.items.take k = p.items from List.take_of_length_le (by omega))
        rw [HT.out]
        go_wp2_with fail
        refine (len_tuple _ _ _ _).mono ?_
        rintro e w1 ⟨rfl, hb1⟩
        have hB1 := hB.trans (hb1.mono hB.size)
        go_wp2_with fail
        refine (Depth_any p _ _ HM.out (by omega) (hv7.out.later hB1)).mono ?_
        rintro e w2 ⟨rfl, hb2⟩
        rw [hD]
        have q5 : decide ((depthL p.items : Int) < 16) = true := by simp; omega
        go_wp2_with fail
        go_ret
        exact ⟨rfl, two hB7 (two hB1 hb2)⟩
  · refine (AsList_any p u _ hv7.out hk7 false (by simp [h7])).mono ?_
    rintro e w8 ⟨rfl, rfl⟩
    have h0 : depthP p = 0 := by rw [depthP_eq, if_neg h7]
    clear h7
    rw [show ∀ v, asked false v = .nilIface from fun _ => rfl]
    go_wp2_with fail
    refine (Depth_any p u _ HM.out (by omega) hv7.out).mono ?_
    rintro e w9 ⟨rfl, hb9⟩
    rw [h0]
    go_wp2_with fail
    go_ret
    exact ⟨rfl, two hB7 hb9⟩
end Go.Proofs.Ytcgphlilijeifaa.V
