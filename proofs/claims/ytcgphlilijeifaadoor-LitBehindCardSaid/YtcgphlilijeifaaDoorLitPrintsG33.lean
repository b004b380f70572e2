import Derived.Test.YtcgphlilijeifaaDoorLitPrintsG32
import Derived.Test.YtcgphlilijeifaaDoorLitPrintsG11
section
/-
  The reader of a text: what stands between quotes (printed by wip/tools/mk-litr.py).
-/
namespace Go.Proofs.YtcgphlilijeifaaDoor.L
open Go.RowKit
open V (Pt)

theorem next_at (b : Nat) (s : ByteArray) (a : Nat) (w : World) (hr : Lr w b s a) (ha : a < s.size) (hs : s.size ≤ 65536) (c : UInt8) (hc : s[a] = c) :
    Calls Tryd.prog 107 #[.pointer (some ⟨b, 0, none⟩)] w fun e w' => e = .returned (.int .u8 (c.toNat : Int)) ∧ Below w.heap.size w w' := by
  have := next_any b s a w hr (by omega) hs
  rw [nx_lt ha, hc] at this
  exact this
theorem next_end (b : Nat) (s : ByteArray) (a : Nat) (w : World) (hr : Lr w b s a) (ha : a = s.size) (hs : s.size ≤ 65536) :
    Calls Tryd.prog 107 #[.pointer (some ⟨b, 0, none⟩)] w fun e w' => e = .returned (.int .u8 0) ∧ Below w.heap.size w w' := by
  have := next_any b s a w hr (by omega) hs
  rw [nx_ge (by omega)] at this
  exact this
/-- What quoted comes to. -/
def QPost (b : Nat) (s : ByteArray) (a : Nat) (q : UInt8) (w : World) (e : Ending) (w' : World) : Prop :=
  Gv b w w' ∧ ((quotedF q (s.toList.drop (a + 1)) = none ∧ e = wrongAt a) ∨
    ∃ (x r : List UInt8) (p : ByteArray), quotedF q (s.toList.drop (a + 1)) = some (x, r) ∧ e = .returned (.string p) ∧ Hid (p.toList = x) ∧ ∃ n : Nat, n ≤ s.size ∧ r = s.toList.drop n ∧ Lr w' b s n)
theorem qpost_no {b : Nat} {s : ByteArray} {a : Nat} {q : UInt8} {w w' : World} {M T : List UInt8} (hg : Gv b w w') (h : QS q (s.toList.drop (a + 1)) M T) (hn : quotedF q T = none) : QPost b s a q w (wrongAt a) w' := ⟨hg, .inl ⟨h.bad hn, rfl⟩⟩
theorem Lr.setTo {w : World} {b : Nat} {s : ByteArray} {a : Nat} (h : Lr w b s a) {a' : Nat} {x : Int} (hx : x = (a' : Int)) : Lr (w.setCell ⟨b, 1, none⟩ (.int .i64 x)) b s a' := h.step a' x hx
theorem Gv.grown {b : Nat} {W w w' : World} {base : Nat} {v : Value} {l : List UInt8} (h : Gv b W w) (hO : OwnB w base v l) (hb : W.heap.size ≤ base) (hg : w.grownBy w' v.ownBlock) : Gv b W w' :=
  ⟨hg.os.trans h.os, hg.tape.trans h.tape, hg.output.trans h.output, Nat.le_trans h.size hg.size, fun k hk hb2 => (hg.block k (Nat.lt_of_lt_of_le hk h.size) (fun e => by have := (World.ownsRow.lt hO k e.symm).1; omega)).trans (h.block k hk hb2)⟩
theorem Lr.grown {w w' : World} {b : Nat} {s : ByteArray} {a : Nat} {base : Nat} {v : Value} {l : List UInt8} (h : Lr w b s a) (hO : OwnB w base v l) (hb : b < base) (hg : w.grownBy w' v.ownBlock) : Lr w' b s a :=
  (hg.block b (Blk.lt h) (fun e => by have := (World.ownsRow.lt hO b e.symm).1; omega)).trans h
/-- A reader's cells. -/
theorem Lr.c0 {w : World} {b : Nat} {s : ByteArray} {a : Nat} (h : Lr w b s a) : w.cell? ⟨b, 0, none⟩ = some (.string s) := Blk.cell h 0
theorem Lr.c1 {w : World} {b : Nat} {s : ByteArray} {a : Nat} (h : Lr w b s a) : w.cell? ⟨b, 1, none⟩ = some (.int .i64 (a : Int)) := Blk.cell h 1
theorem Lr.z1 {w : World} {b : Nat} {s : ByteArray} {a : Nat} (h : Lr w b s a) : w.frozen? ⟨b, 1, none⟩ = false := Blk.frozen h 1
theorem u8_bne {c d : UInt8} (h : c ≠ d) : ((c.toNat : Int) != (d.toNat : Int)) = true := by simp only [bne_iff_ne, ne_eq]; intro e; exact h (UInt8.toNat_inj.1 (by omega))
theorem u8_beqf {c d : UInt8} (h : c ≠ d) : ((c.toNat : Int) == (d.toNat : Int)) = false := by simp only [beq_eq_false_iff_ne, ne_eq]; intro e; exact h (UInt8.toNat_inj.1 (by omega))
theorem drop2 {s : ByteArray} {p : Nat} {c : UInt8} (h : p < s.size) (hc : s[p] = c) : s.toList.drop p = c :: s.toList.drop (p + 1) := by rw [drop_cons s h, hc]

set_option maxRecDepth 100000 in
set_option maxHeartbeats 4000000 in
theorem quoted_any (b : Nat) (s : ByteArray) (q : UInt8) (hq : q = 39 ∨ q = 34) (a : Nat) (w : World) (hr : Lr w b s a) (ha : a < s.size) (hs : s.size ≤ 65536) :
    Calls Tryd.prog 110 #[.pointer (some ⟨b, 0, none⟩), .int .u8 (q.toNat : Int)] w (QPost b s a q w) := by
  have h92 : (92 : UInt8) ≠ q := by rcases hq with rfl | rfl <;> decide
  have h120 : (120 : UInt8) ≠ q := by rcases hq with rfl | rfl <;> decide
  have c1 : w.cell? ⟨b, 1, none⟩ = some (.int .i64 (a : Int)) := hr.cell 1
  have z1 : w.frozen? ⟨b, 1, none⟩ = false := hr.frozen 1
  have hbl : b < w.heap.size := Blk.lt hr
  go_enter Tryd.func110, Tryd.ntmps110
  go_wp2_with fail
  have hr2 := Lr.setTo hr (a' := a + 1) (x := (a : Int) + 1) (by omega)
  have hg2 := (Gv.refl b w).set_ 1 (.int .i64 ((a : Int) + 1))
  clear c1 z1
  go_loopw [6, 7, 8, 9] (fun v _ _ _ wr => ∃ (p : Nat) (M : List UInt8), p ≤ s.size ∧ OwnB wr w.heap.size v M ∧ Lr wr b s p ∧ Gv b w wr ∧ M.length ≤ p ∧ RowKit.Hid (QS q (s.toList.drop (a + 1)) M (s.toList.drop p))) (fun _ _ _ _ wr => s.size - posOf wr b)
  case atStart => exact ⟨a + 1, [], by omega, OwnB.nil _ _, hr2, hg2, Nat.zero_le _, Lib.hid (QS.start _ _)⟩
  case round =>
    clear hr2 hg2 hr
    obtain ⟨p, M, hp, hO, hr, hg, hM, HQ⟩ := hrel
    have hbs := hg.size
    have PR := Lib.hid (posOf_lr hr)
    by_cases hlt : p < s.size
    · obtain ⟨c, hc⟩ : ∃ c, s[p] = c := ⟨_, rfl⟩
      have HC := Lib.hid hc
      have HD := Lib.hid (drop2 hlt hc)
      clear hc
      by_cases hcq : c = q
      · have e1 : ((c.toNat : Int) != (q.toNat : Int)) = false := by subst hcq; simp
        have HZ := Lib.hid (show quotedF q (s.toList.drop (a + 1)) = some (M, s.toList.drop (p + 1)) by have h := HQ.out; rw [HD.out, hcq] at h; exact h.close)
        clear hcq
        go_wp2_with fail
        refine (next_at b s p wr hr hlt hs c HC.out).mono ?_
        rintro e w2 ⟨rfl, hb2⟩
        replace hO := hO.below hb2
        replace hr := hr.later hb2
        replace hg := hg.trans (Gv.of_below hb2)
        clear hb2
        have c1 := hr.c1
        have z1 := hr.z1
        have hO3 := OwnB.gv hO hbl ((Gv.refl b w2).set_ 1 (.int .i64 ((p : Int) + 1)))
        have hcv := hO3.conv (P := Tryd.prog) 111 9 Tryd.underlying111 (by kernel_rfl) (by kernel_rfl)
        have HR := Lib.hid (Lr.setTo hr (a' := p + 1) (x := (p : Int) + 1) (by omega))
        have HG := Lib.hid (hg.set_ 1 (.int .i64 ((p : Int) + 1)))
        clear hO hO3 hr hg
        go_wp2_with fail
        go_ret
        exact ⟨HG.out, .inr ⟨_, _, _, HZ.out, rfl, Lib.hid (by rw [Lib.toList_data]), p + 1, by omega, rfl, HR.out⟩⟩
      have e1 : ((c.toNat : Int) != (q.toNat : Int)) = true := u8_bne hcq
      have NQ := Lib.hid hcq
      cases hpl : plainB c with
      | false =>
        have HN := Lib.hid (show quotedF q (s.toList.drop p) = none by rw [HD.out]; exact q_odd hcq hpl _)
        clear hcq
        go_wp2_with fail
        refine (next_at b s p wr hr hlt hs c HC.out).mono ?_
        rintro e w2 ⟨rfl, hb2⟩
        replace hO := hO.below hb2
        replace hr := hr.later hb2
        replace hg := hg.trans (Gv.of_below hb2)
        clear hb2
        go_wp2_with fail
        refine (next_at b s p w2 hr hlt hs c HC.out).mono ?_
        rintro e w4 ⟨rfl, hb2⟩
        replace hO := hO.below hb2
        replace hr := hr.later hb2
        replace hg := hg.trans (Gv.of_below hb2)
        clear hb2
        go_wp2_with fail
        refine (plainc_any c _).mono ?_
        rintro e w5 ⟨rfl, hb2⟩
        rw [hpl]
        replace hO := hO.below hb2
        replace hr := hr.later hb2
        replace hg := hg.trans (Gv.of_below hb2)
        clear hb2
        go_wp2_with fail
        exact ⟨rfl, qpost_no hg HQ.out HN.out⟩
      | true =>
        have HP := Lib.hid hpl
        clear hcq
        by_cases h9 : c = 92
        · subst h9
          have e9 : (((92 : UInt8).toNat : Int) != 92) = false := by decide
          obtain ⟨n1, hn1⟩ : ∃ n1, p + 1 = n1 := ⟨_, rfl⟩
          rw [hn1] at HD
          by_cases hl1 : n1 < s.size
          · obtain ⟨d, hd⟩ : ∃ d, s[n1] = d := ⟨_, rfl⟩
            have HDD := Lib.hid hd
            have HD2 := Lib.hid (drop2 hl1 hd)
            clear hd
            by_cases hdq : d = q ∨ d = 92
            · have HS := Lib.hid (show QS q (s.toList.drop (a + 1)) (M ++ [d]) (s.toList.drop (n1 + 1)) by have h := HQ.out; rw [HD.out, HD2.out] at h; exact h.step (quotedF_esc2 h92 hdq _))
              go_wp2_with fail
              refine (next_at b s p wr hr hlt hs 92 HC.out).mono ?_
              rintro e w2 ⟨rfl, hb2⟩
              replace hO := hO.below hb2
              replace hr := hr.later hb2
              replace hg := hg.trans (Gv.of_below hb2)
              clear hb2
              go_wp2_with fail
              refine (next_at b s p w2 hr hlt hs 92 HC.out).mono ?_
              rintro e w4 ⟨rfl, hb2⟩
              replace hO := hO.below hb2
              replace hr := hr.later hb2
              replace hg := hg.trans (Gv.of_below hb2)
              clear hb2
              go_wp2_with fail
              refine (plainc_any 92 _).mono ?_
              rintro e w5 ⟨rfl, hb2⟩
              rw [p92]
              replace hO := hO.below hb2
              replace hr := hr.later hb2
              replace hg := hg.trans (Gv.of_below hb2)
              clear hb2
              have c1 := hr.c1
              have z1 := hr.z1
              have hr6 := Lr.setTo hr (a' := n1) (x := (p : Int) + 1) (by omega)
              have hg6 := hg.set_ 1 (.int .i64 ((p : Int) + 1))
              have hO6 := OwnB.gv hO hbl ((Gv.refl b w5).set_ 1 (.int .i64 ((p : Int) + 1)))
              go_wp2_with fail
              clear c1 z1 hr hg hO
              obtain ⟨w6, hw6⟩ : ∃ w6, w6 = w5.setCell ⟨b, 1, none⟩ (.int .i64 ((p : Int) + 1)) := ⟨_, rfl⟩
              rw [← hw6] at hr6 hg6 hO6 ⊢
              clear hw6
              have hr := hr6
              have hg := hg6
              have hO := hO6
              clear hr6 hg6 hO6
              refine (next_at b s n1 w6 hr hl1 hs d HDD.out).mono ?_
              rintro e w7 ⟨rfl, hb2⟩
              replace hO := hO.below hb2
              replace hr := hr.later hb2
              replace hg := hg.trans (Gv.of_below hb2)
              clear hb2
              by_cases hd1 : d = q
              · have f1 : ((d.toNat : Int) == (q.toNat : Int)) = true := by rw [hd1]; simp
                have f2 : ((d.toNat : Int) == 92) = false := by rw [hd1]; exact u8_neb (d := 92) rfl (fun e => h92 e.symm)
                clear hd1 hdq
                go_wp2_with (at_builtin; refine wpList_append_bytes3 rfl (.tmp 63) (.tmp 65) 111 rfl Tryd.underlying111 Tryd.info5 rfl (hO.alloc _) _ [d] 1 _ rfl rfl (bv_cells_one _ d _) (by omega) (by have := hg.size; simp; omega) ?_; intro v3 w3 hO3 hg3; have hr3 := Lr.grown (hr.alloc _) (hO.alloc _) hbl hg3; have hgw3 := Gv.grown (hg.alloc _) (hO.alloc _) (Nat.le_refl _) hg3; have c3 := hr3.c1; have z3 := hr3.z1)
                have hr4 := Lr.setTo hr3 (a' := n1 + 1) (x := ((n1 : Nat) : Int) + 1) (by omega)
                have hg4 := hgw3.set_ 1 (.int .i64 (((n1 : Nat) : Int) + 1))
                have hO4 := OwnB.gv hO3 hbl ((Gv.refl b w3).set_ 1 (.int .i64 (((n1 : Nat) : Int) + 1)))
                refine ⟨⟨n1 + 1, _, by omega, hO4, hr4, hg4, by simp; omega, Lib.hid (HS.out)⟩, ?_⟩
                rw [posOf_lr hr4, PR.out]
                omega
              · have f1 : ((d.toNat : Int) == (q.toNat : Int)) = false := u8_beqf hd1
                have f2 : ((d.toNat : Int) == 92) = true := u8_eqb (d := 92) rfl (hdq.resolve_left hd1)
                clear hd1 hdq
                go_wp2_with (at_builtin; refine wpList_append_bytes3 rfl (.tmp 63) (.tmp 65) 111 rfl Tryd.underlying111 Tryd.info5 rfl (hO.alloc _) _ [d] 1 _ rfl rfl (bv_cells_one _ d _) (by omega) (by have := hg.size; simp; omega) ?_; intro v3 w3 hO3 hg3; have hr3 := Lr.grown (hr.alloc _) (hO.alloc _) hbl hg3; have hgw3 := Gv.grown (hg.alloc _) (hO.alloc _) (Nat.le_refl _) hg3; have c3 := hr3.c1; have z3 := hr3.z1)
                have hr4 := Lr.setTo hr3 (a' := n1 + 1) (x := ((n1 : Nat) : Int) + 1) (by omega)
                have hg4 := hgw3.set_ 1 (.int .i64 (((n1 : Nat) : Int) + 1))
                have hO4 := OwnB.gv hO3 hbl ((Gv.refl b w3).set_ 1 (.int .i64 (((n1 : Nat) : Int) + 1)))
                refine ⟨⟨n1 + 1, _, by omega, hO4, hr4, hg4, by simp; omega, Lib.hid (HS.out)⟩, ?_⟩
                rw [posOf_lr hr4, PR.out]
                omega
            have hd1 : d ≠ q := fun e => hdq (.inl e)
            have hd2 : d ≠ 92 := fun e => hdq (.inr e)
            have f1 : ((d.toNat : Int) == (q.toNat : Int)) = false := u8_beqf hd1
            have f2 : ((d.toNat : Int) == 92) = false := u8_neb (d := 92) rfl hd2
            clear hdq
            by_cases hx : d = 120
            · subst hx
              have f3 : (((120 : UInt8).toNat : Int) == 120) = true := by decide
              clear hd1 hd2
              obtain ⟨n2, hn2⟩ : ∃ n2, n1 + 1 = n2 := ⟨_, rfl⟩
              obtain ⟨n3, hn3⟩ : ∃ n3, n1 + 2 = n3 := ⟨_, rfl⟩
              by_cases hl3 : n3 < s.size
              · have hl2 : n2 < s.size := by omega
                obtain ⟨g, hgc⟩ : ∃ g, s[n2] = g := ⟨_, rfl⟩
                obtain ⟨h, hhc⟩ : ∃ h, s[n3] = h := ⟨_, rfl⟩
                have HD3 := Lib.hid (show s.toList.drop p = 92 :: 120 :: g :: h :: s.toList.drop (n3 + 1) by
                  have e2 := drop2 hl2 hgc
                  have e3 := drop2 hl3 hhc
                  rw [show n2 + 1 = n3 by omega] at e2
                  rw [HD.out, HD2.out, hn2, e2, e3])
                have e42 : (n1 : Int) + 1 = (n2 : Int) := by omega
                have e43 : (n1 : Int) + 2 = (n3 : Int) := by omega
                have w42 : IntKind.i64.wrap (n2 : Int) = (n2 : Int) := wrap_small _ (by omega) (by omega)
                have w43 : IntKind.i64.wrap (n3 : Int) = (n3 : Int) := wrap_small _ (by omega) (by omega)
                have f4 : decide ((s.size : Int) ≤ (n3 : Int)) = false := decide_eq_false (by omega)
                obtain ⟨x, hx⟩ : ∃ x, Lib.indexByte hexS.toList g = x := ⟨_, rfl⟩
                obtain ⟨y, hy⟩ : ∃ y, Lib.indexByte hexS.toList h = y := ⟨_, rfl⟩
                have HX := Lib.hid hx
                have HX := Lib.hid (show Lib.indexByte hexS.toList s[n2] = x by rw [hgc]; exact hx)
                have HY := Lib.hid (show Lib.indexByte hexS.toList s[n3] = y by rw [hhc]; exact hy)
                rw [hex_index] at hx hy
                by_cases hbad : unhex g = none
                · have HN := Lib.hid (show quotedF q (s.toList.drop p) = none by rw [HD3.out]; exact q_xh h92 h120 hbad _)
                  have hxv : x = -1 := by rw [← hx, hbad]
                  subst hxv
                  clear hx hy hgc hhc
                  go_wp2_with fail
                  refine (next_at b s p wr hr hlt hs 92 HC.out).mono ?_
                  rintro e w2 ⟨rfl, hb2⟩
                  replace hO := hO.below hb2
                  replace hr := hr.later hb2
                  replace hg := hg.trans (Gv.of_below hb2)
                  clear hb2
                  go_wp2_with fail
                  refine (next_at b s p w2 hr hlt hs 92 HC.out).mono ?_
                  rintro e w4 ⟨rfl, hb2⟩
                  replace hO := hO.below hb2
                  replace hr := hr.later hb2
                  replace hg := hg.trans (Gv.of_below hb2)
                  clear hb2
                  go_wp2_with fail
                  refine (plainc_any 92 _).mono ?_
                  rintro e w5 ⟨rfl, hb2⟩
                  rw [p92]
                  replace hO := hO.below hb2
                  replace hr := hr.later hb2
                  replace hg := hg.trans (Gv.of_below hb2)
                  clear hb2
                  have c1 := hr.c1
                  have z1 := hr.z1
                  have hr6 := Lr.setTo hr (a' := n1) (x := (p : Int) + 1) (by omega)
                  have hg6 := hg.set_ 1 (.int .i64 ((p : Int) + 1))
                  have hO6 := OwnB.gv hO hbl ((Gv.refl b w5).set_ 1 (.int .i64 ((p : Int) + 1)))
                  go_wp2_with fail
                  clear c1 z1 hr hg hO
                  obtain ⟨w6, hw6⟩ : ∃ w6, w6 = w5.setCell ⟨b, 1, none⟩ (.int .i64 ((p : Int) + 1)) := ⟨_, rfl⟩
                  rw [← hw6] at hr6 hg6 hO6 ⊢
                  clear hw6
                  have hr := hr6
                  have hg := hg6
                  have hO := hO6
                  clear hr6 hg6 hO6
                  refine (next_at b s n1 w6 hr hl1 hs 120 HDD.out).mono ?_
                  rintro e w7 ⟨rfl, hb2⟩
                  replace hO := hO.below hb2
                  replace hr := hr.later hb2
                  replace hg := hg.trans (Gv.of_below hb2)
                  clear hb2
                  have c0 := hr.c0
                  have c1 := hr.c1
                  go_wp2_with (go_quiet (fail))
                  clear c0 c1
                  obtain ⟨w8, hw8⟩ : ∃ w8, w8 = w7.drewN nq := ⟨_, rfl⟩
                  replace hr : Lr w8 b s n1 := by rw [hw8]; exact hr.drewN nq
                  replace hg : Gv b w w8 := by rw [hw8]; exact hg.drewN nq
                  replace hO : OwnB w8 w.heap.size u6 M := by rw [hw8]; exact hO
                  rw [← hw8]
                  clear hw8
                  have c0 := hr.c0
                  have c1 := hr.c1
                  go_wp2_with (go_quiet (first | exact Calls.quiet_of_same (indexByte_c _ _ _ _ HX.out) | exact Calls.quiet_of_same (indexByte_c _ _ _ _ HY.out)))
                  exact ⟨rfl, qpost_no (hg.drewN nq) HQ.out HN.out⟩
                obtain ⟨gx, hgx⟩ := Option.ne_none_iff_exists'.1 hbad
                have hg16 := (hexC_unhex hgx).2
                have hxv : x = (gx : Int) := by rw [← hx, hgx]
                subst hxv
                have f5 : decide ((gx : Int) < 0) = false := decide_eq_false (by omega)
                clear hbad
                by_cases hbad : unhex h = none
                · have HN := Lib.hid (show quotedF q (s.toList.drop p) = none by rw [HD3.out]; exact q_xl h92 h120 hbad _)
                  have hyv : y = -1 := by rw [← hy, hbad]
                  subst hyv
                  clear hx hy hgc hhc
                  go_wp2_with fail
                  refine (next_at b s p wr hr hlt hs 92 HC.out).mono ?_
                  rintro e w2 ⟨rfl, hb2⟩
                  replace hO := hO.below hb2
                  replace hr := hr.later hb2
                  replace hg := hg.trans (Gv.of_below hb2)
                  clear hb2
                  go_wp2_with fail
                  refine (next_at b s p w2 hr hlt hs 92 HC.out).mono ?_
                  rintro e w4 ⟨rfl, hb2⟩
                  replace hO := hO.below hb2
                  replace hr := hr.later hb2
                  replace hg := hg.trans (Gv.of_below hb2)
                  clear hb2
                  go_wp2_with fail
                  refine (plainc_any 92 _).mono ?_
                  rintro e w5 ⟨rfl, hb2⟩
                  rw [p92]
                  replace hO := hO.below hb2
                  replace hr := hr.later hb2
                  replace hg := hg.trans (Gv.of_below hb2)
                  clear hb2
                  have c1 := hr.c1
                  have z1 := hr.z1
                  have hr6 := Lr.setTo hr (a' := n1) (x := (p : Int) + 1) (by omega)
                  have hg6 := hg.set_ 1 (.int .i64 ((p : Int) + 1))
                  have hO6 := OwnB.gv hO hbl ((Gv.refl b w5).set_ 1 (.int .i64 ((p : Int) + 1)))
                  go_wp2_with fail
                  clear c1 z1 hr hg hO
                  obtain ⟨w6, hw6⟩ : ∃ w6, w6 = w5.setCell ⟨b, 1, none⟩ (.int .i64 ((p : Int) + 1)) := ⟨_, rfl⟩
                  rw [← hw6] at hr6 hg6 hO6 ⊢
                  clear hw6
                  have hr := hr6
                  have hg := hg6
                  have hO := hO6
                  clear hr6 hg6 hO6
                  refine (next_at b s n1 w6 hr hl1 hs 120 HDD.out).mono ?_
                  rintro e w7 ⟨rfl, hb2⟩
                  replace hO := hO.below hb2
                  replace hr := hr.later hb2
                  replace hg := hg.trans (Gv.of_below hb2)
                  clear hb2
                  have c0 := hr.c0
                  have c1 := hr.c1
                  go_wp2_with (go_quiet (fail))
                  clear c0 c1
                  obtain ⟨w8, hw8⟩ : ∃ w8, w8 = w7.drewN nq := ⟨_, rfl⟩
                  replace hr : Lr w8 b s n1 := by rw [hw8]; exact hr.drewN nq
                  replace hg : Gv b w w8 := by rw [hw8]; exact hg.drewN nq
                  replace hO : OwnB w8 w.heap.size u6 M := by rw [hw8]; exact hO
                  rw [← hw8]
                  clear hw8
                  have c0 := hr.c0
                  have c1 := hr.c1
                  go_wp2_with (go_quiet (first | exact Calls.quiet_of_same (indexByte_c _ _ _ _ HX.out) | exact Calls.quiet_of_same (indexByte_c _ _ _ _ HY.out)))
                  exact ⟨rfl, qpost_no (hg.drewN nq) HQ.out HN.out⟩
                obtain ⟨hx2, hhx⟩ := Option.ne_none_iff_exists'.1 hbad
                have hh16 := (hexC_unhex hhx).2
                have hyv : y = (hx2 : Int) := by rw [← hy, hhx]
                subst hyv
                have f6 : decide ((hx2 : Int) < 0) = false := decide_eq_false (by omega)
                clear hbad
                cases hpb : plainB (byte2 gx hx2) with
                | true =>
                  have HN := Lib.hid (show quotedF q (s.toList.drop p) = none by rw [HD3.out]; exact q_xp h92 h120 hgx hhx hpb _)
                  clear hx hy hgc hhc hgx hhx
                  go_wp2_with fail
                  refine (next_at b s p wr hr hlt hs 92 HC.out).mono ?_
                  rintro e w2 ⟨rfl, hb2⟩
                  replace hO := hO.below hb2
                  replace hr := hr.later hb2
                  replace hg := hg.trans (Gv.of_below hb2)
                  clear hb2
                  go_wp2_with fail
                  refine (next_at b s p w2 hr hlt hs 92 HC.out).mono ?_
                  rintro e w4 ⟨rfl, hb2⟩
                  replace hO := hO.below hb2
                  replace hr := hr.later hb2
                  replace hg := hg.trans (Gv.of_below hb2)
                  clear hb2
                  go_wp2_with fail
                  refine (plainc_any 92 _).mono ?_
                  rintro e w5 ⟨rfl, hb2⟩
                  rw [p92]
                  replace hO := hO.below hb2
                  replace hr := hr.later hb2
                  replace hg := hg.trans (Gv.of_below hb2)
                  clear hb2
                  have c1 := hr.c1
                  have z1 := hr.z1
                  have hr6 := Lr.setTo hr (a' := n1) (x := (p : Int) + 1) (by omega)
                  have hg6 := hg.set_ 1 (.int .i64 ((p : Int) + 1))
                  have hO6 := OwnB.gv hO hbl ((Gv.refl b w5).set_ 1 (.int .i64 ((p : Int) + 1)))
                  go_wp2_with fail
                  clear c1 z1 hr hg hO
                  obtain ⟨w6, hw6⟩ : ∃ w6, w6 = w5.setCell ⟨b, 1, none⟩ (.int .i64 ((p : Int) + 1)) := ⟨_, rfl⟩
                  rw [← hw6] at hr6 hg6 hO6 ⊢
                  clear hw6
                  have hr := hr6
                  have hg := hg6
                  have hO := hO6
                  clear hr6 hg6 hO6
                  refine (next_at b s n1 w6 hr hl1 hs 120 HDD.out).mono ?_
                  rintro e w7 ⟨rfl, hb2⟩
                  replace hO := hO.below hb2
                  replace hr := hr.later hb2
                  replace hg := hg.trans (Gv.of_below hb2)
                  clear hb2
                  have c0 := hr.c0
                  have c1 := hr.c1
                  go_wp2_with (go_quiet (fail))
                  clear c0 c1
                  obtain ⟨w8, hw8⟩ : ∃ w8, w8 = w7.drewN nq := ⟨_, rfl⟩
                  replace hr : Lr w8 b s n1 := by rw [hw8]; exact hr.drewN nq
                  replace hg : Gv b w w8 := by rw [hw8]; exact hg.drewN nq
                  replace hO : OwnB w8 w.heap.size u6 M := by rw [hw8]; exact hO
                  rw [← hw8]
                  clear hw8
                  have c0 := hr.c0
                  have c1 := hr.c1
                  go_wp2_with (go_quiet (first | exact Calls.quiet_of_same (indexByte_c _ _ _ _ HX.out) | exact Calls.quiet_of_same (indexByte_c _ _ _ _ HY.out)))
                  first | rw [or16b hg16 hh16] | rw [or16 hg16 hh16]
                  refine (plainc_any (byte2 gx hx2) _).mono ?_
                  rintro e w10 ⟨rfl, hb2⟩
                  rw [hpb]
                  replace hg := (hg.drewN nq).trans (Gv.of_below hb2)
                  go_wp2_with fail
                  exact ⟨rfl, qpost_no hg HQ.out HN.out⟩
                | false =>
                  have HS := Lib.hid (show QS q (s.toList.drop (a + 1)) (M ++ [byte2 gx hx2]) (s.toList.drop (n3 + 1)) by have h9 := HQ.out; rw [HD3.out] at h9; exact h9.step (quotedF_hex h92 (by simp [h120]) hgx hhx hpb _))
                  clear hx hy hgc hhc hgx hhx
                  go_wp2_with fail
                  refine (next_at b s p wr hr hlt hs 92 HC.out).mono ?_
                  rintro e w2 ⟨rfl, hb2⟩
                  replace hO := hO.below hb2
                  replace hr := hr.later hb2
                  replace hg := hg.trans (Gv.of_below hb2)
                  clear hb2
                  go_wp2_with fail
                  refine (next_at b s p w2 hr hlt hs 92 HC.out).mono ?_
                  rintro e w4 ⟨rfl, hb2⟩
                  replace hO := hO.below hb2
                  replace hr := hr.later hb2
                  replace hg := hg.trans (Gv.of_below hb2)
                  clear hb2
                  go_wp2_with fail
                  refine (plainc_any 92 _).mono ?_
                  rintro e w5 ⟨rfl, hb2⟩
                  rw [p92]
                  replace hO := hO.below hb2
                  replace hr := hr.later hb2
                  replace hg := hg.trans (Gv.of_below hb2)
                  clear hb2
                  have c1 := hr.c1
                  have z1 := hr.z1
                  have hr6 := Lr.setTo hr (a' := n1) (x := (p : Int) + 1) (by omega)
                  have hg6 := hg.set_ 1 (.int .i64 ((p : Int) + 1))
                  have hO6 := OwnB.gv hO hbl ((Gv.refl b w5).set_ 1 (.int .i64 ((p : Int) + 1)))
                  go_wp2_with fail
                  clear c1 z1 hr hg hO
                  obtain ⟨w6, hw6⟩ : ∃ w6, w6 = w5.setCell ⟨b, 1, none⟩ (.int .i64 ((p : Int) + 1)) := ⟨_, rfl⟩
                  rw [← hw6] at hr6 hg6 hO6 ⊢
                  clear hw6
                  have hr := hr6
                  have hg := hg6
                  have hO := hO6
                  clear hr6 hg6 hO6
                  refine (next_at b s n1 w6 hr hl1 hs 120 HDD.out).mono ?_
                  rintro e w7 ⟨rfl, hb2⟩
                  replace hO := hO.below hb2
                  replace hr := hr.later hb2
                  replace hg := hg.trans (Gv.of_below hb2)
                  clear hb2
                  have c0 := hr.c0
                  have c1 := hr.c1
                  go_wp2_with (go_quiet (fail))
                  clear c0 c1
                  obtain ⟨w8, hw8⟩ : ∃ w8, w8 = w7.drewN nq := ⟨_, rfl⟩
                  replace hr : Lr w8 b s n1 := by rw [hw8]; exact hr.drewN nq
                  replace hg : Gv b w w8 := by rw [hw8]; exact hg.drewN nq
                  replace hO : OwnB w8 w.heap.size u6 M := by rw [hw8]; exact hO
                  rw [← hw8]
                  clear hw8
                  have c0 := hr.c0
                  have c1 := hr.c1
                  go_wp2_with (go_quiet (first | exact Calls.quiet_of_same (indexByte_c _ _ _ _ HX.out) | exact Calls.quiet_of_same (indexByte_c _ _ _ _ HY.out)))
                  first | rw [or16b hg16 hh16] | rw [or16 hg16 hh16]
                  refine (plainc_any (byte2 gx hx2) _).mono ?_
                  rintro e w10 ⟨rfl, hb2⟩
                  rw [hpb]
                  replace hg := (hg.drewN nq).trans (Gv.of_below hb2)
                  replace hr := (hr.drewN nq).later hb2
                  replace hO : OwnB w10 w.heap.size u6 M := OwnB.below (show OwnB (w8.drewN nq) w.heap.size u6 M from hO) hb2
                  have HB := Lib.hid (or16b hg16 hh16).symm
                  have HB2 := Lib.hid (or16 hg16 hh16).symm
                  clear hb2
                  go_wp2_with (at_builtin; refine wpList_append_bytes3 rfl (.tmp 122) (.tmp 128) 111 rfl Tryd.underlying111 Tryd.info5 rfl (hO.alloc _) _ [byte2 gx hx2] 1 _ rfl rfl (by first | exact bv_cells_oneI _ _ _ HB.out | exact bv_cells_oneI _ _ _ HB2.out) (by omega) (by have := hg.size; simp; omega) ?_; intro v3 w3 hO3 hg3; have hr3 := Lr.grown (hr.alloc _) (hO.alloc _) hbl hg3; have hgw3 := Gv.grown (hg.alloc _) (hO.alloc _) (Nat.le_refl _) hg3; have c3 := hr3.c1; have z3 := hr3.z1)
                  have hr4 := Lr.setTo hr3 (a' := n3) (x := (n3 : Int)) rfl
                  have hr5 := Lr.setTo hr4 (a' := n3 + 1) (x := (n3 : Int) + 1) (by omega)
                  have hg5 := (hgw3.set_ 1 (.int .i64 (n3 : Int))).set_ 1 (.int .i64 ((n3 : Int) + 1))
                  have hO5 := OwnB.gv hO3 hbl (((Gv.refl b w3).set_ 1 (.int .i64 (n3 : Int))).set_ 1 (.int .i64 ((n3 : Int) + 1)))
                  refine ⟨⟨n3 + 1, _, by omega, hO5, hr5, hg5, by simp; omega, Lib.hid HS.out⟩, ?_⟩
                  rw [posOf_lr hr5, PR.out]
                  omega
              · have HN := Lib.hid (show quotedF q (s.toList.drop p) = none by
                  rw [HD.out, HD2.out]
                  exact q_short h92 h120 (by rw [List.length_drop, size_of]; omega))
                have e43 : (n1 : Int) + 2 = (n3 : Int) := by omega
                have w43 : IntKind.i64.wrap (n3 : Int) = (n3 : Int) := wrap_small _ (by omega) (by omega)
                have f4 : decide ((s.size : Int) ≤ (n3 : Int)) = true := decide_eq_true (by omega)
                go_wp2_with fail
                refine (next_at b s p wr hr hlt hs 92 HC.out).mono ?_
                rintro e w2 ⟨rfl, hb2⟩
                replace hO := hO.below hb2
                replace hr := hr.later hb2
                replace hg := hg.trans (Gv.of_below hb2)
                clear hb2
                go_wp2_with fail
                refine (next_at b s p w2 hr hlt hs 92 HC.out).mono ?_
                rintro e w4 ⟨rfl, hb2⟩
                replace hO := hO.below hb2
                replace hr := hr.later hb2
                replace hg := hg.trans (Gv.of_below hb2)
                clear hb2
                go_wp2_with fail
                refine (plainc_any 92 _).mono ?_
                rintro e w5 ⟨rfl, hb2⟩
                rw [p92]
                replace hO := hO.below hb2
                replace hr := hr.later hb2
                replace hg := hg.trans (Gv.of_below hb2)
                clear hb2
                have c1 := hr.c1
                have z1 := hr.z1
                have hr6 := Lr.setTo hr (a' := n1) (x := (p : Int) + 1) (by omega)
                have hg6 := hg.set_ 1 (.int .i64 ((p : Int) + 1))
                have hO6 := OwnB.gv hO hbl ((Gv.refl b w5).set_ 1 (.int .i64 ((p : Int) + 1)))
                go_wp2_with fail
                clear c1 z1 hr hg hO
                obtain ⟨w6, hw6⟩ : ∃ w6, w6 = w5.setCell ⟨b, 1, none⟩ (.int .i64 ((p : Int) + 1)) := ⟨_, rfl⟩
                rw [← hw6] at hr6 hg6 hO6 ⊢
                clear hw6
                have hr := hr6
                have hg := hg6
                have hO := hO6
                clear hr6 hg6 hO6
                refine (next_at b s n1 w6 hr hl1 hs 120 HDD.out).mono ?_
                rintro e w7 ⟨rfl, hb2⟩
                replace hO := hO.below hb2
                replace hr := hr.later hb2
                replace hg := hg.trans (Gv.of_below hb2)
                clear hb2
                have c0 := hr.c0
                have c1 := hr.c1
                go_wp2_with (go_quiet (fail))
                exact ⟨rfl, qpost_no (hg.drewN nq) HQ.out HN.out⟩
            · have f3 : ((d.toNat : Int) == 120) = false := u8_neb (d := 120) rfl hx
              have HN := Lib.hid (show quotedF q (s.toList.drop p) = none by rw [HD.out, HD2.out]; exact q_sl_odd h92 hd1 hd2 hx _)
              clear hd1 hd2 hx
              go_wp2_with fail
              refine (next_at b s p wr hr hlt hs 92 HC.out).mono ?_
              rintro e w2 ⟨rfl, hb2⟩
              replace hO := hO.below hb2
              replace hr := hr.later hb2
              replace hg := hg.trans (Gv.of_below hb2)
              clear hb2
              go_wp2_with fail
              refine (next_at b s p w2 hr hlt hs 92 HC.out).mono ?_
              rintro e w4 ⟨rfl, hb2⟩
              replace hO := hO.below hb2
              replace hr := hr.later hb2
              replace hg := hg.trans (Gv.of_below hb2)
              clear hb2
              go_wp2_with fail
              refine (plainc_any 92 _).mono ?_
              rintro e w5 ⟨rfl, hb2⟩
              rw [p92]
              replace hO := hO.below hb2
              replace hr := hr.later hb2
              replace hg := hg.trans (Gv.of_below hb2)
              clear hb2
              have c1 := hr.c1
              have z1 := hr.z1
              have hr6 := Lr.setTo hr (a' := n1) (x := (p : Int) + 1) (by omega)
              have hg6 := hg.set_ 1 (.int .i64 ((p : Int) + 1))
              have hO6 := OwnB.gv hO hbl ((Gv.refl b w5).set_ 1 (.int .i64 ((p : Int) + 1)))
              go_wp2_with fail
              clear c1 z1 hr hg hO
              obtain ⟨w6, hw6⟩ : ∃ w6, w6 = w5.setCell ⟨b, 1, none⟩ (.int .i64 ((p : Int) + 1)) := ⟨_, rfl⟩
              rw [← hw6] at hr6 hg6 hO6 ⊢
              clear hw6
              have hr := hr6
              have hg := hg6
              have hO := hO6
              clear hr6 hg6 hO6
              refine (next_at b s n1 w6 hr hl1 hs d HDD.out).mono ?_
              rintro e w7 ⟨rfl, hb2⟩
              replace hO := hO.below hb2
              replace hr := hr.later hb2
              replace hg := hg.trans (Gv.of_below hb2)
              clear hb2
              go_wp2_with fail
              exact ⟨rfl, qpost_no hg HQ.out HN.out⟩
          · have hn : n1 = s.size := by omega
            have HN := Lib.hid (show quotedF q (s.toList.drop p) = none by rw [HD.out, drop_end s hl1]; exact q_sl_end h92)
            have f1 : ((0 : Int) == (q.toNat : Int)) = false := by rcases hq with rfl | rfl <;> decide
            go_wp2_with fail
            refine (next_at b s p wr hr hlt hs 92 HC.out).mono ?_
            rintro e w2 ⟨rfl, hb2⟩
            replace hO := hO.below hb2
            replace hr := hr.later hb2
            replace hg := hg.trans (Gv.of_below hb2)
            clear hb2
            go_wp2_with fail
            refine (next_at b s p w2 hr hlt hs 92 HC.out).mono ?_
            rintro e w4 ⟨rfl, hb2⟩
            replace hO := hO.below hb2
            replace hr := hr.later hb2
            replace hg := hg.trans (Gv.of_below hb2)
            clear hb2
            go_wp2_with fail
            refine (plainc_any 92 _).mono ?_
            rintro e w5 ⟨rfl, hb2⟩
            rw [p92]
            replace hO := hO.below hb2
            replace hr := hr.later hb2
            replace hg := hg.trans (Gv.of_below hb2)
            clear hb2
            have c1 := hr.c1
            have z1 := hr.z1
            have hr6 := Lr.setTo hr (a' := n1) (x := (p : Int) + 1) (by omega)
            have hg6 := hg.set_ 1 (.int .i64 ((p : Int) + 1))
            have hO6 := OwnB.gv hO hbl ((Gv.refl b w5).set_ 1 (.int .i64 ((p : Int) + 1)))
            go_wp2_with fail
            clear c1 z1 hr hg hO
            obtain ⟨w6, hw6⟩ : ∃ w6, w6 = w5.setCell ⟨b, 1, none⟩ (.int .i64 ((p : Int) + 1)) := ⟨_, rfl⟩
            rw [← hw6] at hr6 hg6 hO6 ⊢
            clear hw6
            have hr := hr6
            have hg := hg6
            have hO := hO6
            clear hr6 hg6 hO6
            refine (next_end b s n1 w6 hr hn hs).mono ?_
            rintro e w7 ⟨rfl, hb2⟩
            replace hO := hO.below hb2
            replace hr := hr.later hb2
            replace hg := hg.trans (Gv.of_below hb2)
            clear hb2
            go_wp2_with fail
            exact ⟨rfl, qpost_no hg HQ.out HN.out⟩
        · have e9 : ((c.toNat : Int) != 92) = true := by have h := u8_neb (d := 92) (n := 92) rfl h9; simpa [bne] using h
          have HS := Lib.hid (show QS q (s.toList.drop (a + 1)) (M ++ [c]) (s.toList.drop (p + 1)) by have h := HQ.out; rw [HD.out] at h; exact h.step (quotedF_lit NQ.out HP.out h9 _))
          clear h9
          go_wp2_with fail
          refine (next_at b s p wr hr hlt hs c HC.out).mono ?_
          rintro e w2 ⟨rfl, hb2⟩
          replace hO := hO.below hb2
          replace hr := hr.later hb2
          replace hg := hg.trans (Gv.of_below hb2)
          clear hb2
          go_wp2_with fail
          refine (next_at b s p w2 hr hlt hs c HC.out).mono ?_
          rintro e w4 ⟨rfl, hb2⟩
          replace hO := hO.below hb2
          replace hr := hr.later hb2
          replace hg := hg.trans (Gv.of_below hb2)
          clear hb2
          go_wp2_with fail
          refine (plainc_any c _).mono ?_
          rintro e w5 ⟨rfl, hb2⟩
          rw [HP.out]
          replace hO := hO.below hb2
          replace hr := hr.later hb2
          replace hg := hg.trans (Gv.of_below hb2)
          clear hb2
          go_wp2_with (at_builtin; refine wpList_append_bytes3 rfl (.tmp 42) (.tmp 44) 111 rfl Tryd.underlying111 Tryd.info5 rfl (hO.alloc _) _ [c] 1 _ rfl rfl (bv_cells_one _ c _) (by omega) (by have := hg.size; simp; omega) ?_; intro v3 w3 hO3 hg3; have hr3 := Lr.grown (hr.alloc _) (hO.alloc _) hbl hg3; have hgw3 := Gv.grown (hg.alloc _) (hO.alloc _) (Nat.le_refl _) hg3; have c3 := hr3.c1; have z3 := hr3.z1)
          have hr4 := Lr.setTo hr3 (a' := p + 1) (x := (p : Int) + 1) (by omega)
          have hg4 := hgw3.set_ 1 (.int .i64 ((p : Int) + 1))
          have hO4 := OwnB.gv hO3 hbl ((Gv.refl b w3).set_ 1 (.int .i64 ((p : Int) + 1)))
          refine ⟨⟨p + 1, _, by omega, hO4, hr4, hg4, by simp; omega, Lib.hid HS.out⟩, ?_⟩
          rw [posOf_lr hr4, PR.out]
          omega
    · have hpe : p = s.size := by omega
      have HN := Lib.hid (show quotedF q (s.toList.drop p) = none by rw [drop_end s hlt]; exact q_end q)
      have e1 : ((0 : Int) != (q.toNat : Int)) = true := by rcases hq with rfl | rfl <;> decide
      go_wp2_with fail
      refine (next_end b s p wr hr hpe hs).mono ?_
      rintro e w2 ⟨rfl, hb2⟩
      replace hO := hO.below hb2
      replace hr := hr.later hb2
      replace hg := hg.trans (Gv.of_below hb2)
      clear hb2
      go_wp2_with fail
      refine (next_end b s p w2 hr hpe hs).mono ?_
      rintro e w4 ⟨rfl, hb2⟩
      replace hO := hO.below hb2
      replace hr := hr.later hb2
      replace hg := hg.trans (Gv.of_below hb2)
      clear hb2
      go_wp2_with fail
      refine (plainc_any 0 _).mono ?_
      rintro e w5 ⟨rfl, hb2⟩
      rw [show plainB 0 = false by decide]
      replace hO := hO.below hb2
      replace hr := hr.later hb2
      replace hg := hg.trans (Gv.of_below hb2)
      clear hb2
      go_wp2_with fail
      exact ⟨rfl, qpost_no hg HQ.out HN.out⟩
end Go.Proofs.YtcgphlilijeifaaDoor.L
end
section
/-
  Reading a tuple's items, step by step, in plain words.
-/
namespace Go.Proofs.YtcgphlilijeifaaDoor.L
open V (Pt)

/-- With what has been read ahead. -/
def behindF (qs : List Pt) : Res (List Pt) → Res (List Pt)
  | .ok l r => .ok (qs ++ l) r
  | .bad n => .bad n
/-- qs has been read from S on, T is what comes: an item, behind it k more at most. -/
def IS (pf : List UInt8 → Res Pt) (S : List UInt8) (qs : List Pt) (k : Nat) (T : List UInt8) : Prop := itemsF pf 1023 S = behindF qs (itemsF pf k T) ∧ k + qs.length = 1023
theorem IS.start (pf : List UInt8 → Res Pt) (S : List UInt8) : IS pf S [] 1023 S := by
  refine ⟨?_, rfl⟩
  cases itemsF pf 1023 S <;> rfl
theorem IS.bad {pf : List UInt8 → Res Pt} {S T : List UInt8} {qs : List Pt} {k n : Nat} (h : IS pf S qs k T) (e : pf T = .bad n) : itemsF pf 1023 S = .bad n := by
  rw [h.1, itemsF_eq, e]; rfl
theorem IS.close {pf : List UInt8 → Res Pt} {S T r : List UInt8} {qs : List Pt} {k : Nat} {q : Pt} (h : IS pf S qs k T) (e : pf T = .ok q (41 :: r)) : itemsF pf 1023 S = .ok (qs ++ [q]) r := by
  rw [h.1, itemsF_eq, e]; rfl
theorem IS.next {pf : List UInt8 → Res Pt} {S T r : List UInt8} {qs : List Pt} {k : Nat} {q : Pt} (h : IS pf S qs (k + 1) T) (e : pf T = .ok q (32 :: r)) : IS pf S (qs ++ [q]) k r := by
  refine ⟨?_, by have := h.2; rw [List.length_append, List.length_singleton]; omega⟩
  rw [h.1, itemsF_eq, e]
  simp only
  cases itemsF pf k r <;> simp [behindF]
theorem IS.full {pf : List UInt8 → Res Pt} {S T r : List UInt8} {qs : List Pt} {q : Pt} (h : IS pf S qs 0 T) (e : pf T = .ok q (32 :: r)) : itemsF pf 1023 S = .bad (r.length + 1) := by
  rw [h.1, itemsF_eq, e]; rfl
theorem IS.stop {pf : List UInt8 → Res Pt} {S T : List UInt8} {qs : List Pt} {k : Nat} {q : Pt} (h : IS pf S qs k T) (e : pf T = .ok q []) : itemsF pf 1023 S = .bad 0 := by
  rw [h.1, itemsF_eq, e]; rfl
theorem IS.odd {pf : List UInt8 → Res Pt} {S T r : List UInt8} {qs : List Pt} {k : Nat} {q : Pt} {c : UInt8} (h : IS pf S qs k T) (e : pf T = .ok q (c :: r)) (h1 : c ≠ 41) (h2 : c ≠ 32) : itemsF pf 1023 S = .bad (r.length + 1) := by
  rw [h.1, itemsF_eq, e]
  split
  · rename_i he; cases he
  · rename_i he; injection he with _ he; injection he with he _; exact absurd he h1
  · rename_i he; injection he with _ he; injection he with he _; exact absurd he h2
  · rename_i he; injection he with _ he; subst he; rfl
theorem open_shut (pf : List UInt8 → Res Pt) (r : List UInt8) : openF pf (41 :: r) = .ok (.mk 7 false false ⟨#[]⟩ ⟨#[]⟩ []) r := by simp [openF]
theorem open_ok {pf : List UInt8 → Res Pt} {S r : List UInt8} {l : List Pt} (h : S.head? ≠ some 41) (e : itemsF pf 1023 S = .ok l r) : openF pf S = .ok (.mk 7 false false ⟨#[]⟩ ⟨#[]⟩ l) r := by unfold openF; rw [if_neg h, e]
theorem open_bad {pf : List UInt8 → Res Pt} {S : List UInt8} {n : Nat} (h : S.head? ≠ some 41) (e : itemsF pf 1023 S = .bad n) : openF pf S = .bad n := by unfold openF; rw [if_neg h, e]
end Go.Proofs.YtcgphlilijeifaaDoor.L
end
section
/-
  A list of parts that is being read: what has been appended so far, while the reader's own block turns.
-/
namespace Go.Proofs.YtcgphlilijeifaaDoor.L
open Go.RowKit
open V (Pt)

theorem fit_may {p : Pt} (h : V.mayB p = true) : V.Fit p := by
  have h1 := V.mayB_ok h
  obtain ⟨k0, k1, k2, k3, k4, k5, k6, k7⟩ := canonP h
  refine ⟨by omega, ?_, by have := raw_le h; omega, ?_⟩
  · by_cases h2 : p.kind = 2
    · have := (chk_zero_iff.1 (k5 h2)).1
      rw [size_of] at this
      omega
    · rw [(k2 h2).2]; exact Nat.zero_le _
  · by_cases h7 : p.kind = 7
    · have := k7 h7; omega
    · rw [k3 h7]; exact Nat.zero_le _
theorem fitA_may (p : Pt) : V.mayB p = true → V.FitA p := by
  induction p using Pt.ind with
  | h p ih => exact fun h => .mk p (fit_may h) (fun q hq => ih q hq (V.mayB_item h hq))

theorem Gv.grown6 {b : Nat} {W w w' : World} {v : Value} (h : Gv b W w) (hown : ∀ k, v.ownBlock = some k → W.heap.size ≤ k) (hg : w.grownBy w' v.ownBlock) : Gv b W w' :=
  ⟨hg.os.trans h.os, hg.tape.trans h.tape, hg.output.trans h.output, Nat.le_trans h.size hg.size, fun k hk hb2 => (hg.block k (Nat.lt_of_lt_of_le hk h.size) (fun e => by have := hown k e.symm; omega)).trans (h.block k hk hb2)⟩
theorem kids_snoc {w0 w w' : World} {base g lo hi : Nat} {v : Value} {ps : List (Pt × Value)} {p : Pt} {u : Value} (hu : V.OwnI w false lo hi p.items u) (hf : V.Fit p) (h1 : base ≤ lo) (h2 : hi ≤ w.heap.size) (hlh : lo ≤ hi)
    (hv : ∀ k, v.ownBlock = some k → k < lo) (k0 : V.Kids w0 base v.ownBlock ps) (hw0 : w0.heap.size ≤ lo) (hs0 : w0.heap.size ≤ w.heap.size) (hsm : ∀ lo hi, base ≤ lo → hi ≤ w0.heap.size → V.Same lo hi w0 w)
    (hg : w.grownBy w' v.ownBlock) (hw : v.ownBlock = some g ∨ w.heap.size ≤ g) : V.Kids w' base (some g) (ps ++ [(p, u)]) := by
  obtain ⟨L, H, k1, k2⟩ := k0
  have same : ∀ lo hi, hi ≤ w.heap.size → (∀ k, v.ownBlock = some k → ¬ (lo ≤ k ∧ k < hi)) → V.Same lo hi w w' := fun lo hi a b k c d => hg.block k (by omega) (fun e => b k e.symm ⟨c, d⟩)
  have out : ∀ lo hi, hi ≤ w.heap.size → (∀ k, v.ownBlock = some k → ¬ (lo ≤ k ∧ k < hi)) → ∀ k, some g = some k → ¬ (lo ≤ k ∧ k < hi) := fun lo hi a b k e => by
    have e := Option.some.inj e
    subst e
    rcases hw with e | e
    · exact b _ e
    · omega
  refine ⟨fun j => if j < ps.length then L j else lo, fun j => if j < ps.length then H j else hi, fun j hj => ?_, fun i j hij hj => ?_⟩
  · by_cases hjl : j < ps.length
    · obtain ⟨a, b, c, d, e, f⟩ := k1 j hjl
      have hd : H j ≤ w.heap.size := Nat.le_trans d hs0
      simp only [hjl, if_true]
      rw [List.getElem_append_left hjl]
      exact ⟨(a.same (hsm _ _ b d)).same (same _ _ hd e), b, c, Nat.le_trans hd hg.size, out _ _ hd e, f⟩
    · have hje : j = ps.length := by simp at hj; omega
      subst hje
      have hv2 : ∀ k, v.ownBlock = some k → ¬ (lo ≤ k ∧ k < hi) := fun k hk => by have := hv k hk; omega
      simp only [Nat.lt_irrefl, if_false]
      rw [List.getElem_append_right (Nat.le_refl _)]
      simp only [Nat.sub_self, List.getElem_cons_zero]
      exact ⟨hu.same (same _ _ h2 hv2), h1, hlh, Nat.le_trans h2 hg.size, out _ _ h2 hv2, hf⟩
  · have hj2 : j ≤ ps.length := by simp at hj; omega
    have hi2 : i < ps.length := by omega
    by_cases hjl : j < ps.length
    · simp only [hi2, hjl, if_true]
      exact k2 i j hij hjl
    · simp only [hi2, if_true, hjl, if_false]
      have := (k1 i hi2).2.2.2.1
      omega
theorem own_gv6 {b : Nat} {w w' : World} {base : Nat} {e : TypeId} {v : Value} {n : Nat} {us : List Value} (h : w.ownsRow base e 6 v n us) (hb : b < base) (hm : Gv b w w') : w'.ownsRow base e 6 v n us := by
  refine ⟨h.1, ?_⟩
  rcases h.2 with hn | ⟨g, cap, cur, rfl, hg, hgg, rest⟩
  · exact .inl hn
  · exact .inr ⟨g, cap, cur, rfl, hg, (hm.block g (Array.getElem?_eq_some_iff.1 hgg).1 (by omega)).trans hgg, rest⟩
theorem kids_gv {b base : Nat} {w w' : World} {g : Option Nat} {ps : List (Pt × Value)} (h : V.Kids w base g ps) (hb : b < base) (hm : Gv b w w') : V.Kids w' base g ps := by
  obtain ⟨L, H, h1, h2⟩ := h
  refine ⟨L, H, fun j hj => ?_, h2⟩
  obtain ⟨a, c, d, e, f, i⟩ := h1 j hj
  exact ⟨a.same (hm.same (by omega) e), c, d, Nat.le_trans e hm.size, f, i⟩
/-- What a round leaves. -/
theorem kids_gstep {b : Nat} {w W1 w2 w3 : World} {s : Value} {x : ByteArray} {T g cap k c a : Nat} {iv y : Value} {q : Pt} {ps : List (Pt × Value)} (ob : Obj) (hO1 : W1.ownsRow (T + 1) 27 6 s k (V.flat ps)) (hK1 : V.Kids W1 (T + 1) s.ownBlock ps)
    (hx : V.OwnI w2 false W1.heap.size w2.heap.size q.items iv) (hf : V.Fit q) (hb2 : Gv b W1 w2) (hbT : b < T) (hg : (w2.alloc ob).grownBy w3 s.ownBlock) (hl : s.ownBlock = some g ∨ g = (w2.alloc ob).heap.size)
    (hO3 : w3.ownsRow (T + 1) 27 6 (.slice (some ⟨g, 0, none⟩) (k + 1) cap) (k + 1) (V.flat ps ++ (V.cellsOf q iv).toList)) (hT : T + 1 ≤ W1.heap.size) (hw : w.heap.size ≤ T) (hgw : Gv b w W1) (hr : Lr w2 b x a) :
    (w3.setCell ⟨T, c, none⟩ y).ownsRow (T + 1) 27 6 (.slice (some ⟨g, 0, none⟩) (k + 1) cap) (k + 1) (V.flat (ps ++ [(q, iv)])) ∧ V.Kids (w3.setCell ⟨T, c, none⟩ y) (T + 1) (some g) (ps ++ [(q, iv)]) ∧
      Gv b w (w3.setCell ⟨T, c, none⟩ y) ∧ T + 1 ≤ (w3.setCell ⟨T, c, none⟩ y).heap.size ∧ Lr (w3.setCell ⟨T, c, none⟩ y) b x a := by
  have hba : Gv b W1 (w2.alloc ob) := hb2.alloc ob
  have hown : ∀ k, s.ownBlock = some k → T + 1 ≤ k ∧ k < W1.heap.size := World.ownsRow.lt hO1
  have hsz2 : (w2.alloc ob).heap.size = w2.heap.size + 1 := by simp
  have hxa : V.OwnI (w2.alloc ob) false W1.heap.size w2.heap.size q.items iv := hx.same (V.Same.of_below ((Below.refl w2.heap.size w2).alloc (Nat.le_refl _) ob) (Nat.le_refl _))
  have hsl := hb2.size
  have hK3 := kids_snoc (v := s) (g := g) hxa hf hT (by omega) hsl (fun k hk => (hown k hk).2) hK1 (Nat.le_refl _) (by omega) (fun lo hi h1 h2 k h3 h4 => hba.block k (by omega) (by omega)) hg (by rcases hl with h | h; exact .inl h; exact .inr (Nat.le_of_eq h.symm))
  have hbl : b < w2.heap.size := Blk.lt hr
  refine ⟨?_, ?_, ?_, ?_, ?_⟩
  · rw [V.flat_snoc]
    exact ownsRow_setCell_below hO3 (by simp) y
  · obtain ⟨L, H, k1, k2⟩ := hK3
    refine ⟨L, H, fun j hj => ?_, k2⟩
    obtain ⟨a, b, c2, d, e, f⟩ := k1 j hj
    exact ⟨a.same (fun k x y => Below.heap_setCell _ _ _ _ (by simp; omega)), b, c2, by simpa [World.setCell] using d, e, f⟩
  · exact ((hgw.trans hba).grown6 (fun k hk => by have := hown k hk; omega) hg).setNew hw c y
  · have h1 := hg.size
    have h4 : (w3.setCell ⟨T, c, none⟩ y).heap.size = w3.heap.size := by simp [World.setCell]
    omega
  · exact (Below.heap_setCell _ _ _ _ (by simp; omega)).trans ((hg.block b (by omega) (fun e => by have := hown b e.symm; omega)).trans (hr.alloc ob))
end Go.Proofs.YtcgphlilijeifaaDoor.L
end
section
/-
  What Parse comes to, in plain words; what the laws ask of it.
-/
namespace Go.Proofs.YtcgphlilijeifaaDoor.L
open Go.RowKit
open V (Pt)

/-- The place at which reading ends wrong. -/
def Fails (s : ByteArray) (n : Nat) : Prop := (∃ k, partF 16 s.toList = .bad k ∧ n = s.size - k) ∨ ∃ p c r, partF 16 s.toList = .ok p (c :: r) ∧ n + (r.length + 1) = s.size
def ParsePost (s : ByteArray) (w : World) (e : Ending) (w' : World) : Prop :=
  Below w.heap.size w w' ∧ ((65536 < s.size ∧ e = .returned (.tuple #[.nilIface, .int .i64 2, .int .i64 0])) ∨
    (∃ n : Nat, s.size ≤ 65536 ∧ n ≤ s.size ∧ Fails s n ∧ e = .returned (.tuple #[.nilIface, .int .i64 100, .int .i64 n])) ∨
    ∃ p v, s.size ≤ 65536 ∧ partF 16 s.toList = .ok p [] ∧ V.VI w' w.heap.size w'.heap.size p v ∧ e = .returned (.tuple #[v, .int .i64 0, .int .i64 0]))
theorem ParsePost.yes {s : ByteArray} {w w' : World} {e : Ending} (h : ParsePost s w e w') {p : Pt} (hs : s.size ≤ 65536) (hp : partF 16 s.toList = .ok p []) :
    Below w.heap.size w w' ∧ ∃ v, V.VI w' w.heap.size w'.heap.size p v ∧ e = .returned (.tuple #[v, .int .i64 0, .int .i64 0]) := by
  obtain ⟨hb, h | ⟨n, _, _, hf, _⟩ | ⟨q, v, _, hq, hv, he⟩⟩ := h
  · omega
  · rcases hf with ⟨k, hk, _⟩ | ⟨q, c, r, hk, _⟩
    · rw [hp] at hk; cases hk
    · rw [hp] at hk; cases hk
  · rw [hp] at hq
    cases hq
    exact ⟨hb, v, hv, he⟩
theorem ParsePost.no {s : ByteArray} {w w' : World} {e : Ending} (h : ParsePost s w e w') {n : Nat} (hs : s.size ≤ 65536) (hn : ∀ m, Fails s m → m = n) (hp : ∀ p, partF 16 s.toList ≠ .ok p []) :
    Below w.heap.size w w' ∧ e = .returned (.tuple #[.nilIface, .int .i64 100, .int .i64 n]) := by
  obtain ⟨hb, h | ⟨m, _, _, hf, he⟩ | ⟨q, v, _, hq, hv, he⟩⟩ := h
  · omega
  · rw [hn m hf] at he; exact ⟨hb, he⟩
  · exact absurd hq (hp q)
/-- Wrong, no matter where. -/
theorem ParsePost.bad {s : ByteArray} {w w' : World} {e : Ending} (h : ParsePost s w e w') (hs : s.size ≤ 65536) (hp : ∀ p, partF 16 s.toList ≠ .ok p []) :
    Below w.heap.size w w' ∧ ∃ n : Nat, e = .returned (.tuple #[.nilIface, .int .i64 100, .int .i64 n]) := by
  obtain ⟨hb, h | ⟨m, _, _, hf, he⟩ | ⟨q, v, _, hq, hv, he⟩⟩ := h
  · omega
  · exact ⟨hb, m, he⟩
  · exact absurd hq (hp q)

theorem whole_text {s : ByteArray} {p : Pt} (h : partF 16 s.toList = .ok p []) : s.toList = textP p ∧ V.depthP p ≤ 16 ∧ (s.size ≤ 65536 → V.mayB p = true) := by
  obtain ⟨h1, h2, h3⟩ := part_back 16 _ _ _ h
  rw [List.append_nil] at h1
  exact ⟨h1, h2, fun hs => h3 (by rw [size_of]; exact hs)⟩
theorem text_whole {s : ByteArray} {p : Pt} (hm : V.mayB p = true) (hd : V.depthP p ≤ 16) (h : s.toList = textP p) : partF 16 s.toList = .ok p [] := by
  have := part_read p 16 hm hd [] Stop.nil
  rw [List.append_nil] at this
  rw [h, this]
/-- Something behind. -/
theorem behind_ok {s t : ByteArray} {p : Pt} {c : UInt8} {r : List UInt8} (h : partF 16 s.toList = .ok p []) (hs : s.size ≤ 65536) (ht : t.toList = s.toList ++ c :: r) (hc : c = 32 ∨ c = 41) : partF 16 t.toList = .ok p (c :: r) := by
  obtain ⟨h1, h2, h3⟩ := whole_text h
  rw [ht, h1]
  exact part_read p 16 (h3 hs) h2 _ (by rcases hc with rfl | rfl; exact Stop.blank r; exact Stop.shut r)
theorem behind_fails {s t : ByteArray} {p : Pt} {c : UInt8} {r : List UInt8} (h : partF 16 s.toList = .ok p []) (hs : s.size ≤ 65536) (ht : t.toList = s.toList ++ c :: r) (hc : c = 32 ∨ c = 41) :
    (∀ m, Fails t m → m = s.size) ∧ ∀ q, partF 16 t.toList ≠ .ok q [] := by
  have hk := behind_ok h hs ht hc
  have hl := congrArg List.length ht
  rw [List.length_append, List.length_cons, size_of, size_of] at hl
  refine ⟨fun m hm => ?_, fun q hq => ?_⟩
  · rcases hm with ⟨k, hb, _⟩ | ⟨q, d, u, hb, hu⟩
    · rw [hk] at hb; cases hb
    · rw [hk] at hb
      cases hb
      omega
  · rw [hk] at hq; cases hq
/-- Within brackets. -/
theorem within_ok {s t : ByteArray} {p : Pt} (h : partF 16 s.toList = .ok p []) (hs : s.size ≤ 65536) (ht : t.toList = 40 :: (s.toList ++ [41])) (hd : V.depthP p ≤ 15) : partF 16 t.toList = .ok (.mk 7 false false ⟨#[]⟩ ⟨#[]⟩ [p]) [] := by
  obtain ⟨h1, h2, h3⟩ := whole_text h
  have hm := h3 hs
  have := tuple_read 15 [p] (fun q hq r hr => by rw [List.mem_singleton] at hq; subst hq; exact part_read q 15 hm hd r hr) (fun q hq => by rw [List.mem_singleton] at hq; subst hq; exact hm) (by simp) []
  rw [textI_one] at this
  rw [ht, h1]
  exact this
theorem within_no {s t : ByteArray} {p : Pt} (h : partF 16 s.toList = .ok p []) (hs : s.size ≤ 65536) (ht : t.toList = 40 :: (s.toList ++ [41])) (hd : V.depthP p = 16) (hts : t.size ≤ 65536) : ∀ q, partF 16 t.toList ≠ .ok q [] := by
  intro q hq
  obtain ⟨h1, h2, h3⟩ := whole_text h
  obtain ⟨k1, k2, k3⟩ := whole_text hq
  have hm := h3 hs
  have e1 := tuple_read 16 [p] (fun q hq r hr => by rw [List.mem_singleton] at hq; subst hq; exact part_read q 16 hm h2 r hr) (fun q hq => by rw [List.mem_singleton] at hq; subst hq; exact hm) (by simp) []
  rw [textI_one] at e1
  have e2 := part_read q 17 (k3 hts) (by omega) [] Stop.nil
  rw [List.append_nil, ← k1, ht, h1] at e2
  have e3 : (Res.ok (V.Pt.mk 7 false false ⟨#[]⟩ ⟨#[]⟩ [p]) [] : Res Pt) = .ok q [] := e1.symm.trans e2
  cases e3
  rw [V.depthP_eq] at k2
  simp only [Pt.kind, Pt.items, if_true] at k2
  have := (V.depthL_le [p] 15).1 (by omega) p (List.mem_singleton.2 rfl)
  omega

theorem sameL_self {l : List Pt} (h : ∀ q ∈ l, V.sameP q q = true) : V.sameL l l = true := by
  induction l with
  | nil => exact V.sameL_nil
  | cons p r ih => rw [V.sameL_cons, h p (List.mem_cons_self ..), ih (fun q hq => h q (List.mem_cons_of_mem _ hq))]; rfl
theorem sameP_self (p : Pt) : V.sameP p p = true := by
  induction p using Pt.ind with
  | h p ih => rw [V.sameP_eq, sameL_self ih]; simp [V.oneB]
/-- Two parts of one text are one. -/
theorem text_inj {p q : Pt} (hp : V.mayB p = true) (hq : V.mayB q = true) (hd : V.depthP p ≤ 16) (hd2 : V.depthP q ≤ 16) (h : textP p = textP q) : p = q := by
  have e1 := part_read p 16 hp hd [] Stop.nil
  have e2 := part_read q 16 hq hd2 [] Stop.nil
  rw [h] at e1
  have e3 := e1.symm.trans e2
  cases e3
  rfl
theorem same_eq (p : Pt) : ∀ q, V.sameP p q = true → p = q := by
  induction p using Pt.ind with
  | h p ih =>
  intro q h
  rw [V.sameP_eq] at h
  simp only [Bool.and_eq_true] at h
  obtain ⟨h1, h2⟩ := h
  unfold V.oneB at h1
  simp only [Bool.and_eq_true, beq_iff_eq] at h1
  have key : ∀ (l m : List Pt), (∀ x ∈ l, ∀ y, V.sameP x y = true → x = y) → V.sameL l m = true → l = m := by
    intro l
    induction l with
    | nil =>
      intro m _ hl
      cases m with
      | nil => rfl
      | cons y m => have := V.sameL_length hl; simp at this
    | cons x l ih2 =>
      intro m hx hl
      cases m with
      | nil => have := V.sameL_length hl; simp at this
      | cons y m =>
        rw [V.sameL_cons, Bool.and_eq_true] at hl
        rw [hx x (List.mem_cons_self ..) y hl.1, ih2 m (fun z hz => hx z (List.mem_cons_of_mem _ hz)) hl.2]
  have hi := key p.items q.items ih h2
  cases p
  cases q
  simp only [Pt.kind, Pt.yes, Pt.neg, Pt.mag, Pt.raw, Pt.items] at h1 hi
  obtain ⟨⟨⟨⟨a1, a2⟩, a3⟩, a4⟩, a5⟩ := h1
  rw [a1, a2, a3, hi, V.ba_same a4, V.ba_same a5]
theorem texts_same {p q : Pt} (hp : V.mayB p = true) (hq : V.mayB q = true) (hd : V.depthP p ≤ 16) (hd2 : V.depthP q ≤ 16) : (textP p == textP q) = V.sameP p q := by
  by_cases h : textP p = textP q
  · rw [text_inj hp hq hd hd2 h, sameP_self]
    simp
  · cases hs : V.sameP p q with
    | true => exact absurd (by rw [same_eq p q hs]) h
    | false => simpa using h

/-- What is read may be made. -/
theorem whole_make {s : ByteArray} {p : Pt} {r : List UInt8} (h : partF 16 s.toList = .ok p r) (hs : s.size ≤ 65536) : V.makeE p = 0 := by
  obtain ⟨_, h2, h3⟩ := part_back 16 _ _ _ h
  have hd : V.deepB 16 p = false := by
    cases hb : V.deepB 16 p with
    | true => have := (V.deepB_iff 16 p).1 hb; omega
    | false => rfl
  unfold V.makeE
  rw [hd, h3 (by rw [size_of]; exact hs)]
  rfl
end Go.Proofs.YtcgphlilijeifaaDoor.L
end
