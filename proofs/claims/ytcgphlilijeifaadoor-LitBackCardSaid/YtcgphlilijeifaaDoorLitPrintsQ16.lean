import Derived.Deep.RegionHeld3
import Derived.BigQuiet
import Derived.Deep.QuietTactic
import Derived.StillTailTactics
import Derived.Test.YtcgphlilijeifaaDoorLitPrintsQ15
section
/-
  The reader of a text: what stands between quotes (printed by wip/tools/mk-litr.py).
-/
namespace Go.Proofs.YtcgphlilijeifaaDoor.L
open Go.RowKit
open V (Pt)

theorem next_at (b : Nat) (s : ByteArray) (a : Nat) (w : World) (hr : Lr w b s a) (ha : a < s.size) (hs : s.size ≤ 65536) (c : UInt8) (hc : s[a] = c) :
    Calls Tryd.prog 107 #[.pointer (some ⟨b, 0, none⟩)] w fun e w' => e = .returned (.int .u8 (c.toNat : Int)) ∧ Below w.heap.size w w' := by
  have := next_any b s a w hr (by omega) hs
  rw [nx_lt ha, hc] at this
  exact this
theorem next_end (b : Nat) (s : ByteArray) (a : Nat) (w : World) (hr : Lr w b s a) (ha : a = s.size) (hs : s.size ≤ 65536) :
    Calls Tryd.prog 107 #[.pointer (some ⟨b, 0, none⟩)] w fun e w' => e = .returned (.int .u8 0) ∧ Below w.heap.size w w' := by
  have := next_any b s a w hr (by omega) hs
  rw [nx_ge (by omega)] at this
  exact this
/-- What quoted comes to. -/
def QPost (b : Nat) (s : ByteArray) (a : Nat) (q : UInt8) (w : World) (e : Ending) (w' : World) : Prop :=
  Gv b w w' ∧ ((quotedF q (s.toList.drop (a + 1)) = none ∧ e = wrongAt a) ∨
    ∃ (x r : List UInt8) (p : ByteArray), quotedF q (s.toList.drop (a + 1)) = some (x, r) ∧ e = .returned (.string p) ∧ Hid (p.toList = x) ∧ ∃ n : Nat, n ≤ s.size ∧ r = s.toList.drop n ∧ Lr w' b s n)
theorem qpost_no {b : Nat} {s : ByteArray} {a : Nat} {q : UInt8} {w w' : World} {M T : List UInt8} (hg : Gv b w w') (h : QS q (s.toList.drop (a + 1)) M T) (hn : quotedF q T = none) : QPost b s a q w (wrongAt a) w' := ⟨hg, .inl ⟨h.bad hn, rfl⟩⟩
theorem Lr.setTo {w : World} {b : Nat} {s : ByteArray} {a : Nat} (h : Lr w b s a) {a' : Nat} {x : Int} (hx : x = (a' : Int)) : Lr (w.setCell ⟨b, 1, none⟩ (.int .i64 x)) b s a' := h.step a' x hx
theorem Gv.grown {b : Nat} {W w w' : World} {base : Nat} {v : Value} {l : List UInt8} (h : Gv b W w) (hO : OwnB w base v l) (hb : W.heap.size ≤ base) (hg : w.grownBy w' v.ownBlock) : Gv b W w' :=
  ⟨hg.os.trans h.os, hg.tape.trans h.tape, hg.output.trans h.output, Nat.le_trans h.size hg.size, fun k hk hb2 => (hg.block k (Nat.lt_of_lt_of_le hk h.size) (fun e => by have := (World.ownsRow.lt hO k e.symm).1; omega)).trans (h.block k hk hb2)⟩
theorem Lr.grown {w w' : World} {b : Nat} {s : ByteArray} {a : Nat} {base : Nat} {v : Value} {l : List UInt8} (h : Lr w b s a) (hO : OwnB w base v l) (hb : b < base) (hg : w.grownBy w' v.ownBlock) : Lr w' b s a :=
  (hg.block b (Blk.lt h) (fun e => by have := (World.ownsRow.lt hO b e.symm).1; omega)).trans h
/-- A reader's cells. -/
theorem Lr.c0 {w : World} {b : Nat} {s : ByteArray} {a : Nat} (h : Lr w b s a) : w.cell? ⟨b, 0, none⟩ = some (.string s) := Blk.cell h 0
theorem Lr.c1 {w : World} {b : Nat} {s : ByteArray} {a : Nat} (h : Lr w b s a) : w.cell? ⟨b, 1, none⟩ = some (.int .i64 (a : Int)) := Blk.cell h 1
theorem Lr.z1 {w : World} {b : Nat} {s : ByteArray} {a : Nat} (h : Lr w b s a) : w.frozen? ⟨b, 1, none⟩ = false := Blk.frozen h 1
theorem u8_bne {c d : UInt8} (h : c ≠ d) : ((c.toNat : Int) != (d.toNat : Int)) = true := by simp only [bne_iff_ne, ne_eq]; intro e; exact h (UInt8.toNat_inj.1 (by omega))
theorem u8_beqf {c d : UInt8} (h : c ≠ d) : ((c.toNat : Int) == (d.toNat : Int)) = false := by simp only [beq_eq_false_iff_ne, ne_eq]; intro e; exact h (UInt8.toNat_inj.1 (by omega))
theorem drop2 {s : ByteArray} {p : Nat} {c : UInt8} (h : p < s.size) (hc : s[p] = c) : s.toList.drop p = c :: s.toList.drop (p + 1) := by rw [drop_cons s h, hc]

set_option maxRecDepth 100000 in
set_option maxHeartbeats 4000000 in
theorem quoted_any (b : Nat) (s : ByteArray) (q : UInt8) (hq : q = 39 ∨ q = 34) (a : Nat) (w : World) (hr : Lr w b s a) (ha : a < s.size) (hs : s.size ≤ 65536) :
    Calls Tryd.prog 110 #[.pointer (some ⟨b, 0, none⟩), .int .u8 (q.toNat : Int)] w (QPost b s a q w) := by
  have h92 : (92 : UInt8) ≠ q := by rcases hq with rfl | rfl <;> decide
  have h120 : (120 : UInt8) ≠ q := by rcases hq with rfl | rfl <;> decide
  have c1 : w.cell? ⟨b, 1, none⟩ = some (.int .i64 (a : Int)) := hr.cell 1
  have z1 : w.frozen? ⟨b, 1, none⟩ = false := hr.frozen 1
  have hbl : b < w.heap.size := Blk.lt hr
  go_enter Tryd.func110, Tryd.ntmps110
  go_wp2_with fail
  have hr2 := Lr.setTo hr (a' := a + 1) (x := (a : Int) + 1) (by omega)
  have hg2 := (Gv.refl b w).set_ 1 (.int .i64 ((a : Int) + 1))
  clear c1 z1
  go_loopw [6, 7, 8, 9] (fun v _ _ _ wr => ∃ (p : Nat) (M : List UInt8), p ≤ s.size ∧ OwnB wr w.heap.size v M ∧ Lr wr b s p ∧ Gv b w wr ∧ M.length ≤ p ∧ RowKit.Hid (QS q (s.toList.drop (a + 1)) M (s.toList.drop p))) (fun _ _ _ _ wr => s.size - posOf wr b)
  case atStart => exact ⟨a + 1, [], by omega, OwnB.nil _ _, hr2, hg2, Nat.zero_le _, Lib.hid (QS.start _ _)⟩
  case round =>
    clear hr2 hg2 hr
    obtain ⟨p, M, hp, hO, hr, hg, hM, HQ⟩ := hrel
    have hbs := hg.size
    have PR := Lib.hid (posOf_lr hr)
    by_cases hlt : p < s.size
    · obtain ⟨c, hc⟩ : ∃ c, s[p] = c := ⟨_, rfl⟩
      have HC := Lib.hid hc
      have HD := Lib.hid (drop2 hlt hc)
      clear hc
      by_cases hcq : c = q
      · have e1 : ((c.toNat : Int) != (q.toNat : Int)) = false := by subst hcq; simp
        have HZ := Lib.hid (show quotedF q (s.toList.drop (a + 1)) = some (M, s.toList.drop (p + 1)) by have h := HQ.out; rw [HD.out, hcq] at h; exact h.close)
        clear hcq
        go_wp2_with fail
        refine (next_at b s p wr hr hlt hs c HC.out).mono ?_
        rintro e w2 ⟨rfl, hb2⟩
        replace hO := hO.below hb2
        replace hr := hr.later hb2
        replace hg := hg.trans (Gv.of_below hb2)
        clear hb2
        have c1 := hr.c1
        have z1 := hr.z1
        have hO3 := OwnB.gv hO hbl ((Gv.refl b w2).set_ 1 (.int .i64 ((p : Int) + 1)))
        have hcv := hO3.conv (P := Tryd.prog) 111 9 Tryd.underlying111 (by kernel_rfl) (by kernel_rfl)
        have HR := Lib.hid (Lr.setTo hr (a' := p + 1) (x := (p : Int) + 1) (by omega))
        have HG := Lib.hid (hg.set_ 1 (.int .i64 ((p : Int) + 1)))
        clear hO hO3 hr hg
        go_wp2_with fail
        go_ret
        exact ⟨HG.out, .inr ⟨_, _, _, HZ.out, rfl, Lib.hid (by rw [Lib.toList_data]), p + 1, by omega, rfl, HR.out⟩⟩
      have e1 : ((c.toNat : Int) != (q.toNat : Int)) = true := u8_bne hcq
      have NQ := Lib.hid hcq
      cases hpl : plainB c with
      | false =>
        have HN := Lib.hid (show quotedF q (s.toList.drop p) = none by rw [HD.out]; exact q_odd hcq hpl _)
        clear hcq
        go_wp2_with fail
        refine (next_at b s p wr hr hlt hs c HC.out).mono ?_
        rintro e w2 ⟨rfl, hb2⟩
        replace hO := hO.below hb2
        replace hr := hr.later hb2
        replace hg := hg.trans (Gv.of_below hb2)
        clear hb2
        go_wp2_with fail
        refine (next_at b s p w2 hr hlt hs c HC.out).mono ?_
        rintro e w4 ⟨rfl, hb2⟩
        replace hO := hO.below hb2
        replace hr := hr.later hb2
        replace hg := hg.trans (Gv.of_below hb2)
        clear hb2
        go_wp2_with fail
        refine (plainc_any c _).mono ?_
        rintro e w5 ⟨rfl, hb2⟩
        rw [hpl]
        replace hO := hO.below hb2
        replace hr := hr.later hb2
        replace hg := hg.trans (Gv.of_below hb2)
        clear hb2
        go_wp2_with fail
        exact ⟨rfl, qpost_no hg HQ.out HN.out⟩
      | true =>
        have HP := Lib.hid hpl
        clear hcq
        by_cases h9 : c = 92
        · subst h9
          have e9 : (((92 : UInt8).toNat : Int) != 92) = false := by decide
          obtain ⟨n1, hn1⟩ : ∃ n1, p + 1 = n1 := ⟨_, rfl⟩
          rw [hn1] at HD
          by_cases hl1 : n1 < s.size
          · obtain ⟨d, hd⟩ : ∃ d, s[n1] = d := ⟨_, rfl⟩
            have HDD := Lib.hid hd
            have HD2 := Lib.hid (drop2 hl1 hd)
            clear hd
            by_cases hdq : d = q ∨ d = 92
            · have HS := Lib.hid (show QS q (s.toList.drop (a + 1)) (M ++ [d]) (s.toList.drop (n1 + 1)) by have h := HQ.out; rw [HD.out, HD2.out] at h; exact h.step (quotedF_esc2 h92 hdq _))
              go_wp2_with fail
              refine (next_at b s p wr hr hlt hs 92 HC.out).mono ?_
              rintro e w2 ⟨rfl, hb2⟩
              replace hO := hO.below hb2
              replace hr := hr.later hb2
              replace hg := hg.trans (Gv.of_below hb2)
              clear hb2
              go_wp2_with fail
              refine (next_at b s p w2 hr hlt hs 92 HC.out).mono ?_
              rintro e w4 ⟨rfl, hb2⟩
              replace hO := hO.below hb2
              replace hr := hr.later hb2
              replace hg := hg.trans (Gv.of_below hb2)
              clear hb2
              go_wp2_with fail
              refine (plainc_any 92 _).mono ?_
              rintro e w5 ⟨rfl, hb2⟩
              rw [p92]
              replace hO := hO.below hb2
              replace hr := hr.later hb2
              replace hg := hg.trans (Gv.of_below hb2)
              clear hb2
              have c1 := hr.c1
              have z1 := hr.z1
              have hr6 := Lr.setTo hr (a' := n1) (x := (p : Int) + 1) (by omega)
              have hg6 := hg.set_ 1 (.int .i64 ((p : Int) + 1))
              have hO6 := OwnB.gv hO hbl ((Gv.refl b w5).set_ 1 (.int .i64 ((p : Int) + 1)))
              go_wp2_with fail
              clear c1 z1 hr hg hO
              obtain ⟨w6, hw6⟩ : ∃ w6, w6 = w5.setCell ⟨b, 1, none⟩ (.int .i64 ((p : Int) + 1)) := ⟨_, rfl⟩
              rw [← hw6] at hr6 hg6 hO6 ⊢
              clear hw6
              have hr := hr6
              have hg := hg6
              have hO := hO6
              clear hr6 hg6 hO6
              refine (next_at b s n1 w6 hr hl1 hs d HDD.out).mono ?_
              rintro e w7 ⟨rfl, hb2⟩
              replace hO := hO.below hb2
              replace hr := hr.later hb2
              replace hg := hg.trans (Gv.of_below hb2)
              clear hb2
              by_cases hd1 : d = q
              · have f1 : ((d.toNat : Int) == (q.toNat : Int)) = true := by rw [hd1]; simp
                have f2 : ((d.toNat : Int) == 92) = false := by rw [hd1]; exact u8_neb (d := 92) rfl (fun e => h92 e.symm)
                clear hd1 hdq
                go_wp2_with (at_builtin; refine wpList_append_bytes3 rfl (.tmp 63) (.tmp 65) 111 rfl Tryd.underlying111 Tryd.info5 rfl (hO.alloc _) _ [d] 1 _ rfl rfl (bv_cells_one _ d _) (by omega) (by have := hg.size; simp; omega) ?_; intro v3 w3 hO3 hg3; have hr3 := Lr.grown (hr.alloc _) (hO.alloc _) hbl hg3; have hgw3 := Gv.grown (hg.alloc _) (hO.alloc _) (Nat.le_refl _) hg3; have c3 := hr3.c1; have z3 := hr3.z1)
                have hr4 := Lr.setTo hr3 (a' := n1 + 1) (x := ((n1 : Nat) : Int) + 1) (by omega)
                have hg4 := hgw3.set_ 1 (.int .i64 (((n1 : Nat) : Int) + 1))
                have hO4 := OwnB.gv hO3 hbl ((Gv.refl b w3).set_ 1 (.int .i64 (((n1 : Nat) : Int) + 1)))
                refine ⟨⟨n1 + 1, _, by omega, hO4, hr4, hg4, by simp; omega, Lib.hid (HS.out)⟩, ?_⟩
                rw [posOf_lr hr4, PR.out]
                omega
              · have f1 : ((d.toNat : Int) == (q.toNat : Int)) = false := u8_beqf hd1
                have f2 : ((d.toNat : Int) == 92) = true := u8_eqb (d := 92) rfl (hdq.resolve_left hd1)
                clear hd1 hdq
                go_wp2_with (at_builtin; refine wpList_append_bytes3 rfl (.tmp 63) (.tmp 65) 111 rfl Tryd.underlying111 Tryd.info5 rfl (hO.alloc _) _ [d] 1 _ rfl rfl (bv_cells_one _ d _) (by omega) (by have := hg.size; simp; omega) ?_; intro v3 w3 hO3 hg3; have hr3 := Lr.grown (hr.alloc _) (hO.alloc _) hbl hg3; have hgw3 := Gv.grown (hg.alloc _) (hO.alloc _) (Nat.le_refl _) hg3; have c3 := hr3.c1; have z3 := hr3.z1)
                have hr4 := Lr.setTo hr3 (a' := n1 + 1) (x := ((n1 : Nat) : Int) + 1) (by omega)
                have hg4 := hgw3.set_ 1 (.int .i64 (((n1 : Nat) : Int) + 1))
                have hO4 := OwnB.gv hO3 hbl ((Gv.refl b w3).set_ 1 (.int .i64 (((n1 : Nat) : Int) + 1)))
                refine ⟨⟨n1 + 1, _, by omega, hO4, hr4, hg4, by simp; omega, Lib.hid (HS.out)⟩, ?_⟩
                rw [posOf_lr hr4, PR.out]
                omega
            have hd1 : d ≠ q := fun e => hdq (.inl e)
            have hd2 : d ≠ 92 := fun e => hdq (.inr e)
            have f1 : ((d.toNat : Int) == (q.toNat : Int)) = false := u8_beqf hd1
            have f2 : ((d.toNat : Int) == 92) = false := u8_neb (d := 92) rfl hd2
            clear hdq
            by_cases hx : d = 120
            · subst hx
              have f3 : (((120 : UInt8).toNat : Int) == 120) = true := by decide
              clear hd1 hd2
              obtain ⟨n2, hn2⟩ : ∃ n2, n1 + 1 = n2 := ⟨_, rfl⟩
              obtain ⟨n3, hn3⟩ : ∃ n3, n1 + 2 = n3 := ⟨_, rfl⟩
              by_cases hl3 : n3 < s.size
              · have hl2 : n2 < s.size := by omega
                obtain ⟨g, hgc⟩ : ∃ g, s[n2] = g := ⟨_, rfl⟩
                obtain ⟨h, hhc⟩ : ∃ h, s[n3] = h := ⟨_, rfl⟩
                have HD3 := Lib.hid (show s.toList.drop p = 92 :: 120 :: g :: h :: s.toList.drop (n3 + 1) by
                  have e2 := drop2 hl2 hgc
                  have e3 := drop2 hl3 hhc
                  rw [show n2 + 1 = n3 by omega] at e2
                  rw [HD.out, HD2.out, hn2, e2, e3])
                have e42 : (n1 : Int) + 1 = (n2 : Int) := by omega
                have e43 : (n1 : Int) + 2 = (n3 : Int) := by omega
                have w42 : IntKind.i64.wrap (n2 : Int) = (n2 : Int) := wrap_small _ (by omega) (by omega)
                have w43 : IntKind.i64.wrap (n3 : Int) = (n3 : Int) := wrap_small _ (by omega) (by omega)
                have f4 : decide ((s.size : Int) ≤ (n3 : Int)) = false := decide_eq_false (by omega)
                obtain ⟨x, hx⟩ : ∃ x, Lib.indexByte hexS.toList g = x := ⟨_, rfl⟩
                obtain ⟨y, hy⟩ : ∃ y, Lib.indexByte hexS.toList h = y := ⟨_, rfl⟩
                have HX := Lib.hid hx
                have HX := Lib.hid (show Lib.indexByte hexS.toList s[n2] = x by rw [hgc]; exact hx)
                have HY := Lib.hid (show Lib.indexByte hexS.toList s[n3] = y by rw [hhc]; exact hy)
                rw [hex_index] at hx hy
                by_cases hbad : unhex g = none
                · have HN := Lib.hid (show quotedF q (s.toList.drop p) = none by rw [HD3.out]; exact q_xh h92 h120 hbad _)
                  have hxv : x = -1 := by rw [← hx, hbad]
                  subst hxv
                  clear hx hy hgc hhc
                  go_wp2_with fail
                  refine (next_at b s p wr hr hlt hs 92 HC.out).mono ?_
                  rintro e w2 ⟨rfl, hb2⟩
                  replace hO := hO.below hb2
                  replace hr := hr.later hb2
                  replace hg := hg.trans (Gv.of_below hb2)
                  clear hb2
                  go_wp2_with fail
                  refine (next_at b s p w2 hr hlt hs 92 HC.out).mono ?_
                  rintro e w4 ⟨rfl, hb2⟩
                  replace hO := hO.below hb2
                  replace hr := hr.later hb2
                  replace hg := hg.trans (Gv.of_below hb2)
                  clear hb2
                  go_wp2_with fail
                  refine (plainc_any 92 _).mono ?_
                  rintro e w5 ⟨rfl, hb2⟩
                  rw [p92]
                  replace hO := hO.below hb2
                  replace hr := hr.later hb2
                  replace hg := hg.trans (Gv.of_below hb2)
                  clear hb2
                  have c1 := hr.c1
                  have z1 := hr.z1
                  have hr6 := Lr.setTo hr (a' := n1) (x := (p : Int) + 1) (by omega)
                  have hg6 := hg.set_ 1 (.int .i64 ((p : Int) + 1))
                  have hO6 := OwnB.gv hO hbl ((Gv.refl b w5).set_ 1 (.int .i64 ((p : Int) + 1)))
                  go_wp2_with fail
                  clear c1 z1 hr hg hO
                  obtain ⟨w6, hw6⟩ : ∃ w6, w6 = w5.setCell ⟨b, 1, none⟩ (.int .i64 ((p : Int) + 1)) := ⟨_, rfl⟩
                  rw [← hw6] at hr6 hg6 hO6 ⊢
                  clear hw6
                  have hr := hr6
                  have hg := hg6
                  have hO := hO6
                  clear hr6 hg6 hO6
                  refine (next_at b s n1 w6 hr hl1 hs 120 HDD.out).mono ?_
                  rintro e w7 ⟨rfl, hb2⟩
                  replace hO := hO.below hb2
                  replace hr := hr.later hb2
                  replace hg := hg.trans (Gv.of_below hb2)
                  clear hb2
                  have c0 := hr.c0
                  have c1 := hr.c1
                  go_wp2_with (go_quiet (fail))
                  clear c0 c1
                  obtain ⟨w8, hw8⟩ : ∃ w8, w8 = w7.drewN nq := ⟨_, rfl⟩
                  replace hr : Lr w8 b s n1 := by rw [hw8]; exact hr.drewN nq
                  replace hg : Gv b w w8 := by rw [hw8]; exact hg.drewN nq
                  replace hO : OwnB w8 w.heap.size u6 M := by rw [hw8]; exact hO
                  rw [← hw8]
                  clear hw8
                  have c0 := hr.c0
                  have c1 := hr.c1
                  go_wp2_with (go_quiet (first | exact Calls.quiet_of_same (indexByte_c _ _ _ _ HX.out) | exact Calls.quiet_of_same (indexByte_c _ _ _ _ HY.out)))
                  exact ⟨rfl, qpost_no (hg.drewN nq) HQ.out HN.out⟩
                obtain ⟨gx, hgx⟩ := Option.ne_none_iff_exists'.1 hbad
                have hg16 := (hexC_unhex hgx).2
                have hxv : x = (gx : Int) := by rw [← hx, hgx]
                subst hxv
                have f5 : decide ((gx : Int) < 0) = false := decide_eq_false (by omega)
                clear hbad
                by_cases hbad : unhex h = none
                · have HN := Lib.hid (show quotedF q (s.toList.drop p) = none by rw [HD3.out]; exact q_xl h92 h120 hbad _)
                  have hyv : y = -1 := by rw [← hy, hbad]
                  subst hyv
                  clear hx hy hgc hhc
                  go_wp2_with fail
                  refine (next_at b s p wr hr hlt hs 92 HC.out).mono ?_
                  rintro e w2 ⟨rfl, hb2⟩
                  replace hO := hO.below hb2
                  replace hr := hr.later hb2
                  replace hg := hg.trans (Gv.of_below hb2)
                  clear hb2
                  go_wp2_with fail
                  refine (next_at b s p w2 hr hlt hs 92 HC.out).mono ?_
                  rintro e w4 ⟨rfl, hb2⟩
                  replace hO := hO.below hb2
                  replace hr := hr.later hb2
                  replace hg := hg.trans (Gv.of_below hb2)
                  clear hb2
                  go_wp2_with fail
                  refine (plainc_any 92 _).mono ?_
                  rintro e w5 ⟨rfl, hb2⟩
                  rw [p92]
                  replace hO := hO.below hb2
                  replace hr := hr.later hb2
                  replace hg := hg.trans (Gv.of_below hb2)
                  clear hb2
                  have c1 := hr.c1
                  have z1 := hr.z1
                  have hr6 := Lr.setTo hr (a' := n1) (x := (p : Int) + 1) (by omega)
                  have hg6 := hg.set_ 1 (.int .i64 ((p : Int) + 1))
                  have hO6 := OwnB.gv hO hbl ((Gv.refl b w5).set_ 1 (.int .i64 ((p : Int) + 1)))
                  go_wp2_with fail
                  clear c1 z1 hr hg hO
                  obtain ⟨w6, hw6⟩ : ∃ w6, w6 = w5.setCell ⟨b, 1, none⟩ (.int .i64 ((p : Int) + 1)) := ⟨_, rfl⟩
                  rw [← hw6] at hr6 hg6 hO6 ⊢
                  clear hw6
                  have hr := hr6
                  have hg := hg6
                  have hO := hO6
                  clear hr6 hg6 hO6
                  refine (next_at b s n1 w6 hr hl1 hs 120 HDD.out).mono ?_
                  rintro e w7 ⟨rfl, hb2⟩
                  replace hO := hO.below hb2
                  replace hr := hr.later hb2
                  replace hg := hg.trans (Gv.of_below hb2)
                  clear hb2
                  have c0 := hr.c0
                  have c1 := hr.c1
                  go_wp2_with (go_quiet (fail))
                  clear c0 c1
                  obtain ⟨w8, hw8⟩ : ∃ w8, w8 = w7.drewN nq := ⟨_, rfl⟩
                  replace hr : Lr w8 b s n1 := by rw [hw8]; exact hr.drewN nq
                  replace hg : Gv b w w8 := by rw [hw8]; exact hg.drewN nq
                  replace hO : OwnB w8 w.heap.size u6 M := by rw [hw8]; exact hO
                  rw [← hw8]
                  clear hw8
                  have c0 := hr.c0
                  have c1 := hr.c1
                  go_wp2_with (go_quiet (first | exact Calls.quiet_of_same (indexByte_c _ _ _ _ HX.out) | exact Calls.quiet_of_same (indexByte_c _ _ _ _ HY.out)))
                  exact ⟨rfl, qpost_no (hg.drewN nq) HQ.out HN.out⟩
                obtain ⟨hx2, hhx⟩ := Option.ne_none_iff_exists'.1 hbad
                have hh16 := (hexC_unhex hhx).2
                have hyv : y = (hx2 : Int) := by rw [← hy, hhx]
                subst hyv
                have f6 : decide ((hx2 : Int) < 0) = false := decide_eq_false (by omega)
                clear hbad
                cases hpb : plainB (byte2 gx hx2) with
                | true =>
                  have HN := Lib.hid (show quotedF q (s.toList.drop p) = none by rw [HD3.out]; exact q_xp h92 h120 hgx hhx hpb _)
                  clear hx hy hgc hhc hgx hhx
                  go_wp2_with fail
                  refine (next_at b s p wr hr hlt hs 92 HC.out).mono ?_
                  rintro e w2 ⟨rfl, hb2⟩
                  replace hO := hO.below hb2
                  replace hr := hr.later hb2
                  replace hg := hg.trans (Gv.of_below hb2)
                  clear hb2
                  go_wp2_with fail
                  refine (next_at b s p w2 hr hlt hs 92 HC.out).mono ?_
                  rintro e w4 ⟨rfl, hb2⟩
                  replace hO := hO.below hb2
                  replace hr := hr.later hb2
                  replace hg := hg.trans (Gv.of_below hb2)
                  clear hb2
                  go_wp2_with fail
                  refine (plainc_any 92 _).mono ?_
                  rintro e w5 ⟨rfl, hb2⟩
                  rw [p92]
                  replace hO := hO.below hb2
                  replace hr := hr.later hb2
                  replace hg := hg.trans (Gv.of_below hb2)
                  clear hb2
                  have c1 := hr.c1
                  have z1 := hr.z1
                  have hr6 := Lr.setTo hr (a' := n1) (x := (p : Int) + 1) (by omega)
                  have hg6 := hg.set_ 1 (.int .i64 ((p : Int) + 1))
                  have hO6 := OwnB.gv hO hbl ((Gv.refl b w5).set_ 1 (.int .i64 ((p : Int) + 1)))
                  go_wp2_with fail
                  clear c1 z1 hr hg hO
                  obtain ⟨w6, hw6⟩ : ∃ w6, w6 = w5.setCell ⟨b, 1, none⟩ (.int .i64 ((p : Int) + 1)) := ⟨_, rfl⟩
                  rw [← hw6] at hr6 hg6 hO6 ⊢
                  clear hw6
                  have hr := hr6
                  have hg := hg6
                  have hO := hO6
                  clear hr6 hg6 hO6
                  refine (next_at b s n1 w6 hr hl1 hs 120 HDD.out).mono ?_
                  rintro e w7 ⟨rfl, hb2⟩
                  replace hO := hO.below hb2
                  replace hr := hr.later hb2
                  replace hg := hg.trans (Gv.of_below hb2)
                  clear hb2
                  have c0 := hr.c0
                  have c1 := hr.c1
                  go_wp2_with (go_quiet (fail))
                  clear c0 c1
                  obtain ⟨w8, hw8⟩ : ∃ w8, w8 = w7.drewN nq := ⟨_, rfl⟩
                  replace hr : Lr w8 b s n1 := by rw [hw8]; exact hr.drewN nq
                  replace hg : Gv b w w8 := by rw [hw8]; exact hg.drewN nq
                  replace hO : OwnB w8 w.heap.size u6 M := by rw [hw8]; exact hO
                  rw [← hw8]
                  clear hw8
                  have c0 := hr.c0
                  have c1 := hr.c1
                  go_wp2_with (go_quiet (first | exact Calls.quiet_of_same (indexByte_c _ _ _ _ HX.out) | exact Calls.quiet_of_same (indexByte_c _ _ _ _ HY.out)))
                  first | rw [or16b hg16 hh16] | rw [or16 hg16 hh16]
                  refine (plainc_any (byte2 gx hx2) _).mono ?_
                  rintro e w10 ⟨rfl, hb2⟩
                  rw [hpb]
                  replace hg := (hg.drewN nq).trans (Gv.of_below hb2)
                  go_wp2_with fail
                  exact ⟨rfl, qpost_no hg HQ.out HN.out⟩
                | false =>
                  have HS := Lib.hid (show QS q (s.toList.drop (a + 1)) (M ++ [byte2 gx hx2]) (s.toList.drop (n3 + 1)) by have h9 := HQ.out; rw [HD3.out] at h9; exact h9.step (quotedF_hex h92 (by simp [h120]) hgx hhx hpb _))
                  clear hx hy hgc hhc hgx hhx
                  go_wp2_with fail
                  refine (next_at b s p wr hr hlt hs 92 HC.out).mono ?_
                  rintro e w2 ⟨rfl, hb2⟩
                  replace hO := hO.below hb2
                  replace hr := hr.later hb2
                  replace hg := hg.trans (Gv.of_below hb2)
                  clear hb2
                  go_wp2_with fail
                  refine (next_at b s p w2 hr hlt hs 92 HC.out).mono ?_
                  rintro e w4 ⟨rfl, hb2⟩
                  replace hO := hO.below hb2
                  replace hr := hr.later hb2
                  replace hg := hg.trans (Gv.of_below hb2)
                  clear hb2
                  go_wp2_with fail
                  refine (plainc_any 92 _).mono ?_
                  rintro e w5 ⟨rfl, hb2⟩
                  rw [p92]
                  replace hO := hO.below hb2
                  replace hr := hr.later hb2
                  replace hg := hg.trans (Gv.of_below hb2)
                  clear hb2
                  have c1 := hr.c1
                  have z1 := hr.z1
                  have hr6 := Lr.setTo hr (a' := n1) (x := (p : Int) + 1) (by omega)
                  have hg6 := hg.set_ 1 (.int .i64 ((p : Int) + 1))
                  have hO6 := OwnB.gv hO hbl ((Gv.refl b w5).set_ 1 (.int .i64 ((p : Int) + 1)))
                  go_wp2_with fail
                  clear c1 z1 hr hg hO
                  obtain ⟨w6, hw6⟩ : ∃ w6, w6 = w5.setCell ⟨b, 1, none⟩ (.int .i64 ((p : Int) + 1)) := ⟨_, rfl⟩
                  rw [← hw6] at hr6 hg6 hO6 ⊢
                  clear hw6
                  have hr := hr6
                  have hg := hg6
                  have hO := hO6
                  clear hr6 hg6 hO6
                  refine (next_at b s n1 w6 hr hl1 hs 120 HDD.out).mono ?_
                  rintro e w7 ⟨rfl, hb2⟩
                  replace hO := hO.below hb2
                  replace hr := hr.later hb2
                  replace hg := hg.trans (Gv.of_below hb2)
                  clear hb2
                  have c0 := hr.c0
                  have c1 := hr.c1
                  go_wp2_with (go_quiet (fail))
                  clear c0 c1
                  obtain ⟨w8, hw8⟩ : ∃ w8, w8 = w7.drewN nq := ⟨_, rfl⟩
                  replace hr : Lr w8 b s n1 := by rw [hw8]; exact hr.drewN nq
                  replace hg : Gv b w w8 := by rw [hw8]; exact hg.drewN nq
                  replace hO : OwnB w8 w.heap.size u6 M := by rw [hw8]; exact hO
                  rw [← hw8]
                  clear hw8
                  have c0 := hr.c0
                  have c1 := hr.c1
                  go_wp2_with (go_quiet (first | exact Calls.quiet_of_same (indexByte_c _ _ _ _ HX.out) | exact Calls.quiet_of_same (indexByte_c _ _ _ _ HY.out)))
                  first | rw [or16b hg16 hh16] | rw [or16 hg16 hh16]
                  refine (plainc_any (byte2 gx hx2) _).mono ?_
                  rintro e w10 ⟨rfl, hb2⟩
                  rw [hpb]
                  replace hg := (hg.drewN nq).trans (Gv.of_below hb2)
                  replace hr := (hr.drewN nq).later hb2
                  replace hO : OwnB w10 w.heap.size u6 M := OwnB.below (show OwnB (w8.drewN nq) w.heap.size u6 M from hO) hb2
                  have HB := Lib.hid (or16b hg16 hh16).symm
                  have HB2 := Lib.hid (or16 hg16 hh16).symm
                  clear hb2
                  go_wp2_with (at_builtin; refine wpList_append_bytes3 rfl (.tmp 122) (.tmp 128) 111 rfl Tryd.underlying111 Tryd.info5 rfl (hO.alloc _) _ [byte2 gx hx2] 1 _ rfl rfl (by first | exact bv_cells_oneI _ _ _ HB.out | exact bv_cells_oneI _ _ _ HB2.out) (by omega) (by have := hg.size; simp; omega) ?_; intro v3 w3 hO3 hg3; have hr3 := Lr.grown (hr.alloc _) (hO.alloc _) hbl hg3; have hgw3 := Gv.grown (hg.alloc _) (hO.alloc _) (Nat.le_refl _) hg3; have c3 := hr3.c1; have z3 := hr3.z1)
                  have hr4 := Lr.setTo hr3 (a' := n3) (x := (n3 : Int)) rfl
                  have hr5 := Lr.setTo hr4 (a' := n3 + 1) (x := (n3 : Int) + 1) (by omega)
                  have hg5 := (hgw3.set_ 1 (.int .i64 (n3 : Int))).set_ 1 (.int .i64 ((n3 : Int) + 1))
                  have hO5 := OwnB.gv hO3 hbl (((Gv.refl b w3).set_ 1 (.int .i64 (n3 : Int))).set_ 1 (.int .i64 ((n3 : Int) + 1)))
                  refine ⟨⟨n3 + 1, _, by omega, hO5, hr5, hg5, by simp; omega, Lib.hid HS.out⟩, ?_⟩
                  rw [posOf_lr hr5, PR.out]
                  omega
              · have HN := Lib.hid (show quotedF q (s.toList.drop p) = none by
                  rw [HD.out, HD2.out]
                  exact q_short h92 h120 (by rw [List.length_drop, size_of]; omega))
                have e43 : (n1 : Int) + 2 = (n3 : Int) := by omega
                have w43 : IntKind.i64.wrap (n3 : Int) = (n3 : Int) := wrap_small _ (by omega) (by omega)
                have f4 : decide ((s.size : Int) ≤ (n3 : Int)) = true := decide_eq_true (by omega)
                go_wp2_with fail
                refine (next_at b s p wr hr hlt hs 92 HC.out).mono ?_
                rintro e w2 ⟨rfl, hb2⟩
                replace hO := hO.below hb2
                replace hr := hr.later hb2
                replace hg := hg.trans (Gv.of_below hb2)
                clear hb2
                go_wp2_with fail
                refine (next_at b s p w2 hr hlt hs 92 HC.out).mono ?_
                rintro e w4 ⟨rfl, hb2⟩
                replace hO := hO.below hb2
                replace hr := hr.later hb2
                replace hg := hg.trans (Gv.of_below hb2)
                clear hb2
                go_wp2_with fail
                refine (plainc_any 92 _).mono ?_
                rintro e w5 ⟨rfl, hb2⟩
                rw [p92]
                replace hO := hO.below hb2
                replace hr := hr.later hb2
                replace hg := hg.trans (Gv.of_below hb2)
                clear hb2
                have c1 := hr.c1
                have z1 := hr.z1
                have hr6 := Lr.setTo hr (a' := n1) (x := (p : Int) + 1) (by omega)
                have hg6 := hg.set_ 1 (.int .i64 ((p : Int) + 1))
                have hO6 := OwnB.gv hO hbl ((Gv.refl b w5).set_ 1 (.int .i64 ((p : Int) + 1)))
                go_wp2_with fail
                clear c1 z1 hr hg hO
                obtain ⟨w6, hw6⟩ : ∃ w6, w6 = w5.setCell ⟨b, 1, none⟩ (.int .i64 ((p : Int) + 1)) := ⟨_, rfl⟩
                rw [← hw6] at hr6 hg6 hO6 ⊢
                clear hw6
                have hr := hr6
                have hg := hg6
                have hO := hO6
                clear hr6 hg6 hO6
                refine (next_at b s n1 w6 hr hl1 hs 120 HDD.out).mono ?_
                rintro e w7 ⟨rfl, hb2⟩
                replace hO := hO.below hb2
                replace hr := hr.later hb2
                replace hg := hg.trans (Gv.of_below hb2)
                clear hb2
                have c0 := hr.c0
                have c1 := hr.c1
                go_wp2_with (go_quiet (fail))
                exact ⟨rfl, qpost_no (hg.drewN nq) HQ.out HN.out⟩
            · have f3 : ((d.toNat : Int) == 120) = false := u8_neb (d := 120) rfl hx
              have HN := Lib.hid (show quotedF q (s.toList.drop p) = none by rw [HD.out, HD2.out]; exact q_sl_odd h92 hd1 hd2 hx _)
              clear hd1 hd2 hx
              go_wp2_with fail
              refine (next_at b s p wr hr hlt hs 92 HC.out).mono ?_
              rintro e w2 ⟨rfl, hb2⟩
              replace hO := hO.below hb2
              replace hr := hr.later hb2
              replace hg := hg.trans (Gv.of_below hb2)
              clear hb2
              go_wp2_with fail
              refine (next_at b s p w2 hr hlt hs 92 HC.out).mono ?_
              rintro e w4 ⟨rfl, hb2⟩
              replace hO := hO.below hb2
              replace hr := hr.later hb2
              replace hg := hg.trans (Gv.of_below hb2)
              clear hb2
              go_wp2_with fail
              refine (plainc_any 92 _).mono ?_
              rintro e w5 ⟨rfl, hb2⟩
              rw [p92]
              replace hO := hO.below hb2
              replace hr := hr.later hb2
              replace hg := hg.trans (Gv.of_below hb2)
              clear hb2
              have c1 := hr.c1
              have z1 := hr.z1
              have hr6 := Lr.setTo hr (a' := n1) (x := (p : Int) + 1) (by omega)
              have hg6 := hg.set_ 1 (.int .i64 ((p : Int) + 1))
              have hO6 := OwnB.gv hO hbl ((Gv.refl b w5).set_ 1 (.int .i64 ((p : Int) + 1)))
              go_wp2_with fail
              clear c1 z1 hr hg hO
              obtain ⟨w6, hw6⟩ : ∃ w6, w6 = w5.setCell ⟨b, 1, none⟩ (.int .i64 ((p : Int) + 1)) := ⟨_, rfl⟩
              rw [← hw6] at hr6 hg6 hO6 ⊢
              clear hw6
              have hr := hr6
              have hg := hg6
              have hO := hO6
              clear hr6 hg6 hO6
              refine (next_at b s n1 w6 hr hl1 hs d HDD.out).mono ?_
              rintro e w7 ⟨rfl, hb2⟩
              replace hO := hO.below hb2
              replace hr := hr.later hb2
              replace hg := hg.trans (Gv.of_below hb2)
              clear hb2
              go_wp2_with fail
              exact ⟨rfl, qpost_no hg HQ.out HN.out⟩
          · have hn : n1 = s.size := by omega
            have HN := Lib.hid (show quotedF q (s.toList.drop p) = none by rw [HD.out, drop_end s hl1]; exact q_sl_end h92)
            have f1 : ((0 : Int) == (q.toNat : Int)) = false := by rcases hq with rfl | rfl <;> decide
            go_wp2_with fail
            refine (next_at b s p wr hr hlt hs 92 HC.out).mono ?_
            rintro e w2 ⟨rfl, hb2⟩
            replace hO := hO.below hb2
            replace hr := hr.later hb2
            replace hg := hg.trans (Gv.of_below hb2)
            clear hb2
            go_wp2_with fail
            refine (next_at b s p w2 hr hlt hs 92 HC.out).mono ?_
            rintro e w4 ⟨rfl, hb2⟩
            replace hO := hO.below hb2
            replace hr := hr.later hb2
            replace hg := hg.trans (Gv.of_below hb2)
            clear hb2
            go_wp2_with fail
            refine (plainc_any 92 _).mono ?_
            rintro e w5 ⟨rfl, hb2⟩
            rw [p92]
            replace hO := hO.below hb2
            replace hr := hr.later hb2
            replace hg := hg.trans (Gv.of_below hb2)
            clear hb2
            have c1 := hr.c1
            have z1 := hr.z1
            have hr6 := Lr.setTo hr (a' := n1) (x := (p : Int) + 1) (by omega)
            have hg6 := hg.set_ 1 (.int .i64 ((p : Int) + 1))
            have hO6 := OwnB.gv hO hbl ((Gv.refl b w5).set_ 1 (.int .i64 ((p : Int) + 1)))
            go_wp2_with fail
            clear c1 z1 hr hg hO
            obtain ⟨w6, hw6⟩ : ∃ w6, w6 = w5.setCell ⟨b, 1, none⟩ (.int .i64 ((p : Int) + 1)) := ⟨_, rfl⟩
            rw [← hw6] at hr6 hg6 hO6 ⊢
            clear hw6
            have hr := hr6
            have hg := hg6
            have hO := hO6
            clear hr6 hg6 hO6
            refine (next_end b s n1 w6 hr hn hs).mono ?_
            rintro e w7 ⟨rfl, hb2⟩
            replace hO := hO.below hb2
            replace hr := hr.later hb2
            replace hg := hg.trans (Gv.of_below hb2)
            clear hb2
            go_wp2_with fail
            exact ⟨rfl, qpost_no hg HQ.out HN.out⟩
        · have e9 : ((c.toNat : Int) != 92) = true := by have h := u8_neb (d := 92) (n := 92) rfl h9; simpa [bne] using h
          have HS := Lib.hid (show QS q (s.toList.drop (a + 1)) (M ++ [c]) (s.toList.drop (p + 1)) by have h := HQ.out; rw [HD.out] at h; exact h.step (quotedF_lit NQ.out HP.out h9 _))
          clear h9
          go_wp2_with fail
          refine (next_at b s p wr hr hlt hs c HC.out).mono ?_
          rintro e w2 ⟨rfl, hb2⟩
          replace hO := hO.below hb2
          replace hr := hr.later hb2
          replace hg := hg.trans (Gv.of_below hb2)
          clear hb2
          go_wp2_with fail
          refine (next_at b s p w2 hr hlt hs c HC.out).mono ?_
          rintro e w4 ⟨rfl, hb2⟩
          replace hO := hO.below hb2
          replace hr := hr.later hb2
          replace hg := hg.trans (Gv.of_below hb2)
          clear hb2
          go_wp2_with fail
          refine (plainc_any c _).mono ?_
          rintro e w5 ⟨rfl, hb2⟩
          rw [HP.out]
          replace hO := hO.below hb2
          replace hr := hr.later hb2
          replace hg := hg.trans (Gv.of_below hb2)
          clear hb2
          go_wp2_with (at_builtin; refine wpList_append_bytes3 rfl (.tmp 42) (.tmp 44) 111 rfl Tryd.underlying111 Tryd.info5 rfl (hO.alloc _) _ [c] 1 _ rfl rfl (bv_cells_one _ c _) (by omega) (by have := hg.size; simp; omega) ?_; intro v3 w3 hO3 hg3; have hr3 := Lr.grown (hr.alloc _) (hO.alloc _) hbl hg3; have hgw3 := Gv.grown (hg.alloc _) (hO.alloc _) (Nat.le_refl _) hg3; have c3 := hr3.c1; have z3 := hr3.z1)
          have hr4 := Lr.setTo hr3 (a' := p + 1) (x := (p : Int) + 1) (by omega)
          have hg4 := hgw3.set_ 1 (.int .i64 ((p : Int) + 1))
          have hO4 := OwnB.gv hO3 hbl ((Gv.refl b w3).set_ 1 (.int .i64 ((p : Int) + 1)))
          refine ⟨⟨p + 1, _, by omega, hO4, hr4, hg4, by simp; omega, Lib.hid HS.out⟩, ?_⟩
          rw [posOf_lr hr4, PR.out]
          omega
    · have hpe : p = s.size := by omega
      have HN := Lib.hid (show quotedF q (s.toList.drop p) = none by rw [drop_end s hlt]; exact q_end q)
      have e1 : ((0 : Int) != (q.toNat : Int)) = true := by rcases hq with rfl | rfl <;> decide
      go_wp2_with fail
      refine (next_end b s p wr hr hpe hs).mono ?_
      rintro e w2 ⟨rfl, hb2⟩
      replace hO := hO.below hb2
      replace hr := hr.later hb2
      replace hg := hg.trans (Gv.of_below hb2)
      clear hb2
      go_wp2_with fail
      refine (next_end b s p w2 hr hpe hs).mono ?_
      rintro e w4 ⟨rfl, hb2⟩
      replace hO := hO.below hb2
      replace hr := hr.later hb2
      replace hg := hg.trans (Gv.of_below hb2)
      clear hb2
      go_wp2_with fail
      refine (plainc_any 0 _).mono ?_
      rintro e w5 ⟨rfl, hb2⟩
      rw [show plainB 0 = false by decide]
      replace hO := hO.below hb2
      replace hr := hr.later hb2
      replace hg := hg.trans (Gv.of_below hb2)
      clear hb2
      go_wp2_with fail
      exact ⟨rfl, qpost_no hg HQ.out HN.out⟩
end Go.Proofs.YtcgphlilijeifaaDoor.L
end
section
/-
  Reading a tuple's items, step by step, in plain words.
-/
namespace Go.Proofs.YtcgphlilijeifaaDoor.L
open V (Pt)

/-- With what has been read ahead. -/
def behindF (qs : List Pt) : Res (List Pt) → Res (List Pt)
  | .ok l r => .ok (qs ++ l) r
  | .bad n => .bad n
/-- qs has been read from S on, T is what comes: an item, behind it k more at most. -/
def IS (pf : List UInt8 → Res Pt) (S : List UInt8) (qs : List Pt) (k : Nat) (T : List UInt8) : Prop := itemsF pf 1023 S = behindF qs (itemsF pf k T) ∧ k + qs.length = 1023
theorem IS.start (pf : List UInt8 → Res Pt) (S : List UInt8) : IS pf S [] 1023 S := by
  refine ⟨?_, rfl⟩
  cases itemsF pf 1023 S <;> rfl
theorem IS.bad {pf : List UInt8 → Res Pt} {S T : List UInt8} {qs : List Pt} {k n : Nat} (h : IS pf S qs k T) (e : pf T = .bad n) : itemsF pf 1023 S = .bad n := by
  rw [h.1, itemsF_eq, e]; rfl
theorem IS.close {pf : List UInt8 → Res Pt} {S T r : List UInt8} {qs : List Pt} {k : Nat} {q : Pt} (h : IS pf S qs k T) (e : pf T = .ok q (41 :: r)) : itemsF pf 1023 S = .ok (qs ++ [q]) r := by
  rw [h.1, itemsF_eq, e]; rfl
theorem IS.next {pf : List UInt8 → Res Pt} {S T r : List UInt8} {qs : List Pt} {k : Nat} {q : Pt} (h : IS pf S qs (k + 1) T) (e : pf T = .ok q (32 :: r)) : IS pf S (qs ++ [q]) k r := by
  refine ⟨?_, by have := h.2; rw [List.length_append, List.length_singleton]; omega⟩
  rw [h.1, itemsF_eq, e]
  simp only
  cases itemsF pf k r <;> simp [behindF]
theorem IS.full {pf : List UInt8 → Res Pt} {S T r : List UInt8} {qs : List Pt} {q : Pt} (h : IS pf S qs 0 T) (e : pf T = .ok q (32 :: r)) : itemsF pf 1023 S = .bad (r.length + 1) := by
  rw [h.1, itemsF_eq, e]; rfl
theorem IS.stop {pf : List UInt8 → Res Pt} {S T : List UInt8} {qs : List Pt} {k : Nat} {q : Pt} (h : IS pf S qs k T) (e : pf T = .ok q []) : itemsF pf 1023 S = .bad 0 := by
  rw [h.1, itemsF_eq, e]; rfl
theorem IS.odd {pf : List UInt8 → Res Pt} {S T r : List UInt8} {qs : List Pt} {k : Nat} {q : Pt} {c : UInt8} (h : IS pf S qs k T) (e : pf T = .ok q (c :: r)) (h1 : c ≠ 41) (h2 : c ≠ 32) : itemsF pf 1023 S = .bad (r.length + 1) := by
  rw [h.1, itemsF_eq, e]
  split
  · rename_i he; cases he
  · rename_i he; injection he with _ he; injection he with he _; exact absurd he h1
  · rename_i he; injection he with _ he; injection he with he _; exact absurd he h2
  · rename_i he; injection he with _ he; subst he; rfl
theorem open_shut (pf : List UInt8 → Res Pt) (r : List UInt8) : openF pf (41 :: r) = .ok (.mk 7 false false ⟨#[]⟩ ⟨#[]⟩ []) r := by simp [openF]
theorem open_ok {pf : List UInt8 → Res Pt} {S r : List UInt8} {l : List Pt} (h : S.head? ≠ some 41) (e : itemsF pf 1023 S = .ok l r) : openF pf S = .ok (.mk 7 false false ⟨#[]⟩ ⟨#[]⟩ l) r := by unfold openF; rw [if_neg h, e]
theorem open_bad {pf : List UInt8 → Res Pt} {S : List UInt8} {n : Nat} (h : S.head? ≠ some 41) (e : itemsF pf 1023 S = .bad n) : openF pf S = .bad n := by unfold openF; rw [if_neg h, e]
end Go.Proofs.YtcgphlilijeifaaDoor.L
end
section
/-
  The reader of a text: what the reading of a part comes to.
-/
namespace Go.Proofs.YtcgphlilijeifaaDoor.L
open Go.RowKit
open V (Pt)

/-- Parse, of what can not be read. -/
theorem parse_not (s : ByteArray) (w : World) (hs : s.size ≤ 9223372036854775807) (h : parseE s.toList ≠ 0) :
    Calls Tryd.prog 26 #[.string s] w fun e w' => e = .returned (.tuple #[.agg #[.bool false, .string ⟨#[]⟩], .int .i64 (parseE s.toList)]) ∧ Below w.heap.size w w' := by
  refine (parse_any s w hs).mono ?_
  rintro e w' ⟨q, rfl, hq, hb1⟩
  have hq' := hq.out
  rw [if_neg h] at hq'
  obtain rfl := of_list hq'
  have h0 : (parseE s.toList == 0) = false := by simpa using h
  rw [h0]
  exact ⟨rfl, hb1⟩

/-- What the reading of a part comes to. -/
def PPost (b : Nat) (s : ByteArray) (R : Res Pt) (w : World) (e : Ending) (w' : World) : Prop :=
  Gv b w w' ∧ ((∃ n, R = .bad n ∧ e = wrongAt ((s.size - n : Nat) : Int)) ∨
    ∃ (p : Pt) (r : List UInt8) (v : Value) (k : Nat), R = .ok p r ∧ e = .returned (.agg #[.int .u8 p.kind, .bool p.yes, .bool p.neg, .string p.mag, .string p.raw, v]) ∧ V.OwnI w' false w.heap.size w'.heap.size p.items v ∧ k ≤ s.size ∧ r = s.toList.drop k ∧ Lr w' b s k)
theorem ppost_bad {b : Nat} {s : ByteArray} {R : Res Pt} {w w' : World} {n a : Nat} (hR : R = .bad n) (hg : Gv b w w') (hn : n + a = s.size) : PPost b s R w (wrongAt (a : Int)) w' :=
  ⟨hg, .inl ⟨n, hR, by rw [show s.size - n = a by omega]⟩⟩
theorem ppost_flat {b : Nat} {s : ByteArray} {R : Res Pt} {w w' : World} {p : Pt} {r : List UInt8} {k : Nat} (hR : R = .ok p r) (hi : p.items = []) (hg : Gv b w w') (hk : k ≤ s.size) (hr : r = s.toList.drop k) (hL : Lr w' b s k) :
    PPost b s R w (.returned (.agg #[.int .u8 p.kind, .bool p.yes, .bool p.neg, .string p.mag, .string p.raw, .slice none 0 0])) w' :=
  ⟨hg, .inr ⟨p, r, _, k, hR, rfl, by rw [hi]; exact .nil _ _ rfl, hk, hr, hL⟩⟩

def Z6 : Array Value := #[.int .u8 0, .bool false, .bool false, .string ⟨#[]⟩, .string ⟨#[]⟩, .slice none 0 0]
theorem e27_new (w : World) : Empty27 (w.alloc (.cells #[.int .u8 0, .bool false, .bool false, .string ⟨#[]⟩, .string ⟨#[]⟩, .slice none 0 0] 27)) w.heap.size := Blk.new w 27 _
theorem Empty27.cells {w : World} {T : Nat} (h : Empty27 w T) : w.cell? ⟨T, 0, none⟩ = some (.int .u8 0) ∧ w.cell? ⟨T, 1, none⟩ = some (.bool false) ∧ w.cell? ⟨T, 2, none⟩ = some (.bool false) ∧ w.cell? ⟨T, 3, none⟩ = some (.string ⟨#[]⟩) ∧ w.cell? ⟨T, 4, none⟩ = some (.string ⟨#[]⟩) ∧
    w.cell? ⟨T, 5, none⟩ = some (.slice none 0 0) ∧ w.frozen? ⟨T, 0, none⟩ = false ∧ w.frozen? ⟨T, 1, none⟩ = false ∧ w.frozen? ⟨T, 2, none⟩ = false ∧ w.frozen? ⟨T, 3, none⟩ = false ∧ w.frozen? ⟨T, 4, none⟩ = false ∧ w.frozen? ⟨T, 5, none⟩ = false ∧ T < w.heap.size :=
  ⟨Blk.cell h 0, Blk.cell h 1, Blk.cell h 2, Blk.cell h 3, Blk.cell h 4, Blk.cell h 5, Blk.frozen h 0, Blk.frozen h 1, Blk.frozen h 2, Blk.frozen h 3, Blk.frozen h 4, Blk.frozen h 5, Blk.lt h⟩
theorem Empty27.later {w w' : World} {T : Nat} (h : Empty27 w T) (hb : Below w.heap.size w w') : Empty27 w' T := Blk.below h hb (Blk.lt h)
theorem Empty27.gv {w w' : World} {T b : Nat} (h : Empty27 w T) (hne : T ≠ b) (hb : Gv b w w') : Empty27 w' T := hb.blk hne h
theorem Empty27.set {w : World} {T b i : Nat} {v : Value} (h : Empty27 w T) (hne : T ≠ b) : Empty27 (w.setCell ⟨b, i, none⟩ v) T := (Below.heap_setCell _ _ _ _ hne).trans h
theorem Lr.other {w : World} {b T i : Nat} {s : ByteArray} {a : Nat} {v : Value} (h : Lr w b s a) (hne : b ≠ T) : Lr (w.setCell ⟨T, i, none⟩ v) b s a := (Below.heap_setCell _ _ _ _ hne).trans h
theorem Gv.undrew {b : Nat} {w w' : World} (h : Gv b w.drew w') : Gv b w w' := ⟨h.os, h.tape, h.output, h.size, h.block⟩
theorem u8_nat {c d : UInt8} {n : Nat} (hd : d.toNat = n) (h : c ≠ d) : ((c.toNat : Int) == (n : Int)) = false := by
  rw [← hd]
  exact u8_beqf h
theorem len_drop (s : ByteArray) {a : Nat} (ha : a ≤ s.size) : (s.toList.drop a).length + a = s.size := by rw [List.length_drop, size_of]; omega
theorem extract_text {s : ByteArray} {a n : Nat} {c : UInt8} {t : List UInt8} (h : a < s.size) (hc : s[a] = c) (ht : (s.toList.drop (a + 1)).takeWhile isDigit = t) (hn : t.length = n) : (s.extract a (a + 1 + n)).toList = c :: t := by
  rw [Lib.extract_toList, ← Lib.toList_data, show a + 1 + n - a = n + 1 by omega, drop2 h hc, List.take_succ_cons, ← hn, ← ht, tw_take]
theorem num_rest {s : ByteArray} {a : Nat} {f : UInt8 → Bool} : (s.toList.drop a).dropWhile f = s.toList.drop (a + ((s.toList.drop a).takeWhile f).length) := by
  have h := List.takeWhile_append_dropWhile (p := f) (l := s.toList.drop a)
  rw [← List.drop_drop]
  conv => rhs; rw [← h]
  rw [List.drop_left']
  rw [h]

end Go.Proofs.YtcgphlilijeifaaDoor.L
end
section
/-
  The reader of a text: numbers.
-/
namespace Go.Proofs.YtcgphlilijeifaaDoor.L
open Go.RowKit
open V (Pt)

set_option maxRecDepth 100000 in
set_option maxHeartbeats 4000000 in
theorem rpart_num (d : Int) (b : Nat) (s : ByteArray) (a : Nat) (w : World) (hr : Lr w b s a) (ha : a < s.size) (hs : s.size ≤ 65536) (c : UInt8) (hc : s[a] = c) (hcc : c = 45 ∨ isDigit c = true) :
    Calls Tryd.prog 80 #[.pointer (some ⟨b, 0, none⟩), .int .i64 d] w (PPost b s (numF (c :: (s.toList.drop (a + 1)).takeWhile isDigit) ((s.toList.drop (a + 1)).dropWhile isDigit) (s.toList.drop a)) w) := by
  have HC := Lib.hid hc
  have hbl : b < w.heap.size := Blk.lt hr
  obtain ⟨t, ht⟩ : ∃ t, (s.toList.drop (a + 1)).takeWhile isDigit = t := ⟨_, rfl⟩
  have htl := takeWhile_len_le s isDigit (a + 1) (by omega)
  obtain ⟨n, hn⟩ : ∃ n, t.length = n := ⟨_, rfl⟩
  rw [ht, hn] at htl
  have HE := Lib.hid (extract_text ha hc ht hn)
  have HR := Lib.hid (show (s.toList.drop (a + 1)).dropWhile isDigit = s.toList.drop (a + 1 + n) by rw [num_rest, ht, hn])
  have HL := Lib.hid (show ((s.toList.drop (a + 1)).takeWhile isDigit).length = n by rw [ht, hn])
  have HD := Lib.hid (len_drop s (Nat.le_of_lt ha))
  rw [ht]
  clear hc ht
  have hq : ((c.toNat : Int) == 45) = true ∨ (((c.toNat : Int) == 45) = false ∧ decide ((48 : Int) ≤ (c.toNat : Int)) = true ∧ decide ((c.toNat : Int) ≤ 57) = true) := by
    rcases hcc with rfl | h
    · exact .inl (by decide)
    · simp [isDigit] at h
      exact .inr ⟨by simp; omega, by simp; omega, by simp; omega⟩
  clear hcc
  go_enter Tryd.func80, Tryd.ntmps80
  rcases hq with q1 | ⟨q1, q2, q3⟩
  all_goals
    have c1 := (hr.alloc (.cells #[.int .u8 0, .bool false, .bool false, .string ⟨#[]⟩, .string ⟨#[]⟩, .slice none 0 0] 27)).c1
    go_wp2_with fail
    refine (next_at b s a _ (hr.alloc _) ha hs c HC.out).mono ?_
    rintro e w1 ⟨rfl, hb1⟩
    have hE := (e27_new w).later hb1
    have hr1 := (hr.alloc _).later hb1
    have hg1 := ((Gv.refl b w).alloc (.cells #[.int .u8 0, .bool false, .bool false, .string ⟨#[]⟩, .string ⟨#[]⟩, .slice none 0 0] 27)).trans (Gv.of_below (b := b) hb1)
    clear hr hb1 c1
    have c1 := hr1.c1
    have z1 := hr1.z1
    go_wp2_with fail
    have hr2 := Lr.setTo hr1 (a' := a + 1) (x := (a : Int) + 1) (by omega)
    have hE2 : Empty27 (w1.setCell ⟨b, 1, none⟩ (.int .i64 ((a : Int) + 1))) w.heap.size := hE.set (by omega)
    have hg2 := hg1.set_ 1 (.int .i64 ((a : Int) + 1))
    refine (row_any b s digS isDigit dig_is (a + 1) _ hr2 (by omega) hs).mono ?_
    rintro e w3 ⟨p, rfl, _, hr3, hg3⟩
    rw [HL.out] at hr3
    have hE3 := hE2.gv (by omega) hg3
    replace hg3 := hg2.trans hg3
    obtain ⟨m, hm⟩ : ∃ m, a + 1 + n = m := ⟨_, rfl⟩
    rw [hm] at hr3
    clear hr1 hg1 hr2 hg2 hE c1 z1
    have c0 := hr3.c0
    have c1 := hr3.c1
    have hb3 : b < w3.heap.size := Blk.lt hr3
    have hle1 : a ≤ m := by omega
    have hle2 : m ≤ s.size := by omega
    go_wp2_with fail
    have hc3 : (s.extract a m).toList = c :: t := by rw [← hm]; exact HE.out
    have hsz3 : (s.extract a m).size ≤ 9223372036854775807 := by rw [← size_of, hc3, List.length_cons]; omega
    by_cases hp0 : parseE (c :: t) = 0
    · have HP := Lib.hid (fun w => parse_yes (s.extract a m) w hsz3 (by rw [hc3]; exact hp0) (neg (c :: t)) (by rw [hc3]))
      have HN := Lib.hid (show numF (c :: t) ((s.toList.drop (a + 1)).dropWhile isDigit) (s.toList.drop a) = .ok (.mk 2 false (neg (c :: t)) ⟨(magN (dv (ds (c :: t)))).toArray⟩ ⟨#[]⟩ []) (s.toList.drop m) by unfold numF; rw [if_pos hp0, HR.out, hm])
      have HC3 := Lib.hid hc3
      have n0 : w.heap.size < w3.heap.size := Blk.lt hE3
      have n1 : w.heap.size ≠ w3.heap.size := by omega
      have n2 : w3.heap.size ≠ w.heap.size := by omega
      clear hsz3 hc3 hp0
      go_region_law (go_simp; go_at_call 26; refine (HP.out _).mono ?_; rintro e w4 ⟨q, rfl, hq, hb4⟩; first
        | (have y0 : w4.cell? ⟨w3.heap.size, 0, none⟩ = some (.bool false) := (hb4.cell (p := ⟨w3.heap.size, 0, none⟩) (by simp)).trans (by simp)
           have y1 : w4.cell? ⟨w3.heap.size, 1, none⟩ = some (.string ⟨#[]⟩) := (hb4.cell (p := ⟨w3.heap.size, 1, none⟩) (by simp)).trans (by simp)
           have y2 : w4.frozen? ⟨w3.heap.size, 0, none⟩ = false := (hb4.frozen (p := ⟨w3.heap.size, 0, none⟩) (by simp)).trans (by simp)
           have y3 : w4.frozen? ⟨w3.heap.size, 1, none⟩ = false := (hb4.frozen (p := ⟨w3.heap.size, 1, none⟩) (by simp)).trans (by simp)
           have hb5 : Below w3.heap.size w3 w4 := ((Below.refl _ w3).drew.alloc (Nat.le_refl _) _).trans (hb4.mono (by simp))
           have hls : w3.heap.size < w4.heap.size := World.block_lt_of_cell? w4 _ y0)
        | have hb5 := V.undrew hb4)
      all_goals
        have HQ := Lib.hid (show q = ⟨(magN (dv (ds (c :: t)))).toArray⟩ by have := hq.out; rw [HC3.out] at this; exact of_list this)
        have hE4 := hE3.later hb5
        have hr4 := hr3.later hb5
        have hg4 := hg3.trans (Gv.of_below (b := b) hb5)
        clear hb4 hb5 hE3 hr3 hg3 hq c0 c1
        first
          | (obtain ⟨w5, hw5⟩ : ∃ w5, w5 = (w4.setCell ⟨w3.heap.size, 0, none⟩ (.bool (neg (c :: t)))).setCell ⟨w3.heap.size, 1, none⟩ (.string q) := ⟨_, rfl⟩
             rw [← hw5]
             have hE5 : Empty27 w5 w.heap.size := by rw [hw5]; exact Empty27.set (Empty27.set hE4 n1) n1
             have hr5 : Lr w5 b s m := by rw [hw5]; exact Lr.other (Lr.other hr4 (by omega)) (by omega)
             have hg5 : Gv b w w5 := by rw [hw5]; exact (hg4.setNew (Nat.le_of_lt n0) 0 _).setNew (Nat.le_of_lt n0) 1 _
             have x0 : w5.cell? ⟨w3.heap.size, 0, none⟩ = some (.bool (neg (c :: t))) := by rw [hw5]; simp [go_sem, y0, y1]
             have x1 : w5.cell? ⟨w3.heap.size, 1, none⟩ = some (.string q) := by rw [hw5]; simp [go_sem, y0, y1]
             clear hw5 y0 y1 y2 y3 hls)
          | (obtain ⟨w5, hw5⟩ : ∃ w5, w5 = w4.alloc (.cells #[.bool (neg (c :: t)), .string q] 24) := ⟨_, rfl⟩
             rw [← hw5]
             have hE5 : Empty27 w5 w.heap.size := by rw [hw5]; exact hE4.later ((Below.refl _ _).alloc (Nat.le_refl _) _)
             have hr5 : Lr w5 b s m := by rw [hw5]; exact hr4.alloc _
             have hg5 : Gv b w w5 := by rw [hw5]; exact hg4.alloc _
             have x0 : w5.cell? ⟨w4.heap.size, 0, none⟩ = some (.bool (neg (c :: t))) := by rw [hw5]; simp [go_sem]
             have x1 : w5.cell? ⟨w4.heap.size, 1, none⟩ = some (.string q) := by rw [hw5]; simp [go_sem]
             clear hw5)
        clear hE4 hr4 hg4
        obtain ⟨c0, c1, c2, c3, c4, c5, z0, z1, z2, z3, z4, z5, hlt⟩ := hE5.cells
        go_wp2_with fail
        have hq := HQ.out
        clear HQ
        subst hq
        exact bodyPost_ret (v := .agg #[.int .u8 2, .bool false, .bool (neg (c :: t)), .string ⟨(magN (dv (ds (c :: t)))).toArray⟩, .string ⟨#[]⟩, .slice none 0 0]) (by simp [results, Tryd.results80, go_sem, c0, c1, c2, c3, c4, c5]) rfl
          (ppost_flat HN.out rfl (six_gv hg5 (Nat.le_refl _) _ _ _ _ _ _) hle2 rfl (six_lr hr5 (by omega) _ _ _ _ _ _))
    · obtain ⟨E, hE0⟩ : ∃ E, parseE (c :: t) = E := ⟨_, rfl⟩
      have HP := Lib.hid (fun w => parse_not (s.extract a m) w hsz3 (by rw [hc3]; exact hp0))
      rw [hc3, hE0] at HP
      have HN := Lib.hid (show numF (c :: t) ((s.toList.drop (a + 1)).dropWhile isDigit) (s.toList.drop a) = .bad (s.toList.drop a).length by unfold numF; rw [if_neg hp0])
      have f1 : (E != 0) = true := by rw [hE0] at hp0; simpa using hp0
      have n0 : w.heap.size < w3.heap.size := Blk.lt hE3
      have n1 : w.heap.size ≠ w3.heap.size := by omega
      have n2 : w3.heap.size ≠ w.heap.size := by omega
      clear hsz3 hc3 hp0 hE0
      go_region_law (go_simp; go_at_call 26; refine (HP.out _).mono ?_; rintro e w4 ⟨rfl, hb4⟩; first
        | (have y0 : w4.cell? ⟨w3.heap.size, 0, none⟩ = some (.bool false) := (hb4.cell (p := ⟨w3.heap.size, 0, none⟩) (by simp)).trans (by simp)
           have y1 : w4.cell? ⟨w3.heap.size, 1, none⟩ = some (.string ⟨#[]⟩) := (hb4.cell (p := ⟨w3.heap.size, 1, none⟩) (by simp)).trans (by simp)
           have y2 : w4.frozen? ⟨w3.heap.size, 0, none⟩ = false := (hb4.frozen (p := ⟨w3.heap.size, 0, none⟩) (by simp)).trans (by simp)
           have y3 : w4.frozen? ⟨w3.heap.size, 1, none⟩ = false := (hb4.frozen (p := ⟨w3.heap.size, 1, none⟩) (by simp)).trans (by simp)
           have hb5 : Below w3.heap.size w3 w4 := ((Below.refl _ w3).drew.alloc (Nat.le_refl _) _).trans (hb4.mono (by simp))
           have hls : w3.heap.size < w4.heap.size := World.block_lt_of_cell? w4 _ y0)
        | have hb5 := V.undrew hb4)
      all_goals
        have hg4 := hg3.trans (Gv.of_below (b := b) hb5)
        clear hb4 hb5 hE3 hr3 hg3 c0 c1
        go_wp2_with fail
        first
          | exact ⟨rfl, ppost_bad HN.out hg4 HD.out⟩
          | exact ⟨rfl, ppost_bad HN.out (hg4.alloc _) HD.out⟩
          | exact ⟨rfl, ppost_bad HN.out ((hg4.setNew (Nat.le_of_lt n0) 0 _).setNew (Nat.le_of_lt n0) 1 _) HD.out⟩
end Go.Proofs.YtcgphlilijeifaaDoor.L
end
