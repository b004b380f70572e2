import Derived.Test.YtcgphlilijeifaaDoorLitPrintsG21
import Derived.Test.YtcgphlilijeifaaDoorLitPrintsG3
/-
  The contract of nat.Parse: every text.
-/
namespace Go.Proofs.YtcgphlilijeifaaDoor
open Go.RowKit

theorem trimPrefix_ds (l : List UInt8) : Lib.trimPrefix l [45] = ds l := by
  cases l with
  | nil => rfl
  | cons c r =>
    by_cases hc : c = 45
    · subst hc; rfl
    · have h2 : ¬ 45 = c := fun e => hc e.symm
      simp [Lib.trimPrefix, Lib.hasPrefix, ds, neg, List.isPrefixOf, hc, h2]

theorem trimPrefix_c (s : ByteArray) (w : World) :
    Calls Tryd.prog 62 #[.string s, .string ⟨#[45]⟩] w fun e w' => ∃ p : ByteArray, e = .returned (.string p) ∧ Hid (p.toList = ds s.toList) ∧ p.size ≤ s.size ∧ w = w' := by
  refine (Tryd.strings_TrimPrefix s ⟨#[45]⟩ w).mono fun e w' ⟨he, hw⟩ => ?_
  have h : (⟨(Lib.trimPrefix s.data.toList [45]).toArray⟩ : ByteArray).toList = ds s.toList := by
    rw [ByteArray.toList_mk, Lib.toList_data]
    exact trimPrefix_ds _
  exact ⟨_, he, h, by rw [← size_of, ← size_of, h]; exact ds_length _, hw.symm⟩

theorem trim_c (p : ByteArray) (w : World) (hp : p.size ≤ 9223372036854775807) :
    Calls Tryd.prog 63 #[.string p, .string ⟨#[48, 49, 50, 51, 52, 53, 54, 55, 56, 57]⟩] w fun e w' => ∃ q : ByteArray, e = .returned (.string q) ∧ Hid (q.toList = Lib.trimS p.toList nine) ∧ Below w.heap.size w w' :=
  (Any.strings_Trim_laid Tryd.lays160 (by kernel_rfl) p ⟨#[48, 49, 50, 51, 52, 53, 54, 55, 56, 57]⟩ w hp (by decide) (ascii_of_all (by decide))).mono fun _ _ ⟨he, hb⟩ =>
    ⟨_, he, by show ByteArray.toList _ = _; rw [ByteArray.toList_mk, Lib.toList_data]; rfl, hb⟩

/-- What can not be read. -/
theorem parse_bad (s : ByteArray) (w : World) (hs : s.size ≤ 9223372036854775807) (hg : good s.toList = false) :
    Calls Tryd.prog 26 #[.string s] w fun e w' => e = .returned (.tuple #[.agg #[.bool false, .string ⟨#[]⟩], .int .i64 20]) ∧ Below w.heap.size w w' := by
  by_cases hne : ds s.toList = []
  · have HN := Lib.hid hne
    clear hg hne
    go_enter Tryd.func26, Tryd.ntmps26
    go_wp2_with fail
    refine (trimPrefix_c _ _).mono ?_
    rintro e w1 ⟨p, rfl, hp, hps, rfl⟩
    have f1 : p.toList.isEmpty = true := by rw [hp.out, HN.out]; rfl
    go_wp2
    exact bodyPost_ret (v := .tuple #[.agg #[.bool false, .string ⟨#[]⟩], .int .i64 20]) (by simp [results, Tryd.results26, go_sem]) rfl ⟨rfl, (Below.refl _ _).alloc (Nat.le_refl _) _⟩
  · by_cases hd : (ds s.toList).all isDigit = true
    · have hh : (ds s.toList).head? = some 48 ∧ s.toList ≠ [48] := by
        have h1 : (ds s.toList).isEmpty = false := by cases h : ds s.toList with
          | nil => exact absurd h hne
          | cons _ _ => rfl
        simp only [good, h1, hd, Bool.not_false, Bool.true_and, Bool.not_eq_false', Bool.and_eq_true, beq_iff_eq, Bool.not_eq_true', beq_eq_false_iff_ne] at hg
        exact hg
      have HN := Lib.hid hne
      have HD := Lib.hid hd
      have HH := Lib.hid hh
      clear hg hne hd hh
      go_enter Tryd.func26, Tryd.ntmps26
      go_wp2_with fail
      refine (trimPrefix_c _ _).mono ?_
      rintro e w1 ⟨p, rfl, hp, hps, rfl⟩
      have f1 : p.toList.isEmpty = false := by
        rw [hp.out]
        cases h : ds s.toList with
        | nil => exact absurd h HN.out
        | cons _ _ => rfl
      have hp0 : 0 < p.size := by
        rw [← size_of, hp.out]
        exact List.length_pos_iff.2 HN.out
      have hp1 : p[0] = 48 := by
        have h := head_of p hp0
        rw [hp.out, HH.out.1] at h
        exact (Option.some.inj h).symm
      have f2 := u8_eqb (n := 48) rfl hp1
      have f3 : (s.toList == [48]) = false := by simpa using HH.out.2
      clear hp1
      go_wp2_with fail
      refine (trim_c p _ (by omega)).mono ?_
      rintro e w1 ⟨q, rfl, hq, hb1⟩
      have f4 : q.toList.isEmpty = true := by rw [hq.out, hp.out]; exact trim_empty _ HD.out
      obtain ⟨c0, c1, hz, hbw⟩ := num_cells hb1
      obtain ⟨g0, g1⟩ := num_free hb1
      clear hb1
      go_wp2
      exact bodyPost_ret (v := .tuple #[.agg #[.bool false, .string ⟨#[]⟩], .int .i64 20]) (by simp [results, Tryd.results26, go_sem, c0, c1]) rfl ⟨rfl, (hbw.setCell (Nat.le_refl _) _).setCell (Nat.le_refl _) _⟩
    · have HN := Lib.hid hne
      have HD := Lib.hid hd
      clear hg hne hd
      go_enter Tryd.func26, Tryd.ntmps26
      go_wp2_with fail
      refine (trimPrefix_c _ _).mono ?_
      rintro e w1 ⟨p, rfl, hp, hps, rfl⟩
      have f1 : p.toList.isEmpty = false := by
        rw [hp.out]
        cases h : ds s.toList with
        | nil => exact absurd h HN.out
        | cons _ _ => rfl
      go_wp2_with fail
      refine (trim_c p _ (by omega)).mono ?_
      rintro e w1 ⟨q, rfl, hq, hb1⟩
      have f4 : q.toList.isEmpty = false := by rw [hq.out, hp.out]; exact trim_full _ HD.out
      obtain ⟨c0, c1, hz, hbw⟩ := num_cells hb1
      obtain ⟨g0, g1⟩ := num_free hb1
      clear hb1
      go_wp2
      exact bodyPost_ret (v := .tuple #[.agg #[.bool false, .string ⟨#[]⟩], .int .i64 20]) (by simp [results, Tryd.results26, go_sem, c0, c1]) rfl ⟨rfl, (hbw.setCell (Nat.le_refl _) _).setCell (Nat.le_refl _) _⟩

/-- Too many digits. -/
theorem parse_many (s : ByteArray) (w : World) (hs : s.size ≤ 9223372036854775807) (hg : good s.toList = true) (hl : 765 < (ds s.toList).length) :
    Calls Tryd.prog 26 #[.string s] w fun e w' => e = .returned (.tuple #[.agg #[.bool false, .string ⟨#[]⟩], .int .i64 21]) ∧ Below w.heap.size w w' := by
  have HG := Lib.hid hg
  have HL := Lib.hid hl
  clear hg hl
  go_enter Tryd.func26, Tryd.ntmps26
  go_wp2_with fail
  refine (trimPrefix_c _ _).mono ?_
  rintro e w1 ⟨p, rfl, hp, hps, rfl⟩
  have hlong : 765 < p.size := by rw [← size_of, hp.out]; exact HL.out
  have hp0 : 0 < p.size := by omega
  have hne := good_ne HG.out
  have f1 : p.toList.isEmpty = false := by
    rw [hp.out]
    cases h : ds s.toList with
    | nil => exact absurd h hne
    | cons _ _ => rfl
  have hs1 : s.toList ≠ [48] := by
    intro e
    have h1 := size_of s
    rw [e] at h1
    simp at h1
    omega
  have hp1 : ¬ p[0] = 48 := by
    have h := head_of p hp0
    rw [hp.out] at h
    intro e
    rw [e] at h
    exact good_head HG.out hs1 h
  have f2 := u8_neb (n := 48) rfl hp1
  have f3 : (s.toList == [48]) = false := by simpa using hs1
  clear hp1 hs1 hne
  go_wp2_with fail
  refine (trim_c p _ (by omega)).mono ?_
  rintro e w1 ⟨q, rfl, hq, hb1⟩
  have f4 : q.toList.isEmpty = true := by rw [hq.out, hp.out]; exact trim_empty _ (good_digits HG.out)
  obtain ⟨c0, c1, hz, hbw⟩ := num_cells hb1
  obtain ⟨g0, g1⟩ := num_free hb1
  clear hb1
  go_wp2
  exact bodyPost_ret (v := .tuple #[.agg #[.bool false, .string ⟨#[]⟩], .int .i64 21]) (by simp [results, Tryd.results26, go_sem, c0, c1]) rfl ⟨rfl, (hbw.setCell (Nat.le_refl _) _).setCell (Nat.le_refl _) _⟩

/-- What Parse tells. -/
def ParsePost (s : ByteArray) (w : World) (e : Ending) (w' : World) : Prop :=
  ∃ q : ByteArray, e = .returned (.tuple #[.agg #[.bool (parseE s.toList == 0 && neg s.toList), .string q], .int .i64 (parseE s.toList)]) ∧
      Hid (q.toList = if parseE s.toList = 0 then magN (dv (ds s.toList)) else []) ∧ Below w.heap.size w w'
theorem parse_post_no {s : ByteArray} {w w' : World} {c : Int} (h : parseE s.toList = c) (hc : c ≠ 0) (hb : Below w.heap.size w w') :
    ParsePost s w (.returned (.tuple #[.agg #[.bool false, .string ⟨#[]⟩], .int .i64 c])) w' := by
  refine ⟨⟨#[]⟩, ?_, Lib.hid ?_, hb⟩
  · rw [h]
    have : (c == 0) = false := by simpa using hc
    rw [this]; rfl
  · rw [if_neg (by rw [h]; exact hc), Lib.toList_data]
theorem parse_post_yes {s q : ByteArray} {w w' : World} (h : parseE s.toList = 0) (hq : q.toList = magN (dv (ds s.toList))) (hb : Below w.heap.size w w') :
    ParsePost s w (.returned (.tuple #[.agg #[.bool (neg s.toList), .string q], .int .i64 0])) w' :=
  ⟨q, by rw [h]; rfl, Lib.hid (by rw [if_pos h]; exact hq), hb⟩

theorem ofNat_mod (n : Nat) : ((UInt8.ofNat n).toNat : Int) = (n : Int) % 256 := by simp
theorem carry_byte (c y : Nat) : ((UInt8.ofNat (c + 10 * y)).toNat : Int) = ((c : Int) + 10 * (y : Int)) % 256 := by
  rw [ofNat_mod]; simp

set_option maxRecDepth 100000 in
set_option maxHeartbeats 2000000 in
theorem parse_good (s : ByteArray) (w : World) (_hs : s.size ≤ 9223372036854775807) (hg : good s.toList = true) (hl : (ds s.toList).length ≤ 765) :
    Calls Tryd.prog 26 #[.string s] w (ParsePost s w) := by
  have HG := Lib.hid hg
  have HL := Lib.hid hl
  clear hg hl
  go_enter Tryd.func26, Tryd.ntmps26
  go_wp2_with fail
  refine (trimPrefix_c _ _).mono ?_
  rintro e w1 ⟨p, rfl, hp, hps, rfl⟩
  have hlong : p.size ≤ 765 := by rw [← size_of, hp.out]; exact HL.out
  have hd32 : decide ((765 : Int) < (p.size : Int)) = false := by simp; omega
  have hne := good_ne HG.out
  have hp0 : 0 < p.size := by rw [← size_of, hp.out]; exact List.length_pos_iff.2 hne
  have f1 : p.toList.isEmpty = false := by
    rw [hp.out]
    cases h : ds s.toList with
    | nil => exact absurd h hne
    | cons _ _ => rfl
  have f23 : ((p[0].toNat : Int) == 48) = false ∨ (((p[0].toNat : Int) == 48) = true ∧ (s.toList == [48]) = true) := by
    by_cases hs1 : s.toList = [48]
    · by_cases h : p[0] = 48
      · exact .inr ⟨u8_eqb (n := 48) rfl h, by simpa using hs1⟩
      · exact .inl (u8_neb (n := 48) rfl h)
    · refine .inl (u8_neb (d := 48) (n := 48) rfl fun e => good_head HG.out hs1 ?_)
      have h := head_of p hp0
      rw [hp.out, e] at h
      exact h
  have hnn : (p.toList == s.toList) = !neg s.toList := by rw [hp.out]; exact neg_ne _
  have HNN := Lib.hid hnn
  clear hne hnn
  rcases f23 with f2 | ⟨f2, f3⟩
  all_goals
    go_wp2_with fail
    refine (trim_c p _ (by omega)).mono ?_
    rintro e w1 ⟨q, rfl, hq, hb1⟩
    have f4 : q.toList.isEmpty = true := by rw [hq.out, hp.out]; exact trim_empty _ (good_digits HG.out)
    obtain ⟨c0, c1, hz, hbw⟩ := num_cells hb1
    obtain ⟨g0, g1⟩ := num_free hb1
    clear hb1
    obtain ⟨i0, hi, hz0, hz1, hz2⟩ := info_parts Tryd.info5
    go_wp2_with (at_make; refine wpList_make_full _ rfl _ _ 111 rfl w1.heap.size 5 i0 (.int .u8 0) 1 Tryd.underlying111 hi hz0 hz1 _ _ _ _ p.size rfl rfl (by omega) (by omega) (by rw [hz2]; omega) (by unfold maxLen; omega) (Nat.le_refl _) ?_; intro w2 hown hgrow; obtain ⟨W3, cap3, hcv3, hrow3, hb3, hz3⟩ := conv_string w2 p)
    have hown2 : OwnB w2 w1.heap.size (.slice (some ⟨w1.heap.size, 0, none⟩) p.size p.size) (List.replicate p.size 0) := by
      unfold OwnB
      rw [show (Value.int IntKind.u8 0).cells = #[.int .u8 0] from rfl, Nat.mul_one, toList_madeCells_one] at hown
      simpa [bv] using hown
    have hB2 : Below w1.heap.size w1 w2 := (Below.refl _ _).grown hgrow (Nat.le_refl _) (by intro k hk; cases hk)
    have hgd : w1.heap.size < w2.heap.size := hown2.row.1
    have hrowb := Lib.hid (hown2.row.below hb3 hgd)
    have hrowd := Lib.hid hrow3
    have hB3 := Lib.hid (hB2.trans (hb3.mono (Nat.le_of_lt hgd)))
    clear hown hgrow hown2 hB2 hrow3 hb3 hi hz0 hz1 hz2 hcv3
    go_loopw [7, 8, 9, 40] (fun _ _ _ i wr => ∃ k : Nat, k ≤ p.size ∧ i = .int .i64 k ∧ RowB wr w1.heap.size (accL p.size (p.toList.take k)) ∧ RowB wr w2.heap.size p.toList ∧ Below w1.heap.size w1 wr) (fun _ _ _ i _ => p.size - (intOf i).toNat)
    case atStart => exact ⟨0, Nat.zero_le _, rfl, by rw [List.take_zero, accL_nil]; exact hrowb.out, hrowd.out, hB3.out⟩
    case round =>
      clear hrowb hrowd hB3
      obtain ⟨k, hk, rfl, hrow, hdig, hB⟩ := hrel
      have hpl := size_of p
      have HPL := Lib.hid hpl
      by_cases hlt : k < p.size
      · have hkl : k < p.toList.length := by omega
        have hcell := hdig.cell k hkl
        obtain ⟨c, hc⟩ : ∃ c, p.toList[k] = c := ⟨_, rfl⟩
        rw [hc] at hcell
        have hdc : isDigit c = true := by
          have h1 := good_digits HG.out
          rw [← hp.out, List.all_eq_true] at h1
          exact h1 c (hc ▸ List.getElem_mem hkl)
        simp only [isDigit, Bool.and_eq_true, decide_eq_true_eq] at hdc
        obtain ⟨hd1, hd2⟩ := hdc
        have HS := Lib.hid (show accL p.size (p.toList.take (k + 1)) = (mulAdd (accL p.size (p.toList.take k)) (c.toNat - 48)).1 by
          rw [List.take_succ_eq_append_getElem hkl, accL_snoc, hc])
        obtain ⟨B, hBB⟩ : ∃ B, accL p.size (p.toList.take k) = B := ⟨_, rfl⟩
        have hBl : B.length = p.size := by rw [← hBB]; exact accL_length _ _
        rw [hBB] at hrow HS
        have HBl := Lib.hid hBl
        clear hBB hc hkl hpl hBl
        obtain ⟨wo, hwo⟩ : ∃ wo : World, wo = wr := ⟨_, rfl⟩
        subst hwo
        go_wp2
        go_loopw [8, 9] (fun cv iv wi => ∃ (x : Int) (cr : Nat), -1 ≤ x ∧ x < p.size ∧ iv = .int .i64 x ∧ cv = .int .i64 cr ∧ cr ≤ 9 ∧ RowKit.Hid (cr = (mulAdd (B.drop (x + 1).toNat) (c.toNat - 48)).2) ∧ RowB wi w1.heap.size (mulTo B (c.toNat - 48) (x + 1).toNat) ∧
          RowB wi w2.heap.size p.toList ∧ Below w1.heap.size w1 wi) (fun _ iv _ => (intOf iv + 1).toNat)
        case atStart =>
          refine ⟨(p.size : Int) - 1, c.toNat - 48, by omega, by omega, rfl, by go_num, by omega, Lib.hid ?_, ?_, hdig, hB⟩
          · rw [List.drop_of_length_le (by rw [HBl.out]; omega)]; rfl
          · rw [mulTo_all _ _ _ (by rw [HBl.out]; omega)]; exact hrow
        case round =>
          clear hrow hdig hB hcell
          obtain ⟨x, cr, hx1, hx2, rfl, rfl, hcr, HC, hrow, hdig, hB⟩ := hrel
          by_cases hx : 0 ≤ x
          · obtain ⟨j, rfl⟩ := Int.eq_ofNat_of_zero_le hx
            rw [show ((j : Int) + 1).toNat = j + 1 from by omega] at HC hrow
            have hjB : j < B.length := by rw [HBl.out]; omega
            have hjm : j < (mulTo B (c.toNat - 48) (j + 1)).length := by rw [mulTo_length]; exact hjB
            have hc2 := hrow.cell j hjm
            have hf2 := hrow.frozen j hjm
            obtain ⟨y, hy⟩ : ∃ y, B[j] = y := ⟨_, rfl⟩
            rw [mulTo_get B _ j hjB hjm, hy] at hc2
            have hyb := y.toNat_lt
            have HST := Lib.hid (mulTo_step B (c.toNat - 48) j hjB)
            rw [← HC.out, hy] at HST
            have HR2 := Lib.hid (hrow.set j (UInt8.ofNat (cr + 10 * y.toNat)) hjm)
            have HD2 := Lib.hid (show RowB (wr.setCell ⟨w1.heap.size, j, none⟩ (.int .u8 ((UInt8.ofNat (cr + 10 * y.toNat)).toNat : Int))) w2.heap.size p.toList from
              hdig.same (Below.heap_setCell _ _ _ _ (by simp; omega)) (by simp [World.setCell]))
            have HB2 := Lib.hid (hB.setCell (p := ⟨w1.heap.size, j, none⟩) (Nat.le_refl _) (.int .u8 ((UInt8.ofNat (cr + 10 * y.toNat)).toNat : Int)))
            rw [carry_byte] at HR2 HD2 HB2
            clear hy hjB hjm
            go_wp2
            go_roundw
            case rel =>
              refine ⟨(j : Int) - 1, (cr + 10 * y.toNat) / 256, by omega, by omega, rfl, by go_num, by omega, Lib.hid ?_, ?_, HD2.out, HB2.out⟩
              · rw [show ((j : Int) - 1 + 1).toNat = j from by omega]; exact HST.out.2.symm
              · rw [show ((j : Int) - 1 + 1).toNat = j from by omega, ← HST.out.1]; exact HR2.out
            case measure => simp [intOf]
          · have hx0 : (x + 1).toNat = 0 := by omega
            rw [hx0, mulTo_zero] at hrow
            have HX := Lib.hid hx0
            clear hx0 HC
            go_wp2
            go_roundw
            case rel => exact ⟨k + 1, by omega, by go_num, by rw [HS.out]; exact hrow, hdig, hB⟩
            case measure => simp [intOf]; omega
      · rw [List.take_of_length_le (by omega)] at hrow
        have HM := Lib.hid (show strip (accL p.size p.toList) = magN (dv (ds s.toList)) by
          rw [hp.out]; exact strip_acc HG.out _ (by rw [← hp.out]; omega))
        have hal := accL_length p.size p.toList
        have HAL := Lib.hid hal
        clear hal hpl hdig
        have d0 : wr.cell? ⟨w.heap.size, 0, none⟩ = some (.bool false) := (hB.cell (p := ⟨w.heap.size, 0, none⟩) hz).trans c0
        have d1 : wr.cell? ⟨w.heap.size, 1, none⟩ = some (.string ⟨#[]⟩) := (hB.cell (p := ⟨w.heap.size, 1, none⟩) hz).trans c1
        have e0 : wr.frozen? ⟨w.heap.size, 0, none⟩ = false := (hB.frozen (p := ⟨w.heap.size, 0, none⟩) hz).trans g0
        have e1 : wr.frozen? ⟨w.heap.size, 1, none⟩ = false := (hB.frozen (p := ⟨w.heap.size, 1, none⟩) hz).trans g1
        have hzr : w.heap.size < wr.heap.size := by have := hB.size; omega
        have hbr : Below w.heap.size w wr := hbw.trans (hB.mono (Nat.le_of_lt hz))
        clear c0 c1 g0 g1 hbw hB
        go_wp2_with fail
        refine (shortest_any _ _ _ (hrow.conv p.size p.size HAL.out.symm)).mono ?_
        rintro e w4 ⟨r, rfl, hr, rfl⟩
        have hrM := Lib.hid (show r.toList = magN (dv (ds s.toList)) by rw [hr.out, HM.out])
        have hneg : (!(p.toList == s.toList)) = neg s.toList := by rw [HNN.out]; simp
        have HNG := Lib.hid hneg
        clear hr hneg
        by_cases hbig : 255 < r.size
        · have hb32 : decide ((255 : Int) < (r.size : Int)) = true := by simp; omega
          have HE := Lib.hid (show parseE s.toList = 21 from parseE_long HG.out (by rw [← hrM.out, size_of]; exact hbig))
          go_wp2
          exact bodyPost_ret (v := .tuple #[.agg #[.bool false, .string ⟨#[]⟩], .int .i64 21]) (by simp [results, Tryd.results26, go_sem, d0, d1, hzr]) rfl
            (parse_post_no HE.out (by decide) (((hbr.setCell (Nat.le_refl _) _).setCell (Nat.le_refl _) _).alloc (by simp [World.setCell]; omega) _))
        · have hb32 : decide ((255 : Int) < (r.size : Int)) = false := by simp; omega
          have HE := Lib.hid (show parseE s.toList = 0 from parseE_ok HG.out (by rw [← hrM.out, size_of]; exact hbig))
          go_wp2
          exact bodyPost_ret (v := .tuple #[.agg #[.bool (neg s.toList), .string r], .int .i64 0]) (by simp [results, Tryd.results26, go_sem, d0, d1, hzr, ← HNG.out]) rfl
            (parse_post_yes HE.out hrM.out (((hbr.setCell (Nat.le_refl _) _).setCell (Nat.le_refl _) _).alloc (by simp [World.setCell]; omega) _))

theorem pow_gen (k n : Nat) (h : n = 3 * k) : 256 ^ k ≤ 10 ^ n := by
  rw [h, Nat.pow_mul]
  exact Nat.pow_le_pow_left (by decide) _

/-- Every text. -/
theorem parse_any (s : ByteArray) (w : World) (hs : s.size ≤ 9223372036854775807) : Calls Tryd.prog 26 #[.string s] w (ParsePost s w) := by
  cases hg : good s.toList
  · exact (parse_bad s w hs hg).mono fun e w' ⟨he, hb⟩ => he ▸ parse_post_no (parseE_bad hg) (by decide) hb
  · by_cases hl : (ds s.toList).length ≤ 765
    · exact parse_good s w hs hg hl
    · refine (parse_many s w hs hg (by omega)).mono fun e w' ⟨he, hb⟩ => he ▸ parse_post_no (parseE_long hg ?_) (by decide) hb
      obtain ⟨n, hn⟩ : ∃ n, n = 765 := ⟨_, rfl⟩
      rw [← hn] at hl
      refine long_of hg n (by omega) (pow_gen 255 n hn) ?_
      intro e
      rw [e, show (ds [48]).length = 1 from rfl] at hl
      omega
end Go.Proofs.YtcgphlilijeifaaDoor
