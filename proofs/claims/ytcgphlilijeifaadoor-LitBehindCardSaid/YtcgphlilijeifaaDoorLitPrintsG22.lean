import Derived.Deep.LoopGhost
import Derived.Test.YtcgphlilijeifaaDoorLitPrintsG21
/-
  The contract of nat.Print: the decimal digits, for every number that may be; else Check's error.
-/
namespace Go.Proofs.YtcgphlilijeifaaDoor
open Go.RowKit

/-- A number's digits. -/
def digitsOf (b : Bool) (m : List UInt8) : List UInt8 := if m = [] then [48] else (if b then [45] else []) ++ dec (nv m)

theorem print_bad (b : Bool) (s : ByteArray) (w : World) (hs : s.size ≤ 9223372036854775807) (r : Int) (hr : chk b s.toList = r) (h1 : (r != 0) = true) :
    Calls Tryd.prog 24 #[.agg #[.bool b, .string s]] w fun e w' => e = .returned (.tuple #[.string ⟨#[]⟩, .int .i64 r]) ∧ Below w.heap.size w w' := by
  have HR := Lib.hid hr
  clear hr
  go_enter Tryd.func24, Tryd.ntmps24
  go_wp2_with fail
  refine (check_any b s _ hs r HR.out).mono ?_
  rintro e w1 ⟨rfl, hb1⟩
  go_wp2
  go_ret2
  exact ⟨rfl, (num_cells hb1).2.2.2⟩

theorem print_zero (b : Bool) (s : ByteArray) (w : World) (hr : chk b s.toList = 0) (h0 : s.toList = []) :
    Calls Tryd.prog 24 #[.agg #[.bool b, .string s]] w fun e w' => e = .returned (.tuple #[.string ⟨#[48]⟩, .int .i64 0]) ∧ Below w.heap.size w w' := by
  have hs : s.size = 0 := by rw [← size_of, h0]; rfl
  have hs2 : s.size ≤ 255 := by omega
  have hne : s.toList.isEmpty = true := by rw [h0]; rfl
  have HR := Lib.hid hr
  clear hr hs h0
  go_enter Tryd.func24, Tryd.ntmps24
  go_wp2_with fail
  refine (check_any b s _ (by omega) 0 HR.out).mono ?_
  rintro e w1 ⟨rfl, hb1⟩
  obtain ⟨c0, c1, hz, hbw⟩ := num_cells hb1
  go_wp2
  go_ret2
  exact ⟨rfl, hbw⟩

theorem reverse_c (base : Nat) (v : Value) (l : List UInt8) (w : World) (hO : OwnB w base v l) (hl : l ≠ []) (hmax : l.length ≤ 9223372036854775807) :
    Calls Tryd.prog 57 #[v] w fun e w' => e = .returned (.tuple #[]) ∧ (convert 111 9 v).run Tryd.prog w' = .ok (.string ⟨l.reverse.toArray⟩) w' ∧ Below base w w' := by
  obtain ⟨g, cap, rfl, hg⟩ := hO.form hl
  exact (reverse_any g l.length cap l w hO.row rfl (List.length_pos_iff.2 hl) hmax).mono fun _ _ ⟨he, hr, hb⟩ => ⟨he, hr.conv cap _ (by rw [List.length_reverse]), hb.mono hg⟩

theorem div_byte (q c : Nat) (h : q ≤ 9) (hc : c < 256) : ((UInt8.ofNat ((q * 256 + c) / 10)).toNat : Int) = ((q : Int) * 256 + (c : Int)) / 10 := by
  rw [ofNat_toNat _ (by omega)]
  omega
/-- What a round of the outer loop does to the digits. -/
theorem dec_round {l o : List UInt8} {m : Nat} (h : dec m = dec (nv l) ++ o.reverse) (hl : l ≠ []) (h0 : l.head? ≠ some 0) (q : Nat) (hq : q = (divMod l 0).2) :
    dec m = dec (nv (strip (divMod l 0).1)) ++ (o ++ [UInt8.ofNat (48 + q)]).reverse ∧ (dec (nv l)).length = (dec (nv (strip (divMod l 0).1))).length + 1 := by
  have hn : nv l ≠ 0 := fun e => hl (nv_zero h0 e)
  have ht := divMod_ten l
  rw [nv_strip, ht.1]
  rw [hq, ht.2]
  rw [dec_pos _ hn] at h ⊢
  refine ⟨by rw [h]; simp, by simp⟩

theorem add48 (r : Nat) (h : r ≤ 9) : ((UInt8.ofNat (48 + r)).toNat : Int) = 48 + (r : Int) := by rw [ofNat48 r (by omega)]; omega

set_option maxHeartbeats 1000000 in
theorem print_some (b : Bool) (s : ByteArray) (w : World) (hr : chk b s.toList = 0) (h0 : s.toList ≠ []) :
    Calls Tryd.prog 24 #[.agg #[.bool b, .string s]] w fun e w' => ∃ p : ByteArray, e = .returned (.tuple #[.string p, .int .i64 0]) ∧ Hid (p.toList = digitsOf b s.toList) ∧ Below w.heap.size w w' := by
  have hk := chk_zero_iff.1 hr
  have hlen := hk.1
  rw [size_of] at hlen
  have hne : s.toList.isEmpty = false := by cases h : s.toList with
    | nil => exact absurd h h0
    | cons _ _ => rfl
  have HD := Lib.hid (dec_nv_len s.toList)
  have HH := Lib.hid hk.2.2
  have HN := Lib.hid h0
  have HR := Lib.hid hr
  clear hr hk h0
  go_enter Tryd.func24, Tryd.ntmps24
  go_wp2_with fail
  refine (check_any b s _ (by omega) 0 HR.out).mono ?_
  rintro e w1 ⟨rfl, hb1⟩
  obtain ⟨c0, c1, hz, hbw⟩ := num_cells hb1
  clear hb1
  obtain ⟨W2, cap2, hcv, hrow, hb2, hz2⟩ := conv_string w1 s
  have hrow2 := Lib.hid hrow
  have hb22 := Lib.hid hb2
  clear hrow hb2
  go_wp2
  go_loopw [5, 6, 7, 8, 25] (fun v x _ _ _ wr => ∃ (o l : List UInt8) (g cap : Nat), x = .slice (some ⟨g, 0, none⟩) l.length cap ∧ OwnB wr w1.heap.size v o ∧ some g ≠ v.ownBlock ∧ w1.heap.size ≤ g ∧ RowB wr g l ∧ Below w1.heap.size w1 wr ∧
      l.length ≤ 255 ∧ o.length + (dec (nv l)).length ≤ 765 ∧ RowKit.Hid (l.head? ≠ some 0 ∧ dec (nv s.toList) = dec (nv l) ++ o.reverse)) (fun v _ _ _ _ _ => 800 - lenOf v)
  case atStart =>
    refine ⟨[], s.toList, w1.heap.size, cap2, by rw [size_of], OwnB.nil _ _, by simp [Value.ownBlock], Nat.le_refl _, hrow2.out, hb22.out, by rw [size_of]; exact hlen, ?_, Lib.hid ⟨HH.out, by simp⟩⟩
    have := HD.out
    have h3 := size_of s
    simp only [List.length_nil]
    omega
  case round =>
    clear hrow2 hb22 hcv
    obtain ⟨o, l, g, cap, rfl, hO, hg, hgb, hrow, hB, hl, hdl, HE⟩ := hrel
    by_cases hl0 : 0 < l.length
    · have hlne : l ≠ [] := by intro e; subst e; simp at hl0
      have HL := Lib.hid hlne
      clear hlne
      have hol : o.length < 765 := by
        have h1 := HE.out
        have h2 := dec_round h1.2 HL.out h1.1 _ rfl
        omega
      obtain ⟨wo, hwo⟩ : ∃ wo : World, wo = wr := ⟨_, rfl⟩
      subst hwo
      go_wp2
      go_loopw [7, 8, 25] (fun r _ i wi => ∃ k q : Nat, k ≤ l.length ∧ i = .int .i64 k ∧ r = .int .i64 q ∧ q ≤ 9 ∧ RowKit.Hid (q = (divMod (l.take k) 0).2) ∧ OwnB wi w1.heap.size u5 o ∧ RowB wi g (divTo l k) ∧ Below w1.heap.size w1 wi) (fun _ _ i _ => l.length - (intOf i).toNat)
      case atStart => exact ⟨0, 0, Nat.zero_le _, rfl, rfl, by omega, Lib.hid rfl, hO, by rw [divTo_zero]; exact hrow, hB⟩
      case round =>
        clear hO hrow hB
        obtain ⟨k, q, hk, rfl, rfl, hq, HQ, hO, hrow, hB⟩ := hrel
        by_cases hlt : k < l.length
        · have hll : k < (divTo l k).length := by rw [divTo_length l k hk]; exact hlt
          have hc := hrow.cell k hll
          have hf := hrow.frozen k hll
          obtain ⟨c, hcc⟩ : ∃ c, l[k] = c := ⟨_, rfl⟩
          rw [divTo_get l k hlt hll, hcc] at hc
          have hbd := c.toNat_lt
          have HS := Lib.hid (divTo_step l k hlt)
          rw [← HQ.out, hcc] at HS
          have HR2 := Lib.hid (hrow.set k (UInt8.ofNat ((q * 256 + c.toNat) / 10)) hll)
          have HO2 := Lib.hid (hO.setOther (i := k) (u := Value.int .u8 ((UInt8.ofNat ((q * 256 + c.toNat) / 10)).toNat : Int)) hg)
          have HB2 := Lib.hid (hB.setCell (p := ⟨g, k, none⟩) hgb (.int .u8 ((UInt8.ofNat ((q * 256 + c.toNat) / 10)).toNat : Int)))
          rw [div_byte q _ hq hbd] at HR2 HO2 HB2
          clear hcc hll
          go_wp2
          go_roundw
          case rel => exact ⟨k + 1, (q * 256 + c.toNat) % 10, by omega, by go_num, by go_num, by omega, Lib.hid (by rw [HS.out.2]), HO2.out, by rw [← HS.out.1]; exact HR2.out, HB2.out⟩
          case measure => simp [intOf]; omega
        · have HQ2 := Lib.hid (show q = (divMod l 0).2 by rw [HQ.out, List.take_of_length_le (by omega)])
          rw [divTo_end l k (by omega)] at hrow
          have hdl2 := divMod_length l 0
          have HLQ := Lib.hid hdl2
          clear HQ hdl2
          have hz3 := hB.size
          go_wp2_with (first
            | (at_builtin; refine wpList_append_bytes2 rfl (.tmp 45) (.tmp 49) 111 rfl Tryd.underlying111 Tryd.info5 rfl (hO.alloc _) _ [UInt8.ofNat (48 + q)] 1 _ rfl rfl (bv_cells_oneI _ _ _ (add48 q hq)) (by omega) (hB.alloc hB.size _) (by simp; omega) ?_; intro v2 w2 hO2 hB2 hs2 hg2; have hrow2 := (hrow.alloc _).grown hg2 hg; clear hg2)
            | (go_at_call 56; refine (shortest_any _ _ _ (hrow2.conv cap l.length HLQ.out.symm)).mono ?_; rintro e w3 ⟨p, rfl, hp, rfl⟩; obtain ⟨W3, cap3, hcv3, hrow3, hb3, hz4⟩ := conv_string w2 p))
          have hR := Lib.hid (dec_round HE.out.2 HL.out HE.out.1 q HQ2.out)
          have l1 := hO.lenOf
          have l2 := hO2.lenOf
          have hsl := strip_length (divMod l 0).1
          rw [HLQ.out, ← hp.out] at hsl
          go_roundw
          case rel =>
            refine ⟨o ++ [UInt8.ofNat (48 + q)], p.toList, w2.heap.size, cap3, by rw [size_of], hO2.below hb3, hO2.block_lt (Nat.le_refl _), hs2, hrow3, hB2.trans (hb3.mono hs2), by omega, ?_, Lib.hid ⟨by rw [hp.out]; exact strip_head _, by rw [hp.out]; exact hR.out.1⟩⟩
            have := hR.out.2
            rw [hp.out, List.length_append]
            simp only [List.length_cons, List.length_nil]
            omega
          case measure =>
            rw [l1, l2, List.length_append]
            simp; omega
    · have hle : l = [] := List.eq_nil_of_length_eq_zero (by omega)
      subst hle
      have hdec : dec (nv s.toList) = o.reverse := by
        have := HE.out.2
        simpa [nv, dec_zero] using this
      have hone : o ≠ [] := by
        intro e
        rw [e] at hdec
        have h3 := dv_dec (nv s.toList)
        rw [hdec] at h3
        exact HN.out (nv_zero HH.out (by rw [← h3]; rfl))
      have hcb : wr.cell? ⟨w.heap.size, 0, none⟩ = some (.bool b) := (hB.cell (p := ⟨w.heap.size, 0, none⟩) hz).trans c0
      have HO := Lib.hid hone
      have HDec := Lib.hid hdec
      have hol : o.length ≤ 765 := by omega
      have hzr := hB.size
      clear hone hdec HE hdl hl c0 c1
      cases b
      · go_wp2_with (go_at_call 57; refine (reverse_c w1.heap.size _ o _ hO HO.out (by omega)).mono ?_; rintro e w3 ⟨rfl, hcv3, hb3⟩)
        go_ret2
        exact ⟨_, rfl, Lib.hid (by rw [ByteArray.toList_mk, digitsOf, if_neg HN.out, HDec.out]; rfl), hbw.trans ((hB.trans hb3).mono (by omega))⟩
      · go_wp2_with (first
          | (at_builtin; refine wpList_append_bytes rfl (.tmp 56) (.tmp 57) 111 rfl Tryd.underlying111 Tryd.info5 rfl (hO.alloc _) _ [45] 1 _ rfl rfl (bv_cells_one _ 45 _) (by omega) (hB.alloc hB.size _) (by simp; omega) ?_; intro v2 w2 hO2 hB2 hs2)
          | (go_at_call 57; refine (reverse_c w1.heap.size _ _ _ hO2 (by simp) (by simp; omega)).mono ?_; rintro e w3 ⟨rfl, hcv3, hb3⟩))
        go_ret2
        exact ⟨_, rfl, Lib.hid (by rw [ByteArray.toList_mk, digitsOf, if_neg HN.out, HDec.out]; simp), hbw.trans ((hB2.trans hb3).mono (by omega))⟩

theorem print_ok (b : Bool) (s : ByteArray) (w : World) (hr : chk b s.toList = 0) :
    Calls Tryd.prog 24 #[.agg #[.bool b, .string s]] w fun e w' => ∃ p : ByteArray, e = .returned (.tuple #[.string p, .int .i64 0]) ∧ Hid (p.toList = digitsOf b s.toList) ∧ Below w.heap.size w w' := by
  by_cases h : s.toList = []
  · exact (print_zero b s w hr h).mono fun _ _ ⟨he, hb⟩ => ⟨_, he, Lib.hid (by rw [bytes1, digitsOf, if_pos h]), hb⟩
  · exact print_some b s w hr h
end Go.Proofs.YtcgphlilijeifaaDoor
