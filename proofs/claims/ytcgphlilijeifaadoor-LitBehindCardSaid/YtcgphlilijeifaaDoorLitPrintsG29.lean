import Derived.Test.YtcgphlilijeifaaDoorLitPrintsG28
import Derived.Test.YtcgphlilijeifaaDoorLitPrintsG22
import Derived.Test.YtcgphlilijeifaaDoorLitPrintsG25
section
/-
  The document's examples, walked.
-/
namespace Go.Proofs.YtcgphlilijeifaaDoor
open Go.RowKit

theorem of_list {q : ByteArray} {l : List UInt8} (h : q.toList = l) : q = ⟨l.toArray⟩ := ba_eq (by rw [← Lib.toList_data, h])

theorem l10 : (⟨#[1, 0]⟩ : ByteArray).toList = [1, 0] := by rw [ByteArray.toList_mk]
theorem l256 : (⟨#[45, 50, 53, 54]⟩ : ByteArray).toList = [45, 50, 53, 54] := by rw [ByteArray.toList_mk]
theorem l97 : (⟨#[97, 126, 254, 255]⟩ : ByteArray).toList = [97, 126, 254, 255] := by rw [ByteArray.toList_mk]

theorem parse256 (w : World) : Calls Tryd.prog 26 #[.string ⟨#[45, 50, 53, 54]⟩] w fun e w' => e = .returned (.tuple #[.agg #[.bool true, .string ⟨#[1, 0]⟩], .int .i64 0]) ∧ Below w.heap.size w w' := by
  refine (parse_any ⟨#[45, 50, 53, 54]⟩ w (by decide)).mono ?_
  rintro e w' ⟨q, rfl, hq, hb⟩
  rw [l256] at hq ⊢
  have h1 : parseE [45, 50, 53, 54] = 0 := by kernel_rfl
  have h2 : magN (dv (ds [45, 50, 53, 54])) = [1, 0] := by kernel_rfl
  have hq' := hq.out
  rw [if_pos h1, h2] at hq'
  obtain rfl := of_list hq'
  rw [h1]
  exact ⟨rfl, hb⟩
theorem put256 (w : World) : Calls Tryd.prog 23 #[.agg #[.bool true, .string ⟨#[1, 0]⟩]] w fun e w' => e = .returned (.tuple #[.string ⟨#[126, 254, 255]⟩, .int .i64 0]) ∧ Below w.heap.size w w' := by
  refine (put_ok true ⟨#[1, 0]⟩ w (by rw [l10]; kernel_rfl)).mono ?_
  rintro e w' ⟨q, rfl, hq, hb⟩
  rw [l10] at hq
  have h2 : putBytes true [1, 0] = [126, 254, 255] := by kernel_rfl
  have hq' := hq.out
  rw [h2] at hq'
  obtain rfl := of_list hq'
  exact ⟨rfl, hb⟩
theorem take256 (w : World) : Calls Tryd.prog 25 #[.string ⟨#[97, 126, 254, 255]⟩, .int .i64 1] w fun e w' => e = .returned (.tuple #[.agg #[.bool true, .string ⟨#[1, 0]⟩], .int .i64 4, .int .i64 0]) ∧ Below w.heap.size w w' := by
  refine (take_at ⟨#[97, 126, 254, 255]⟩ 1 w (by decide) (by decide)).mono ?_
  intro e w' h
  unfold TakePost at h
  rw [l97] at h
  have h2 : takeE [97, 126, 254, 255] 1 = .ok (true, [1, 0], 4) := by kernel_rfl
  rw [h2] at h
  obtain ⟨q, rfl, hq, hb⟩ := h
  obtain rfl := of_list hq.out
  exact ⟨rfl, hb⟩
theorem print256 (w : World) : Calls Tryd.prog 24 #[.agg #[.bool false, .string ⟨#[1, 0]⟩]] w fun e w' => e = .returned (.tuple #[.string ⟨#[50, 53, 54]⟩, .int .i64 0]) ∧ Below w.heap.size w w' := by
  refine (print_ok false ⟨#[1, 0]⟩ w (by rw [l10]; kernel_rfl)).mono ?_
  rintro e w' ⟨q, rfl, hq, hb⟩
  rw [l10] at hq
  have h2 : digitsOf false [1, 0] = [50, 53, 54] := by kernel_rfl
  have hq' := hq.out
  rw [h2] at hq'
  obtain rfl := of_list hq'
  exact ⟨rfl, hb⟩
theorem of256 (w : World) : Calls Tryd.prog 31 #[.int .i64 (-256)] w fun e w' => e = .returned (.agg #[.bool true, .string ⟨#[1, 0]⟩]) ∧ Below w.heap.size w w' := by
  refine (of_minus (-256) w (by decide) (by decide)).mono ?_
  rintro e w' ⟨q, rfl, hq, hb⟩
  have h2 : mag8 (Int.natAbs (-256)) = [1, 0] := by kernel_rfl
  have hq' := hq.out
  rw [h2] at hq'
  obtain rfl := of_list hq'
  exact ⟨rfl, hb⟩
theorem small256 (w : World) : Calls Tryd.prog 32 #[.agg #[.bool true, .string ⟨#[1, 0]⟩]] w fun e w' => e = .returned (.tuple #[.int .i64 (-256), .bool true]) ∧ Below w.heap.size w w' := by
  refine (small_any true ⟨#[1, 0]⟩ w (by decide) (-256, true) (by rw [l10]; kernel_rfl)).mono ?_
  rintro e w' ⟨rfl, hb⟩
  exact ⟨rfl, hb⟩

set_option maxRecDepth 100000 in
theorem awake_ok (w : World) : Calls Tryd.prog 21 #[] w fun e w' => e = .returned (.bool true) ∧ Below w.heap.size w w' := by
  have heq : ∀ w : World, (binOp .eql 24 (.agg #[.bool true, .string ⟨#[1, 0]⟩]) (.agg #[.bool true, .string ⟨#[1, 0]⟩])).run Tryd.prog w = .ok (.bool true) w := fun _ => by kernel_rfl
  go_enter Tryd.func21, Tryd.ntmps21
  go_wp2_with fail
  refine (parse256 _).mono ?_
  rintro e w1 ⟨rfl, hb1⟩
  go_wp2_with fail
  refine (put256 _).mono ?_
  rintro e w2 ⟨rfl, hb2⟩
  obtain ⟨c0, c1, hz, hbw⟩ := num_cells hb2
  go_wp2_with fail
  refine (take256 _).mono ?_
  rintro e w3 ⟨rfl, hb3⟩
  have c0' := keep hb3 c0
  have c1' := keep hb3 c1
  clear c0 c1
  have hx : w1.heap.size < w3.heap.size := by have := hb3.size; omega
  go_wp2_with fail
  refine (print256 _).mono ?_
  rintro e w4 ⟨rfl, hb4⟩
  obtain ⟨d0, d1, hz2, hbw2⟩ := num_cells hb4
  have c0 := (hbw2.cell (p := ⟨w1.heap.size, 0, none⟩) hx).trans c0'
  have c1 := (hbw2.cell (p := ⟨w1.heap.size, 1, none⟩) hx).trans c1'
  go_wp2_with fail
  refine (of256 _).mono ?_
  rintro e w5 ⟨rfl, hb5⟩
  go_wp2_with fail
  refine (small256 _).mono ?_
  rintro e w6 ⟨rfl, hb6⟩
  have c0'' := keep hb6 (keep hb5 c0)
  have c1'' := keep hb6 (keep hb5 c1)
  have d0'' := keep hb6 (keep hb5 d0)
  have d1'' := keep hb6 (keep hb5 d1)
  go_wp2
  go_ret
  exact ⟨rfl, two (two (two (two (two hb1 hbw) hb3) hbw2) hb5) hb6⟩
end Go.Proofs.YtcgphlilijeifaaDoor
end
section
/-
  The document's Print: its contract.
-/
namespace Go.Proofs.YtcgphlilijeifaaDoor
open Go.RowKit

/-- From place o on the cells of block g are the bytes l, none of them frozen. -/
def RowAt (w : World) (g o : Nat) (l : List UInt8) : Prop := g < w.heap.size ∧ ∀ i (h : i < l.length), w.cell? ⟨g, o + i, none⟩ = some (.int .u8 (l[i].toNat : Int)) ∧ w.frozen? ⟨g, o + i, none⟩ = false
section
variable {w w' : World} {g o : Nat} {l : List UInt8}
theorem RowAt.cell (h : RowAt w g o l) (i : Nat) (hi : i < l.length) : w.cell? ⟨g, o + i, none⟩ = some (.int .u8 (l[i].toNat : Int)) := (h.2 i hi).1
theorem RowAt.frozen (h : RowAt w g o l) (i : Nat) (hi : i < l.length) : w.frozen? ⟨g, o + i, none⟩ = false := (h.2 i hi).2
theorem RowAt.same (h : RowAt w g o l) (hb : w'.heap[g]? = w.heap[g]?) (hs : w.heap.size ≤ w'.heap.size) : RowAt w' g o l :=
  ⟨Nat.lt_of_lt_of_le h.1 hs, fun i hi => ⟨(World.cell?_of_block hb).trans (h.2 i hi).1, (World.frozen?_of_block hb).trans (h.2 i hi).2⟩⟩
theorem RowAt.grown {row : Option Nat} (h : RowAt w g o l) (hb : w.grownBy w' row) (hg : some g ≠ row) : RowAt w' g o l := h.same (hb.block g h.1 hg) hb.size
theorem RowAt.alloc (h : RowAt w g o l) (ob : Obj) : RowAt (w.alloc ob) g o l := h.same (Below.heap_alloc w ob g h.1) (by simp)
theorem RowAt.set (h : RowAt w g o l) (i : Nat) (c : UInt8) (hi : i < l.length) : RowAt (w.setCell ⟨g, o + i, none⟩ (.int .u8 (c.toNat : Int))) g o (l.set i c) := by
  refine ⟨by simpa [World.setCell] using h.1, fun j hj => ?_⟩
  have hj' : j < l.length := by simpa using hj
  refine ⟨?_, ?_⟩
  · by_cases e : i = j
    · subst e
      rw [List.getElem_set_self]
      exact World.cell?_setCell_same w _ _ (h.cell i hi)
    · rw [List.getElem_set_ne e, World.cell?_setCell_other w ⟨g, o + i, none⟩ ⟨g, o + j, none⟩ _ (by intro e2; injection e2 with _ e3; omega)]
      exact h.cell j hj'
  · rw [World.frozen?_setCell]
    exact h.frozen j hj'
theorem RowAt.tail {c : UInt8} (h : RowAt w g o (c :: l)) : RowAt w g (o + 1) l :=
  ⟨h.1, fun i hi => by
    have := h.2 (i + 1) (by simpa using hi)
    rw [show o + 1 + i = o + (i + 1) by omega]
    simpa using this⟩
theorem RowAt.of_row (h : RowB w g l) : RowAt w g 0 l := ⟨h.1, fun i hi => by rw [Nat.zero_add]; exact h.2 i hi⟩
end
theorem RowAt.nil {w : World} {g o : Nat} (h : g < w.heap.size) : RowAt w g o [] := ⟨h, fun i hi => by cases hi⟩
theorem conv_string2 (w : World) (s : ByteArray) : ∃ w' cap, (convert 9 111 (.string s)).run Tryd.prog w = .ok (.slice (some ⟨w.heap.size, 0, none⟩) s.size cap) w' ∧
    RowB w' w.heap.size s.toList ∧ Below w.heap.size w w' ∧ w.heap.size < w'.heap.size ∧ s.size ≤ cap := by
  obtain ⟨w', cap, h, r, b, z⟩ := conv_string w s
  refine ⟨w', cap, h, r, b, z, ?_⟩
  have := run_bytes_of_string (P := Tryd.prog) w 9 111 5 s Tryd.underlying9 Tryd.underlying111 Tryd.underlying5
  rw [h] at this
  injection this with h1
  injection h1 with _ _ h3
  rw [h3]
  exact grownCap_ge _ _ _ _

theorem rprint_bad (b : Bool) (s : ByteArray) (w : World) (hs : s.size ≤ 9223372036854775807) (r : Int) (hr : chk b s.toList = r) (h1 : (r != 0) = true) :
    Calls Tryd.prog 69 #[.agg #[.bool b, .string s]] w fun e w' => e = .returned (.tuple #[.string ⟨#[]⟩, .int .i64 r]) ∧ Below w.heap.size w w' := by
  have HR := Lib.hid hr
  clear hr
  go_enter Tryd.func69, Tryd.ntmps69
  go_wp2_with fail
  refine (rcheck_any b s _ hs r HR.out).mono ?_
  rintro e w1 ⟨rfl, hb1⟩
  go_wp2_with fail
  go_ret2
  exact ⟨rfl, (num_cells hb1).2.2.2⟩

theorem rprint_zero (b : Bool) (s : ByteArray) (w : World) (hr : chk b s.toList = 0) (h0 : s.toList = []) :
    Calls Tryd.prog 69 #[.agg #[.bool b, .string s]] w fun e w' => e = .returned (.tuple #[.string ⟨#[48]⟩, .int .i64 0]) ∧ Below w.heap.size w w' := by
  have hs : s.size = 0 := by rw [← size_of, h0]; rfl
  have q1 : ((s.size : Int) == 0) = true := by rw [hs]; rfl
  have hs2 : s.size ≤ 255 := by omega
  have HR := Lib.hid hr
  clear hr hs h0
  go_enter Tryd.func69, Tryd.ntmps69
  go_wp2_with fail
  refine (rcheck_any b s _ (by omega) 0 HR.out).mono ?_
  rintro e w1 ⟨rfl, hb1⟩
  obtain ⟨c0, c1, hz, hbw⟩ := num_cells hb1
  go_wp2_with fail
  go_ret2
  exact ⟨rfl, hbw⟩

theorem OwnB.ne_block {w : World} {base g : Nat} {v : Value} {l : List UInt8} (h : OwnB w base v l) (hg : g < base) : some g ≠ v.ownBlock := by
  intro e
  have := (World.ownsRow.lt h g e.symm).1
  omega
theorem div_byte2 (q c : Nat) (h : q ≤ 9) (hc : c < 256) : ((UInt8.ofNat ((q * 256 + c) / 10)).toNat : Int) = (256 * (q : Int) + (c : Int)) / 10 := by
  rw [ofNat_toNat _ (by omega)]
  omega
set_option maxRecDepth 100000 in
set_option maxHeartbeats 4000000 in
theorem rprint_some (b : Bool) (s : ByteArray) (w : World) (hr : chk b s.toList = 0) (h0 : s.toList ≠ []) :
    Calls Tryd.prog 69 #[.agg #[.bool b, .string s]] w fun e w' => ∃ p : ByteArray, e = .returned (.tuple #[.string p, .int .i64 0]) ∧ Hid (p.toList = digitsOf b s.toList) ∧ Below w.heap.size w w' := by
  have hk := chk_zero_iff.1 hr
  have hlen := hk.1
  rw [size_of] at hlen
  have q1 : ((s.size : Int) == 0) = false := by
    have := size_of s
    have := List.length_pos_iff.2 h0
    exact beq_eq_false_iff_ne.2 (by omega)
  have HD := Lib.hid (dec_nv_len s.toList)
  have HH := Lib.hid hk.2.2
  have HN := Lib.hid h0
  have HR := Lib.hid hr
  clear hr hk h0
  go_enter Tryd.func69, Tryd.ntmps69
  go_wp2_with fail
  refine (rcheck_any b s _ (by omega) 0 HR.out).mono ?_
  rintro e w1 ⟨rfl, hb1⟩
  obtain ⟨c0, c1, hz, hbw⟩ := num_cells hb1
  clear hb1
  obtain ⟨W2, cap2, hcv, hrow, hb2, hz2, hcp2⟩ := conv_string2 w1 s
  have hrow2 := Lib.hid (RowAt.of_row hrow)
  have hb22 := Lib.hid hb2
  clear hrow hb2
  go_wp2_with fail
  go_loopw [5, 6] (fun x v wr => ∃ (o l : List UInt8) (off cap : Nat), x = .slice (some ⟨w1.heap.size, off, none⟩) l.length cap ∧ l.length ≤ cap ∧ OwnB wr W2.heap.size v o ∧ RowAt wr w1.heap.size off l ∧ Below w1.heap.size w1 wr ∧ W2.heap.size ≤ wr.heap.size ∧
      l.length ≤ 255 ∧ o.length + (dec (nv l)).length ≤ 765 ∧ RowKit.Hid (l.head? ≠ some 0 ∧ dec (nv s.toList) = dec (nv l) ++ o.reverse)) (fun _ v _ => 800 - lenOf v)
  case atStart =>
    refine ⟨[], s.toList, 0, cap2, by rw [size_of], by rw [size_of]; exact hcp2, OwnB.nil _ _, hrow2.out, hb22.out, Nat.le_refl _, by rw [size_of]; exact hlen, ?_, Lib.hid ⟨HH.out, by simp⟩⟩
    have := HD.out
    have h3 := size_of s
    simp only [List.length_nil]
    omega
  case round =>
    clear hrow2 hb22 hcv
    obtain ⟨o, l, off, cap, rfl, hlc, hO, hrow, hB, hs2, hl, hdl, HE⟩ := hrel
    by_cases hl0 : 0 < l.length
    · have hlne : l ≠ [] := by intro e; subst e; simp at hl0
      have HL := Lib.hid hlne
      clear hlne
      have hol : o.length < 765 := by
        have h1 := HE.out
        have h2 := dec_round h1.2 HL.out h1.1 _ rfl
        omega
      obtain ⟨wo, hwo⟩ : ∃ wo : World, wo = wr := ⟨_, rfl⟩
      subst hwo
      go_wp2_with fail
      go_loopw [7, 8] (fun r i wi => ∃ k q : Nat, k ≤ l.length ∧ i = .int .i64 k ∧ r = .int .i64 q ∧ q ≤ 9 ∧ RowKit.Hid (q = (divMod (l.take k) 0).2) ∧ OwnB wi W2.heap.size u6 o ∧ RowAt wi w1.heap.size off (divTo l k) ∧ Below w1.heap.size w1 wi ∧ W2.heap.size ≤ wi.heap.size) (fun _ i _ => l.length - (intOf i).toNat)
      case atStart => exact ⟨0, 0, Nat.zero_le _, rfl, rfl, by omega, Lib.hid rfl, hO, by rw [divTo_zero]; exact hrow, hB, hs2⟩
      case round =>
        clear hO hrow hB hs2
        obtain ⟨k, q, hk, rfl, rfl, hq, HQ, hO, hrow, hB, hs2⟩ := hrel
        have hg := hO.ne_block hz2
        by_cases hlt : k < l.length
        · have hll : k < (divTo l k).length := by rw [divTo_length l k hk]; exact hlt
          have hc := hrow.cell k hll
          have hf := hrow.frozen k hll
          obtain ⟨c, hcc⟩ : ∃ c, l[k] = c := ⟨_, rfl⟩
          rw [divTo_get l k hlt hll, hcc] at hc
          have hbd := c.toNat_lt
          have HS := Lib.hid (divTo_step l k hlt)
          rw [← HQ.out, hcc] at HS
          have HR2 := Lib.hid (hrow.set k (UInt8.ofNat ((q * 256 + c.toNat) / 10)) hll)
          have HO2 := Lib.hid (hO.setOther (i := off + k) (u := Value.int .u8 ((UInt8.ofNat ((q * 256 + c.toNat) / 10)).toNat : Int)) hg)
          have HB2 := Lib.hid (hB.setCell (p := ⟨w1.heap.size, off + k, none⟩) (Nat.le_refl _) (.int .u8 ((UInt8.ofNat ((q * 256 + c.toNat) / 10)).toNat : Int)))
          rw [div_byte2 q _ hq hbd] at HR2 HO2 HB2
          clear hcc hll hg
          go_wp2_with fail
          go_roundw
          case rel => exact ⟨k + 1, (q * 256 + c.toNat) % 10, by omega, by go_num, by go_num, by omega, Lib.hid (by rw [HS.out.2]), HO2.out, by rw [← HS.out.1]; exact HR2.out, HB2.out, by simpa [World.setCell] using hs2⟩
          case measure => simp [intOf]; omega
        · have HQ2 := Lib.hid (show q = (divMod l 0).2 by rw [HQ.out, List.take_of_length_le (by omega)])
          rw [divTo_end l k (by omega)] at hrow
          have hdl2 := divMod_length l 0
          have hR := Lib.hid (dec_round HE.out.2 HL.out HE.out.1 q HQ2.out)
          obtain ⟨l1, hl1⟩ : ∃ l1, (divMod l 0).1 = l1 := ⟨_, rfl⟩
          rw [hl1] at hrow hdl2 hR
          have HLQ := Lib.hid hdl2
          have HG := Lib.hid hg
          clear HQ hdl2 hl1 hg
          have hz3 := hB.size
          go_wp2_with (at_builtin; refine wpList_append_bytes3 rfl (.tmp 49) (.tmp 53) 111 rfl Tryd.underlying111 Tryd.info5 rfl (hO.alloc _) _ [UInt8.ofNat (48 + q)] 1 _ rfl rfl (bv_cells_oneI _ _ _ (add48 q hq)) (by omega) (by simp; omega) ?_; intro v2 w2 hO2 hg2)
          have hrow2 := Lib.hid ((hrow.alloc (.cells #[.int .u8 (48 + q)] 5)).grown hg2 HG.out)
          have hB2 : Below w1.heap.size w1 w2 := (hB.alloc hB.size _).grown hg2 (by simp; omega) (fun k hk => by have := (World.ownsRow.lt hO k hk).1; omega)
          have hs3 : W2.heap.size ≤ w2.heap.size := by have := hg2.size; simp at this; omega
          have l1o := hO.lenOf
          have l2o := hO2.lenOf
          have L1 := Lib.hid l1o
          have L2 := Lib.hid l2o
          clear hO hrow hB hs2 hg2 l1o l2o
          go_loop [5] (fun x => ∃ (m : List UInt8) (off2 cap2 : Nat), x = .slice (some ⟨w1.heap.size, off2, none⟩) m.length cap2 ∧ m.length ≤ cap2 ∧ m.length ≤ l1.length ∧ RowAt w2 w1.heap.size off2 m ∧ RowKit.Hid (strip m = strip l1)) (fun x => lenOf x)
          case atStart => exact ⟨l1, off, cap, by rw [HLQ.out], by rw [HLQ.out]; exact hlc, Nat.le_refl _, hrow2.out, Lib.hid rfl⟩
          case round =>
            clear hrow2
            obtain ⟨m, off2, cap2, rfl, hmc, hml, hrowm, HSt⟩ := hrel
            cases m with
            | nil =>
              have HF := Lib.hid (show strip l1 = [] by rw [← HSt.out]; rfl)
              have hrowf := Lib.hid hrowm
              clear hrowm HSt
              go_wp2_with fail
              go_roundw
              case rel =>
                refine ⟨o ++ [UInt8.ofNat (48 + q)], [], off2, cap2, rfl, by simp, hO2, hrowf.out, hB2, hs3, by simp, ?_, Lib.hid ⟨by simp, by have h1 := hR.out.1; rw [HF.out] at h1; exact h1⟩⟩
                have h1 := hR.out.2
                rw [HF.out] at h1
                rw [List.length_append]
                simp only [List.length_cons, List.length_nil]
                omega
              case measure =>
                rw [L1.out, L2.out, List.length_append]
                simp; omega
            | cons c m =>
              have hc := hrowm.cell 0 (by simp)
              have ht := Lib.hid hrowm.tail
              have hrowf := Lib.hid hrowm
              simp only [List.getElem_cons_zero, Nat.add_zero] at hc
              simp only [List.length_cons] at hmc hml
              have hbd := c.toNat_lt
              clear hrowm
              by_cases hc0 : c = 0
              · have p1 := u8_eqb (n := 0) rfl hc0
                have HT := Lib.hid (show strip m = strip l1 by rw [← HSt.out, hc0]; rfl)
                clear hc0 HSt
                by_cases hcap : cap2 = 1
                · have hm0 : m = [] := List.eq_nil_of_length_eq_zero (by omega)
                  subst hm0 hcap
                  go_wp2_with fail
                  go_round
                  case rel => exact ⟨[], off2, 0, rfl, by simp, by simp, RowAt.nil hrowf.out.1, HT⟩
                  case measure => simp [lenOf]
                · have hcp : 1 < cap2 := by omega
                  clear hcap
                  go_wp2_with fail
                  go_round
                  case rel => exact ⟨m, off2 + 1, cap2 - 1, rfl, by omega, by omega, ht.out, HT⟩
                  case measure => simp [lenOf]
              · have p1 := u8_neb (n := 0) rfl hc0
                have HF := Lib.hid (show strip l1 = c :: m by rw [← HSt.out]; exact strip_id (by simpa using hc0))
                have HC0 := Lib.hid hc0
                clear hc0 HSt
                go_wp2_with fail
                go_roundw
                case rel =>
                  refine ⟨o ++ [UInt8.ofNat (48 + q)], c :: m, off2, cap2, rfl, by simpa using hmc, hO2, hrowf.out, hB2, hs3, by have := HLQ.out; simp; omega, ?_, Lib.hid ⟨by simpa using HC0.out, by have h1 := hR.out.1; rw [HF.out] at h1; exact h1⟩⟩
                  have h1 := hR.out.2
                  rw [HF.out] at h1
                  rw [List.length_append]
                  simp only [List.length_cons, List.length_nil]
                  omega
                case measure =>
                  rw [L1.out, L2.out, List.length_append]
                  simp; omega
    · have hle : l = [] := List.eq_nil_of_length_eq_zero (by omega)
      subst hle
      have hdec : dec (nv s.toList) = o.reverse := by
        have := HE.out.2
        simpa [nv, dec_zero] using this
      have HDec := Lib.hid hdec
      have hcb : wr.cell? ⟨w.heap.size, 0, none⟩ = some (.bool b) := (hB.cell (p := ⟨w.heap.size, 0, none⟩) hz).trans c0
      have hol : o.length ≤ 765 := by omega
      have hbr : Below w.heap.size w wr := hbw.trans (hB.mono (Nat.le_of_lt hz))
      obtain ⟨a, capo, hv⟩ := hO.form2
      rw [hv] at hO ⊢
      obtain ⟨W1, hW1⟩ : ∃ W1 : World, W1 = wr := ⟨_, rfl⟩
      subst hW1
      have HO := Lib.hid hO
      have hwz : w.heap.size ≤ W1.heap.size := by omega
      clear hv hdec HE hdl hl c0 c1 hrow hO hB hlc
      cases b
      · go_wp2_with fail
        go_loopw [10, 11] (fun v y wi => ∃ z : Int, -1 ≤ z ∧ z < o.length ∧ y = .int .i64 z ∧ OwnB wi W1.heap.size v (o.reverse.take (o.length - (z + 1).toNat)) ∧ Below W1.heap.size W1 wi ∧ W1.heap.size ≤ wi.heap.size) (fun _ y _ => (intOf y + 1).toNat)
        case atStart => exact ⟨(o.length : Int) - 1, by omega, by omega, rfl, by rw [show o.length - ((o.length : Int) - 1 + 1).toNat = 0 by omega]; exact OwnB.nil _ _, Below.refl _ _, Nat.le_refl _⟩
        case round =>
          obtain ⟨z, hz1, hz2, rfl, hOz, hBz, hsz⟩ := hrel
          by_cases hz0 : 0 ≤ z
          · obtain ⟨j, rfl⟩ := Int.eq_ofNat_of_zero_le hz0
            have hjl : j < o.length := by omega
            obtain ⟨g, hg, hgb, hgl⟩ := HO.out.at_ (by omega)
            subst hg
            have hc2 := (HO.out.row.below hBz hgl).cell j hjl
            have HT := Lib.hid (take_rev o j hjl)
            rw [show o.length - ((j : Int) + 1).toNat = o.length - 1 - j by omega] at hOz
            have hoz : (o.reverse.take (o.length - 1 - j)).length ≤ 800 := by simp; omega
            obtain ⟨c, hc⟩ : ∃ c, o[j] = c := ⟨_, rfl⟩
            rw [hc] at hc2 HT
            clear hc
            go_wp2_with (at_builtin; refine wpList_append_bytes rfl (.tmp 78) (.tmp 83) 111 rfl Tryd.underlying111 Tryd.info5 rfl (hOz.alloc _) _ [c] 1 _ rfl rfl (bv_cells_oneI _ _ _ rfl) (by omega) (hBz.alloc hsz _) (by simp; omega) ?_; intro v7 w7 hO7 hB7 hs7)
            refine ⟨?_, by simp [intOf]⟩
            first
              | exact ⟨(j : Int) - 1, by omega, by omega, rfl, by rw [show o.length - ((j : Int) - 1 + 1).toNat = o.length - 1 - j + 1 by omega, HT.out]; exact hO7, hB7, hs7⟩
              | ((repeat apply Exists.intro); exact ⟨⟨(j : Int) - 1, by omega, by omega, rfl, by rw [show o.length - ((j : Int) - 1 + 1).toNat = o.length - 1 - j + 1 by omega, HT.out]; exact hO7, hB7, hs7⟩, rfl⟩)
          · have hze : o.length - (z + 1).toNat = o.length := by omega
            rw [hze, List.take_of_length_le (by simp)] at hOz
            have hcv := hOz.conv 111 9 Tryd.underlying111 Tryd.underlying5 Tryd.underlying9
            have hbr2 : Below w.heap.size w wr := hbr.trans (hBz.mono hwz)
            have hZE := Lib.hid hze
            clear hze hOz
            go_wp2_with fail
            go_ret2
            exact ⟨_, rfl, Lib.hid (by rw [ByteArray.toList_mk, digitsOf, if_neg HN.out, HDec.out]; rfl), hbr2⟩
      · go_wp2_with (at_builtin; refine wpList_append_bytes rfl (.tmp 68) (.tmp 69) 111 rfl Tryd.underlying111 Tryd.info5 rfl (OwnB.nil _ W1.heap.size) _ [45] 1 _ rfl rfl (bv_cells_one _ 45 _) (by simp) ((Below.refl W1.heap.size W1).alloc (Nat.le_refl _) _) (by simp) ?_; intro v2 w2 hO2 hB2 hs2)
        go_loopw [10, 11] (fun v y wi => ∃ z : Int, -1 ≤ z ∧ z < o.length ∧ y = .int .i64 z ∧ OwnB wi W1.heap.size v (45 :: o.reverse.take (o.length - (z + 1).toNat)) ∧ Below W1.heap.size W1 wi ∧ W1.heap.size ≤ wi.heap.size) (fun _ y _ => (intOf y + 1).toNat)
        case atStart => exact ⟨(o.length : Int) - 1, by omega, by omega, rfl, by rw [show o.length - ((o.length : Int) - 1 + 1).toNat = 0 by omega]; exact hO2, hB2, hs2⟩
        case round =>
          obtain ⟨z, hz1, hz2, rfl, hOz, hBz, hsz⟩ := hrel
          by_cases hz0 : 0 ≤ z
          · obtain ⟨j, rfl⟩ := Int.eq_ofNat_of_zero_le hz0
            have hjl : j < o.length := by omega
            obtain ⟨g, hg, hgb, hgl⟩ := HO.out.at_ (by omega)
            subst hg
            have hc2 := (HO.out.row.below hBz hgl).cell j hjl
            have HT := Lib.hid (take_rev o j hjl)
            rw [show o.length - ((j : Int) + 1).toNat = o.length - 1 - j by omega] at hOz
            have hoz : (45 :: o.reverse.take (o.length - 1 - j)).length ≤ 800 := by simp; omega
            obtain ⟨c, hc⟩ : ∃ c, o[j] = c := ⟨_, rfl⟩
            rw [hc] at hc2 HT
            clear hc
            go_wp2_with (at_builtin; refine wpList_append_bytes rfl (.tmp 78) (.tmp 83) 111 rfl Tryd.underlying111 Tryd.info5 rfl (hOz.alloc _) _ [c] 1 _ rfl rfl (bv_cells_oneI _ _ _ rfl) (by omega) (hBz.alloc hsz _) (by simp; omega) ?_; intro v7 w7 hO7 hB7 hs7)
            refine ⟨?_, by simp [intOf]⟩
            first
              | exact ⟨(j : Int) - 1, by omega, by omega, rfl, by rw [show o.length - ((j : Int) - 1 + 1).toNat = o.length - 1 - j + 1 by omega, HT.out]; exact hO7, hB7, hs7⟩
              | ((repeat apply Exists.intro); exact ⟨⟨(j : Int) - 1, by omega, by omega, rfl, by rw [show o.length - ((j : Int) - 1 + 1).toNat = o.length - 1 - j + 1 by omega, HT.out]; exact hO7, hB7, hs7⟩, rfl⟩)
          · have hze : o.length - (z + 1).toNat = o.length := by omega
            rw [hze, List.take_of_length_le (by simp)] at hOz
            have hcv := hOz.conv 111 9 Tryd.underlying111 Tryd.underlying5 Tryd.underlying9
            have hbr2 : Below w.heap.size w wr := hbr.trans (hBz.mono hwz)
            have hZE := Lib.hid hze
            clear hze hOz
            go_wp2_with fail
            go_ret2
            exact ⟨_, rfl, Lib.hid (by rw [ByteArray.toList_mk, digitsOf, if_neg HN.out, HDec.out]; rfl), hbr2⟩
theorem rprint_ok (b : Bool) (s : ByteArray) (w : World) (hr : chk b s.toList = 0) :
    Calls Tryd.prog 69 #[.agg #[.bool b, .string s]] w fun e w' => ∃ p : ByteArray, e = .returned (.tuple #[.string p, .int .i64 0]) ∧ Hid (p.toList = digitsOf b s.toList) ∧ Below w.heap.size w w' := by
  by_cases h : s.toList = []
  · exact (rprint_zero b s w hr h).mono fun _ _ ⟨he, hb⟩ => ⟨_, he, Lib.hid (by rw [bytes1, digitsOf, if_pos h]), hb⟩
  · exact rprint_some b s w hr h
end Go.Proofs.YtcgphlilijeifaaDoor
end
