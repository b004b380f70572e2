import Derived.Test.YtcgphlilijeifaaDoorLitPrintsQ14
section
/-
  The reader of a text: digits of sixteen.
-/
namespace Go.Proofs.YtcgphlilijeifaaDoor.L
open Go.RowKit
open V (Pt)

def wrongAt (x : Int) : Ending := .panicked [{ v := .iface 133 (.agg #[.int .i64 x]), recovered := false }]
theorem hex_index (c : UInt8) : Lib.indexByte hexS.toList c = (match unhex c with | some n => (n : Int) | none => -1) := by
  have key : ∀ i : Fin 256, decide (Lib.indexByte [48, 49, 50, 51, 52, 53, 54, 55, 56, 57, 97, 98, 99, 100, 101, 102] (UInt8.ofNat i.val) = (match unhex (UInt8.ofNat i.val) with | some n => (n : Int) | none => -1)) = true := by decide +kernel
  have e : hexS.toList = [48, 49, 50, 51, 52, 53, 54, 55, 56, 57, 97, 98, 99, 100, 101, 102] := by rw [Lib.toList_data]; rfl
  rw [e]
  have := u8_all (P := fun c => decide (Lib.indexByte [48, 49, 50, 51, 52, 53, 54, 55, 56, 57, 97, 98, 99, 100, 101, 102] c = (match unhex c with | some n => (n : Int) | none => -1)) = true) key c
  exact of_decide_eq_true this
theorem hex_is (c : UInt8) : decide ((0 : Int) ≤ Lib.indexByte hexS.toList c) = isHex c := by
  rw [hex_index]
  unfold isHex
  cases unhex c with
  | none => rfl
  | some n => simp
def digS : ByteArray := ⟨#[48, 49, 50, 51, 52, 53, 54, 55, 56, 57]⟩
theorem dig_is (c : UInt8) : decide ((0 : Int) ≤ Lib.indexByte digS.toList c) = isDigit c := by
  have key : ∀ i : Fin 256, decide ((0 : Int) ≤ Lib.indexByte [48, 49, 50, 51, 52, 53, 54, 55, 56, 57] (UInt8.ofNat i.val)) = isDigit (UInt8.ofNat i.val) := by decide +kernel
  have e : digS.toList = [48, 49, 50, 51, 52, 53, 54, 55, 56, 57] := by rw [Lib.toList_data]; rfl
  rw [e]
  exact u8_all (P := fun c => decide ((0 : Int) ≤ Lib.indexByte [48, 49, 50, 51, 52, 53, 54, 55, 56, 57] c) = isDigit c) key c

/-- The result's place, empty. -/
def Empty27 (w : World) (T : Nat) : Prop := Blk w T 27 #[.int .u8 0, .bool false, .bool false, .string ⟨#[]⟩, .string ⟨#[]⟩, .slice none 0 0]

set_option maxRecDepth 100000 in
set_option maxHeartbeats 1500000 in
theorem ldigits_bad (b : Nat) (s : ByteArray) (c : UInt8) (hc : c = 120 ∨ c = 35) (x : Int) (a : Nat) (w : World) (hr : Lr w b s a) (ha : a ≤ s.size) (hs : s.size ≤ 65536)
    (hbad : (c = 35 ∧ ((s.toList.drop a).takeWhile isHex).length ≠ 32) ∨ ((s.toList.drop a).takeWhile isHex).length % 2 ≠ 0) :
    Calls Tryd.prog 109 #[.pointer (some ⟨b, 0, none⟩), .int .i64 x, .int .u8 (c.toNat : Int)] w fun e w' => e = wrongAt x ∧ Gv b w w' := by
  have hba := hbad
  obtain ⟨t, ht⟩ : ∃ t, (s.toList.drop a).takeWhile isHex = t := ⟨_, rfl⟩
  rw [ht] at hba
  have HT := Lib.hid ht
  have hrow := row_any b s hexS isHex hex_is a
  go_enter Tryd.func109, Tryd.ntmps109
  go_wp2_with fail
  refine (hrow _ (hr.alloc _) ha hs).mono ?_
  rintro e w1 ⟨p, rfl, hp, hr1, hg1⟩
  have hg := ((Gv.refl b w).alloc _).trans hg1
  have hpn : p.size = t.length := by rw [← size_of, hp.out, HT.out]
  clear hrow hbad ht hr1 hg1 hr
  by_cases h35 : c = 35
  · subst h35
    by_cases h32 : t.length = 32
    · rcases hba with h | h
      · exact absurd h32 h.2
      · omega
    · have q2 : ((p.size : Int) != 32) = true := by simp; omega
      go_wp2_with fail
      exact ⟨rfl, rfl, hg⟩
  · have hc2 : c = 120 := hc.resolve_right h35
    subst hc2
    have h2 : t.length % 2 ≠ 0 := by
      rcases hba with h | h
      · exact absurd h.1 h35
      · exact h
    have q2 : ((p.size : Int).tmod 2 != 0) = true := by
      rw [Int.tmod_eq_emod_of_nonneg (by omega)]
      simp; omega
    have q3 : ((p.size : Int) % 2 != 0) = true := by simp; omega
    go_wp2_with fail
    exact ⟨rfl, rfl, hg⟩

theorem hex_at {p : ByteArray} {t : List UInt8} (h : p.toList = t) (ht : t.all isHex = true) (m : Nat) (hm : m < p.size) : ∃ x : Nat, unhex p[m] = some x ∧ x < 16 ∧ Lib.indexByte hexS.toList p[m] = (x : Int) ∧ t[m]? = some p[m] := by
  have e : t[m]? = some p[m] := by rw [← h]; exact at_some p m hm
  have hx : isHex p[m] = true := List.all_eq_true.1 ht _ (List.mem_of_getElem? e)
  unfold isHex at hx
  cases hu : unhex p[m] with
  | none => rw [hu] at hx; cases hx
  | some x => exact ⟨x, rfl, (hexC_unhex hu).2, by rw [hex_index, hu], e⟩
theorem or16 {x1 x2 : Nat} (h1 : x1 < 16) (h2 : x2 < 16) : IntKind.u8.wrap (bits BinOp.or IntKind.i64 (IntKind.i64.wrap ((x1 : Int) * 16)) (x2 : Int)) = ((byte2 x1 x2).toNat : Int) := by
  have key : ∀ a b : Fin 16, IntKind.u8.wrap (bits BinOp.or IntKind.i64 (IntKind.i64.wrap ((a.val : Int) * 16)) (b.val : Int)) = ((byte2 a.val b.val).toNat : Int) := by decide +kernel
  exact key ⟨x1, h1⟩ ⟨x2, h2⟩
theorem or16b {x1 x2 : Nat} (h1 : x1 < 16) (h2 : x2 < 16) : bits BinOp.or IntKind.i64 ((x1 : Int) * 16) (x2 : Int) % 256 = ((byte2 x1 x2).toNat : Int) := by
  have key : ∀ a b : Fin 16, bits BinOp.or IntKind.i64 ((a.val : Int) * 16) (b.val : Int) % 256 = ((byte2 a.val b.val).toNat : Int) := by decide +kernel
  exact key ⟨x1, h1⟩ ⟨x2, h2⟩
/-- What has been filled in, zeros behind. -/
def filled (u : List UInt8) (j : Nat) : List UInt8 := u.take j ++ List.replicate (u.length - j) 0
theorem filled_len (u : List UInt8) (j : Nat) (h : j ≤ u.length) : (filled u j).length = u.length := by
  unfold filled
  rw [List.length_append, List.length_take, List.length_replicate]
  omega
theorem filled_zero (u : List UInt8) : filled u 0 = List.replicate u.length 0 := by simp [filled]
theorem filled_all (u : List UInt8) : filled u u.length = u := by simp [filled]
theorem filled_step (u : List UInt8) (j : Nat) (h : j < u.length) : (filled u j).set j u[j] = filled u (j + 1) := by
  unfold filled
  rw [List.take_succ_eq_append_getElem h, List.append_assoc, List.set_append_right _ _ (by rw [List.length_take]; omega), List.length_take, show j - min j u.length = 0 by omega, show u.length - j = (u.length - (j + 1)) + 1 by omega, List.replicate_succ, List.set_cons_zero]
  rfl
theorem bytesH_len : ∀ (n : Nat) (t : List UInt8), t.length = 2 * n → (bytesH t).length = n
  | 0, t, h => by
    have : t = [] := List.eq_nil_of_length_eq_zero (by omega)
    subst this; rfl
  | n + 1, [], h => by simp at h
  | n + 1, [_], h => by simp at h; omega
  | n + 1, a :: c :: t, h => by
    rw [bytesH, List.length_cons, bytesH_len n t (by simp at h; omega)]
theorem bytesH_at : ∀ (n : Nat) (t : List UInt8) (ht : t.length = 2 * n) (j : Nat) (h : j < n) (h2 : j < (bytesH t).length), (bytesH t)[j] = byte2 ((unhex (t[2 * j]'(by omega))).getD 0) ((unhex (t[2 * j + 1]'(by omega))).getD 0)
  | 0, t, ht, j, h, h2 => by omega
  | n + 1, [], ht, j, h, h2 => by simp at ht
  | n + 1, [_], ht, j, h, h2 => by simp at ht; omega
  | n + 1, a :: c :: t, ht, j, h, h2 => by
    cases j with
    | zero => simp [bytesH]
    | succ j =>
      have ht' : t.length = 2 * n := by simp at ht; omega
      have := bytesH_at n t ht' j (by omega) (by rw [bytesH_len n t ht']; omega)
      simp only [bytesH, List.getElem_cons_succ]
      rw [this]
      simp only [show 2 * (j + 1) = 2 * j + 1 + 1 by omega, List.getElem_cons_succ]

theorem six_gv {b T : Nat} {w wr : World} (h : Gv b w wr) (hT : w.heap.size ≤ T) (v0 v1 v2 v3 v4 v5 : Value) : Gv b w ((((((wr.setCell ⟨T, 0, none⟩ v0).setCell ⟨T, 1, none⟩ v1).setCell ⟨T, 2, none⟩ v2).setCell ⟨T, 3, none⟩ v3).setCell ⟨T, 4, none⟩ v4).setCell ⟨T, 5, none⟩ v5) :=
  (((((h.setNew hT 0 v0).setNew hT 1 v1).setNew hT 2 v2).setNew hT 3 v3).setNew hT 4 v4).setNew hT 5 v5
theorem six_blk {g T : Nat} {wr : World} {t : TypeId} {cs : Array Value} (h : Blk wr g t cs) (hne : g ≠ T) (v0 v1 v2 v3 v4 v5 : Value) : Blk ((((((wr.setCell ⟨T, 0, none⟩ v0).setCell ⟨T, 1, none⟩ v1).setCell ⟨T, 2, none⟩ v2).setCell ⟨T, 3, none⟩ v3).setCell ⟨T, 4, none⟩ v4).setCell ⟨T, 5, none⟩ v5) g t cs :=
  (Below.heap_setCell _ _ _ _ hne).trans ((Below.heap_setCell _ _ _ _ hne).trans ((Below.heap_setCell _ _ _ _ hne).trans ((Below.heap_setCell _ _ _ _ hne).trans ((Below.heap_setCell _ _ _ _ hne).trans ((Below.heap_setCell _ _ _ _ hne).trans h)))))
theorem six_lr {b T : Nat} {wr : World} {s : ByteArray} {a : Nat} (h : Lr wr b s a) (hne : b ≠ T) (v0 v1 v2 v3 v4 v5 : Value) : Lr ((((((wr.setCell ⟨T, 0, none⟩ v0).setCell ⟨T, 1, none⟩ v1).setCell ⟨T, 2, none⟩ v2).setCell ⟨T, 3, none⟩ v3).setCell ⟨T, 4, none⟩ v4).setCell ⟨T, 5, none⟩ v5) b s a := six_blk h hne v0 v1 v2 v3 v4 v5
set_option maxRecDepth 100000 in
set_option maxHeartbeats 3000000 in
theorem ldigits_ok (b : Nat) (s : ByteArray) (c : UInt8) (hc : c = 120 ∨ c = 35) (x : Int) (a : Nat) (w : World) (hr : Lr w b s a) (ha : a ≤ s.size) (hs : s.size ≤ 65536)
    (t : List UInt8) (ht : (s.toList.drop a).takeWhile isHex = t) (h35 : c = 35 → t.length = 32) (n : Nat) (h2 : t.length = 2 * n) :
    Calls Tryd.prog 109 #[.pointer (some ⟨b, 0, none⟩), .int .i64 x, .int .u8 (c.toNat : Int)] w fun e w' => ∃ q : ByteArray, e = .returned (.agg #[.int .u8 ((if c = 35 then 4 else 3 : Nat) : Int), .bool false, .bool false, .string ⟨#[]⟩, .string q, .slice none 0 0]) ∧
      Hid (q.toList = bytesH t) ∧ Lr w' b s (a + t.length) ∧ Gv b w w' := by
  have hth : t.all isHex = true := by rw [← ht]; exact while_all isHex _
  have HTH := Lib.hid hth
  have hul := bytesH_len n t h2
  have htle := takeWhile_len_le s isHex a ha
  rw [ht] at htle
  have HT := Lib.hid ht
  have hrow := row_any b s hexS isHex hex_is a
  have hbl : b < w.heap.size := Blk.lt hr
  go_enter Tryd.func109, Tryd.ntmps109
  go_wp2_with fail
  refine (hrow _ (hr.alloc _) ha hs).mono ?_
  rintro e w1 ⟨p, rfl, hp, hr1, hg1⟩
  have hE : Empty27 w1 w.heap.size := hg1.blk (by omega) (Blk.new w 27 _)
  have hg := ((Gv.refl b w).alloc _).trans hg1
  have hpl : p.toList = t := by rw [hp.out, HT.out]
  have HPL := Lib.hid hpl
  have hpn : p.size = 2 * n := by rw [← size_of, hpl, h2]
  rw [HT.out] at hr1
  have hw1 : w.heap.size < w1.heap.size := hE.lt
  have e2 : ((p.size : Int).tmod 2 != 0) = false := by
    rw [Int.tmod_eq_emod_of_nonneg (by omega)]
    simp; omega
  have e3 : ((p.size : Int) % 2 != 0) = false := by simp; omega
  obtain ⟨i0, hi, hz0, hz1, hz2⟩ := info_parts Tryd.info5
  clear hrow hg1 ht hpl hr hth
  rcases hc with rfl | rfl
  · skip
    go_wp2_with (first
      | (at_make; refine wpList_make_full _ rfl _ _ 111 rfl w1.heap.size 5 i0 (.int .u8 0) 1 Tryd.underlying111 hi hz0 hz1 _ _ _ _ n rfl rfl rfl rfl (by rw [hz2]; omega) (by unfold maxLen; omega) (Nat.le_refl _) ?_; intro w2 hown hgrow)
      | (at_builtin; refine wpList_len rfl (.tmp 32) 111 rfl slice111 rfl ?_))
    have hown2 : OwnB w2 w1.heap.size (.slice (some ⟨w1.heap.size, 0, none⟩) n n) (List.replicate n 0) := by
      unfold OwnB
      rw [show (Value.int IntKind.u8 0).cells = #[.int .u8 0] from rfl, Nat.mul_one, toList_madeCells_one] at hown
      simpa [bv] using hown
    have hB2 : Below w1.heap.size w1 w2 := (Below.refl _ _).grown hgrow (Nat.le_refl _) (by intro k hk; cases hk)
    have hg2 := hg.trans (Gv.of_below (b := b) hB2)
    have hr2 := hr1.later hB2
    have hE2 : Empty27 w2 w.heap.size := Blk.below hE hB2 hw1
    clear hown hgrow hB2 hg hr1 hE hi hz0 hz1 hz2
    go_loopw [34] (fun i wr => ∃ j : Nat, j ≤ n ∧ i = .int .i64 j ∧ OwnB wr w1.heap.size (.slice (some ⟨w1.heap.size, 0, none⟩) n n) (filled (bytesH t) j) ∧ RowKit.Hid (Lr wr b s (a + t.length) ∧ Empty27 wr w.heap.size ∧ Gv b w wr)) (fun i _ => n - (intOf i).toNat)
    case atStart => exact ⟨0, Nat.zero_le _, rfl, by rw [filled_zero, hul]; exact hown2, Lib.hid ⟨hr2, hE2, hg2⟩⟩
    case round =>
      clear hown2 hg2 hr2 hE2
      obtain ⟨j, hj, rfl, hO, HH⟩ := hrel
      by_cases hlt : j < n
      · have q3 : decide (j < n) = true := by simpa using hlt
        obtain ⟨m, hm⟩ : ∃ m, 2 * j = m := ⟨_, rfl⟩
        obtain ⟨m1, hm1⟩ : ∃ m1, m + 1 = m1 := ⟨_, rfl⟩
        have k1 : m < p.size := by omega
        have k2 : m1 < p.size := by omega
        obtain ⟨x1, u1, b1, i1, t1⟩ := hex_at HPL.out HTH.out m k1
        obtain ⟨x2, u2, b2, i2, t2⟩ := hex_at HPL.out HTH.out m1 k2
        have HX1 := Lib.hid i1
        have HX2 := Lib.hid i2
        have HS := Lib.hid (show (filled (bytesH t) j).set j (byte2 x1 x2) = filled (bytesH t) (j + 1) by
          have hj2 : j < (bytesH t).length := by rw [hul]; exact hlt
          have e := bytesH_at n t h2 j hlt hj2
          have g1 : t[2 * j]'(by omega) = p[m] := by have := List.getElem?_eq_some_iff.1 t1; obtain ⟨_, e1⟩ := this; simp only [hm]; exact e1
          have g2 : t[2 * j + 1]'(by omega) = p[m1] := by have := List.getElem?_eq_some_iff.1 t2; obtain ⟨_, e1⟩ := this; simp only [hm, hm1]; exact e1
          rw [g1, g2, u1, u2] at e
          simp only [Option.getD_some] at e
          rw [← e]
          exact filled_step _ j hj2)
        clear u1 u2 i1 i2 t1 t2
        have e41 : 2 * (j : Int) = (m : Int) := by omega
        have e42 : (m : Int) + 1 = (m1 : Int) := by omega
        have w41 : IntKind.i64.wrap (m : Int) = (m : Int) := wrap_small _ (by omega) (by omega)
        have w42 : IntKind.i64.wrap (m1 : Int) = (m1 : Int) := wrap_small _ (by omega) (by omega)
        clear hm hm1
        have hrow2 := hO.row
        have hfl : j < (filled (bytesH t) j).length := by rw [filled_len _ _ (by omega), hul]; exact hlt
        have hcell := hrow2.cell j hfl
        have hfrz := hrow2.frozen j hfl
        obtain ⟨z, hz⟩ : ∃ z, (filled (bytesH t) j)[j] = z := ⟨_, rfl⟩
        rw [hz] at hcell
        have HO := Lib.hid hO
        clear hz hrow2 hfl hO hpn
        go_wp2_with fail
        go_region_held3 (fun _ => True) (trivial) (first
          | (go_at_call 125; refine (indexByte_c _ _ _ _ HX1.out).mono ?_; rintro e w9 ⟨rfl, rfl⟩)
          | (go_at_call 125; refine (indexByte_c _ _ _ _ HX2.out).mono ?_; rintro e w9 ⟨rfl, rfl⟩))
        all_goals
          go_wp2_with fail
          first | rw [or16b b1 b2] | rw [or16 b1 b2]
          have hO3 := OwnB.set HO.out (by rw [filled_len _ _ (by omega), hul]) j (byte2 x1 x2)
          rw [HS.out] at hO3
          obtain ⟨hA, hBb, hC⟩ := HH.out
          have hne : w.heap.size ≠ w1.heap.size := by omega
          have hnb : b ≠ w1.heap.size := by omega
          refine ⟨⟨j + 1, by omega, rfl, hO3, Lib.hid ⟨(Below.heap_setCell _ _ _ _ hnb).trans hA, (Below.heap_setCell _ _ _ _ hne).trans hBb, Gv.drew (hC.setNew (by omega) _ _)⟩⟩, by simp [intOf]; omega⟩
      · have q3 : decide (j < n) = false := by simpa using hlt
        have hje : j = n := by omega
        subst hje
        obtain ⟨hA, hBb, hC⟩ := HH.out
        have hfa : filled (bytesH t) j = bytesH t := by rw [← hul]; exact filled_all _
        rw [hfa] at hO
        have hcv := hO.conv (P := Tryd.prog) 111 9 Tryd.underlying111 (by kernel_rfl) (by kernel_rfl)
        have c0 := hBb.cell 0
        have c1 := hBb.cell 1
        have c2 := hBb.cell 2
        have c3 := hBb.cell 3
        have c4 := hBb.cell 4
        have c5 := hBb.cell 5
        have z0 := hBb.frozen 0
        have z1 := hBb.frozen 1
        have z2 := hBb.frozen 2
        have z3 := hBb.frozen 3
        have z4 := hBb.frozen 4
        have z5 := hBb.frozen 5
        have HH2 := HH
        clear hA hBb hC hfa hO HH
        simp at c0 c1 c2 c3 c4 c5
        go_wp2_with fail
        refine bodyPost_ret (v := .agg #[.int .u8 3, .bool false, .bool false, .string ⟨#[]⟩, .string ⟨(bytesH t).toArray⟩, .slice none 0 0]) (by simp [results, Tryd.results109, go_sem, c0, c1, c2, c3, c4, c5]) rfl ⟨_, rfl, Lib.hid (by rw [Lib.toList_data]), ?_, six_gv HH2.out.2.2 (Nat.le_refl _) _ _ _ _ _ _⟩
        have hL := HH2.out.1
        rw [h2] at hL
        have hne : b ≠ w.heap.size := by omega
        exact six_lr hL hne _ _ _ _ _ _
  · have e4 : (2 * (n : Int) != 32) = false := by have := h35 rfl; simp; omega
    go_wp2_with (first
      | (at_make; refine wpList_make_full _ rfl _ _ 111 rfl w1.heap.size 5 i0 (.int .u8 0) 1 Tryd.underlying111 hi hz0 hz1 _ _ _ _ n rfl rfl rfl rfl (by rw [hz2]; omega) (by unfold maxLen; omega) (Nat.le_refl _) ?_; intro w2 hown hgrow)
      | (at_builtin; refine wpList_len rfl (.tmp 32) 111 rfl slice111 rfl ?_))
    have hown2 : OwnB w2 w1.heap.size (.slice (some ⟨w1.heap.size, 0, none⟩) n n) (List.replicate n 0) := by
      unfold OwnB
      rw [show (Value.int IntKind.u8 0).cells = #[.int .u8 0] from rfl, Nat.mul_one, toList_madeCells_one] at hown
      simpa [bv] using hown
    have hB2 : Below w1.heap.size w1 w2 := (Below.refl _ _).grown hgrow (Nat.le_refl _) (by intro k hk; cases hk)
    have hg2 := hg.trans (Gv.of_below (b := b) hB2)
    have hr2 := hr1.later hB2
    have hE2 : Empty27 w2 w.heap.size := Blk.below hE hB2 hw1
    clear hown hgrow hB2 hg hr1 hE hi hz0 hz1 hz2
    go_loopw [34] (fun i wr => ∃ j : Nat, j ≤ n ∧ i = .int .i64 j ∧ OwnB wr w1.heap.size (.slice (some ⟨w1.heap.size, 0, none⟩) n n) (filled (bytesH t) j) ∧ RowKit.Hid (Lr wr b s (a + t.length) ∧ Empty27 wr w.heap.size ∧ Gv b w wr)) (fun i _ => n - (intOf i).toNat)
    case atStart => exact ⟨0, Nat.zero_le _, rfl, by rw [filled_zero, hul]; exact hown2, Lib.hid ⟨hr2, hE2, hg2⟩⟩
    case round =>
      clear hown2 hg2 hr2 hE2
      obtain ⟨j, hj, rfl, hO, HH⟩ := hrel
      by_cases hlt : j < n
      · have q3 : decide (j < n) = true := by simpa using hlt
        obtain ⟨m, hm⟩ : ∃ m, 2 * j = m := ⟨_, rfl⟩
        obtain ⟨m1, hm1⟩ : ∃ m1, m + 1 = m1 := ⟨_, rfl⟩
        have k1 : m < p.size := by omega
        have k2 : m1 < p.size := by omega
        obtain ⟨x1, u1, b1, i1, t1⟩ := hex_at HPL.out HTH.out m k1
        obtain ⟨x2, u2, b2, i2, t2⟩ := hex_at HPL.out HTH.out m1 k2
        have HX1 := Lib.hid i1
        have HX2 := Lib.hid i2
        have HS := Lib.hid (show (filled (bytesH t) j).set j (byte2 x1 x2) = filled (bytesH t) (j + 1) by
          have hj2 : j < (bytesH t).length := by rw [hul]; exact hlt
          have e := bytesH_at n t h2 j hlt hj2
          have g1 : t[2 * j]'(by omega) = p[m] := by have := List.getElem?_eq_some_iff.1 t1; obtain ⟨_, e1⟩ := this; simp only [hm]; exact e1
          have g2 : t[2 * j + 1]'(by omega) = p[m1] := by have := List.getElem?_eq_some_iff.1 t2; obtain ⟨_, e1⟩ := this; simp only [hm, hm1]; exact e1
          rw [g1, g2, u1, u2] at e
          simp only [Option.getD_some] at e
          rw [← e]
          exact filled_step _ j hj2)
        clear u1 u2 i1 i2 t1 t2
        have e41 : 2 * (j : Int) = (m : Int) := by omega
        have e42 : (m : Int) + 1 = (m1 : Int) := by omega
        have w41 : IntKind.i64.wrap (m : Int) = (m : Int) := wrap_small _ (by omega) (by omega)
        have w42 : IntKind.i64.wrap (m1 : Int) = (m1 : Int) := wrap_small _ (by omega) (by omega)
        clear hm hm1
        have hrow2 := hO.row
        have hfl : j < (filled (bytesH t) j).length := by rw [filled_len _ _ (by omega), hul]; exact hlt
        have hcell := hrow2.cell j hfl
        have hfrz := hrow2.frozen j hfl
        obtain ⟨z, hz⟩ : ∃ z, (filled (bytesH t) j)[j] = z := ⟨_, rfl⟩
        rw [hz] at hcell
        have HO := Lib.hid hO
        clear hz hrow2 hfl hO hpn
        go_wp2_with fail
        go_region_held3 (fun _ => True) (trivial) (first
          | (go_at_call 125; refine (indexByte_c _ _ _ _ HX1.out).mono ?_; rintro e w9 ⟨rfl, rfl⟩)
          | (go_at_call 125; refine (indexByte_c _ _ _ _ HX2.out).mono ?_; rintro e w9 ⟨rfl, rfl⟩))
        all_goals
          go_wp2_with fail
          first | rw [or16b b1 b2] | rw [or16 b1 b2]
          have hO3 := OwnB.set HO.out (by rw [filled_len _ _ (by omega), hul]) j (byte2 x1 x2)
          rw [HS.out] at hO3
          obtain ⟨hA, hBb, hC⟩ := HH.out
          have hne : w.heap.size ≠ w1.heap.size := by omega
          have hnb : b ≠ w1.heap.size := by omega
          refine ⟨⟨j + 1, by omega, rfl, hO3, Lib.hid ⟨(Below.heap_setCell _ _ _ _ hnb).trans hA, (Below.heap_setCell _ _ _ _ hne).trans hBb, Gv.drew (hC.setNew (by omega) _ _)⟩⟩, by simp [intOf]; omega⟩
      · have q3 : decide (j < n) = false := by simpa using hlt
        have hje : j = n := by omega
        subst hje
        obtain ⟨hA, hBb, hC⟩ := HH.out
        have hfa : filled (bytesH t) j = bytesH t := by rw [← hul]; exact filled_all _
        rw [hfa] at hO
        have hcv := hO.conv (P := Tryd.prog) 111 9 Tryd.underlying111 (by kernel_rfl) (by kernel_rfl)
        have c0 := hBb.cell 0
        have c1 := hBb.cell 1
        have c2 := hBb.cell 2
        have c3 := hBb.cell 3
        have c4 := hBb.cell 4
        have c5 := hBb.cell 5
        have z0 := hBb.frozen 0
        have z1 := hBb.frozen 1
        have z2 := hBb.frozen 2
        have z3 := hBb.frozen 3
        have z4 := hBb.frozen 4
        have z5 := hBb.frozen 5
        have HH2 := HH
        clear hA hBb hC hfa hO HH
        simp at c0 c1 c2 c3 c4 c5
        go_wp2_with fail
        refine bodyPost_ret (v := .agg #[.int .u8 4, .bool false, .bool false, .string ⟨#[]⟩, .string ⟨(bytesH t).toArray⟩, .slice none 0 0]) (by simp [results, Tryd.results109, go_sem, c0, c1, c2, c3, c4, c5]) rfl ⟨_, rfl, Lib.hid (by rw [Lib.toList_data]), ?_, six_gv HH2.out.2.2 (Nat.le_refl _) _ _ _ _ _ _⟩
        have hL := HH2.out.1
        rw [show t.length = 32 from h35 (by trivial)] at hL
        have hne : b ≠ w.heap.size := by omega
        exact six_lr hL hne _ _ _ _ _ _
end Go.Proofs.YtcgphlilijeifaaDoor.L
end
section
/-
  Reading between quotes, step by step, in plain words.
-/
namespace Go.Proofs.YtcgphlilijeifaaDoor.L
open V (Pt)

/-- M has been read from R on, T is what comes. -/
def QS (q : UInt8) (R M T : List UInt8) : Prop := quotedF q R = (quotedF q T).map fun x => (M ++ x.1, x.2)
theorem QS.start (q : UInt8) (R : List UInt8) : QS q R [] R := by
  unfold QS
  cases quotedF q R <;> rfl
theorem QS.step {q : UInt8} {R M T T' : List UInt8} {d : UInt8} (h : QS q R M T) (e : quotedF q T = (quotedF q T').map fun x => (d :: x.1, x.2)) : QS q R (M ++ [d]) T' := by
  unfold QS at h ⊢
  rw [h, e]
  cases quotedF q T' <;> simp
theorem QS.close {q : UInt8} {R M T : List UInt8} (h : QS q R M (q :: T)) : quotedF q R = some (M, T) := by
  unfold QS at h
  rw [h, quotedF_close]
  simp
theorem QS.bad {q : UInt8} {R M T : List UInt8} (h : QS q R M T) (e : quotedF q T = none) : quotedF q R = none := by
  unfold QS at h
  rw [h, e]; rfl
theorem q_end (q : UInt8) : quotedF q [] = none := by rw [quotedF.eq_def]
theorem q_odd {q c : UInt8} (h1 : c ≠ q) (h2 : plainB c = false) (T : List UInt8) : quotedF q (c :: T) = none := by rw [quotedF.eq_def]; simp [h1, h2]
theorem q_sl_end {q : UInt8} (h : (92 : UInt8) ≠ q) : quotedF q [92] = none := by rw [quotedF.eq_def]; simp [h, p92]
theorem q_sl_odd {q d : UInt8} (h : (92 : UInt8) ≠ q) (h1 : d ≠ q) (h2 : d ≠ 92) (h3 : d ≠ 120) (T : List UInt8) : quotedF q (92 :: d :: T) = none := by rw [quotedF.eq_def]; simp [h, p92, h1, h2, h3]
theorem q_x0 {q : UInt8} (h : (92 : UInt8) ≠ q) (hx : (120 : UInt8) ≠ q) : quotedF q [92, 120] = none := by rw [quotedF.eq_def]; simp [h, p92, hx]
theorem q_x1 {q : UInt8} (h : (92 : UInt8) ≠ q) (hx : (120 : UInt8) ≠ q) (a : UInt8) : quotedF q [92, 120, a] = none := by rw [quotedF.eq_def]; simp [h, p92, hx]
theorem q_xh {q : UInt8} (h : (92 : UInt8) ≠ q) (hx : (120 : UInt8) ≠ q) {a b : UInt8} (ha : unhex a = none) (T : List UInt8) : quotedF q (92 :: 120 :: a :: b :: T) = none := by rw [quotedF.eq_def]; simp [h, p92, hx, ha]
theorem q_xl {q : UInt8} (h : (92 : UInt8) ≠ q) (hx : (120 : UInt8) ≠ q) {a b : UInt8} (hb : unhex b = none) (T : List UInt8) : quotedF q (92 :: 120 :: a :: b :: T) = none := by
  rw [quotedF.eq_def]
  cases ha : unhex a <;> simp [h, p92, hx, ha, hb]
theorem q_xp {q : UInt8} (h : (92 : UInt8) ≠ q) (hx : (120 : UInt8) ≠ q) {a b : UInt8} {x y : Nat} (ha : unhex a = some x) (hb : unhex b = some y) (hp : plainB (byte2 x y) = true) (T : List UInt8) : quotedF q (92 :: 120 :: a :: b :: T) = none := by
  rw [quotedF.eq_def]; simp [h, p92, hx, ha, hb, hp]
theorem q_short {q : UInt8} (h : (92 : UInt8) ≠ q) (hx : (120 : UInt8) ≠ q) {T : List UInt8} (hT : T.length < 2) : quotedF q (92 :: 120 :: T) = none := by
  match T, hT with
  | [], _ => exact q_x0 h hx
  | [a], _ => exact q_x1 h hx a
end Go.Proofs.YtcgphlilijeifaaDoor.L
end
