import Derived.Deep.RegionLaw
import Derived.Deep.AppendLies
import Derived.Test.YtcgphlilijeifaaDoorLitPrintsG6
import Derived.Test.YtcgphlilijeifaaDoorLitPrintsG21
import Derived.Test.YtcgphlilijeifaaDoorLitPrintsG22
/-
  lit.bytes: its contract.
-/
namespace Go.Proofs.YtcgphlilijeifaaDoor.L
open Go.RowKit
open V (Pt)

def hexS : ByteArray := ⟨#[48, 49, 50, 51, 52, 53, 54, 55, 56, 57, 97, 98, 99, 100, 101, 102]⟩
theorem hexS_at {n k : Nat} (h : n < 16) (e : k = n) (hk : k < hexS.size) : hexS[k]'hk = hexC n := by
  subst e
  have key : ∀ i : Fin 16, hexS[i.val]'(show i.val < 16 from i.isLt) = hexC i.val := by decide +kernel
  exact key ⟨k, h⟩
theorem hi_at (c : UInt8) (hk : ((c.toNat : Int) / 16).toNat < hexS.size) : hexS[((c.toNat : Int) / 16).toNat]'hk = hexC (c.toNat / 16) := hexS_at (by have := c.toNat_lt; omega) (by omega) hk
theorem lo_at (c : UInt8) (hk : (bits BinOp.and IntKind.u8 (c.toNat : Int) 15).toNat < hexS.size) : hexS[(bits BinOp.and IntKind.u8 (c.toNat : Int) 15).toNat]'hk = hexC (c.toNat % 16) :=
  hexS_at (by omega) (by rw [and_bits]; omega) hk
theorem own_push {w : World} {base n : Nat} {L m M : List UInt8} {v : Value} (h : w.ownsRow base 5 1 v n (bv L ++ bv m)) (hn : n = L.length + m.length) (hM : L ++ m = M) : OwnB w base v M := by
  subst hM
  unfold OwnB
  rw [bv_append] at h
  rw [hn] at h
  simpa using h
theorem hexL_take {s : ByteArray} {j : Nat} (h : j < s.size) : hexL (s.toList.take (j + 1)) = hexL (s.toList.take j) ++ [hexC (s[j].toNat / 16), hexC (s[j].toNat % 16)] := by
  rw [List.take_succ_eq_append_getElem (by rw [size_of]; exact h)]
  have e : s.toList[j]'(by rw [size_of]; exact h) = s[j] := by
    simp only [Lib.toList_data]; rfl
  rw [e]
  simp [hexL, hex2]
theorem plainc_any (c : UInt8) (w : World) : Calls Tryd.prog 123 #[.int .u8 (c.toNat : Int)] w fun e w' => e = .returned (.bool (plainB c)) ∧ Below w.heap.size w w' := by
  by_cases h1 : 32 ≤ c.toNat
  · by_cases h2 : c.toNat ≤ 126
    · have HP := Lib.hid (show plainB c = true by simp [plainB, h1, h2])
      have q1 : decide ((32 : Int) ≤ (c.toNat : Int)) = true := decide_eq_true (by omega)
      have q2 : decide ((c.toNat : Int) ≤ 126) = true := decide_eq_true (by omega)
      clear h1 h2
      go_enter Tryd.func123, Tryd.ntmps123
      go_wp2_with fail
      go_ret
      exact ⟨by rw [HP.out]; rfl, Below.refl _ _⟩
    · have HP := Lib.hid (show plainB c = false by simp [plainB, h1, h2])
      have q1 : decide ((32 : Int) ≤ (c.toNat : Int)) = true := decide_eq_true (by omega)
      have q2 : decide ((c.toNat : Int) ≤ 126) = false := decide_eq_false (by omega)
      clear h1 h2
      go_enter Tryd.func123, Tryd.ntmps123
      go_wp2_with fail
      go_ret
      exact ⟨by rw [HP.out]; rfl, Below.refl _ _⟩
  · have HP := Lib.hid (show plainB c = false by simp [plainB, h1])
    have q1 : decide ((32 : Int) ≤ (c.toNat : Int)) = false := decide_eq_false (by omega)
    clear h1
    go_enter Tryd.func123, Tryd.ntmps123
    go_wp2_with fail
    go_ret
    exact ⟨by rw [HP.out]; rfl, Below.refl _ _⟩
theorem escL_take {s : ByteArray} (q : UInt8) {j : Nat} (h : j < s.size) : escL q (s.toList.take (j + 1)) = escL q (s.toList.take j) ++ escB q s[j] := by
  rw [List.take_succ_eq_append_getElem (by rw [size_of]; exact h)]
  have e : s.toList[j]'(by rw [size_of]; exact h) = s[j] := by
    simp only [Lib.toList_data]; rfl
  rw [e]
  simp [escL]
theorem escB_le (q c : UInt8) : (escB q c).length ≤ 4 := by
  unfold escB
  split
  · simp
  split
  · simp
  · simp [hex2]
theorem escL_len (q : UInt8) (s : List UInt8) : (escL q s).length ≤ 4 * s.length := by
  induction s with
  | nil => simp [escL]
  | cons c s ih =>
    have := escB_le q c
    rw [escL_cons, List.length_append, List.length_cons]
    omega
theorem four_cells (w : World) (x y z u : Value) (T : TypeId) : ∀ j v, [x, y, z, u][j]? = some v → (w.alloc (.cells #[x, y, z, u] T)).cell? ((⟨w.heap.size, 0, none⟩ : Addr).add j) = some v := by
  intro j v hj
  match j, hj with
  | 0, hj => simp at hj; subst hj; simp [Addr.add]
  | 1, hj => simp at hj; subst hj; simp [Addr.add]
  | 2, hj => simp at hj; subst hj; simp [Addr.add]
  | 3, hj => simp at hj; subst hj; simp [Addr.add]
theorem bv_cells_four (w : World) (a b c d : UInt8) (T : TypeId) : ∀ j u, (bv [a, b, c, d])[j]? = some u → (w.alloc (.cells #[.int .u8 (a.toNat : Int), .int .u8 (b.toNat : Int), .int .u8 (c.toNat : Int), .int .u8 (d.toNat : Int)] T)).cell? ((⟨w.heap.size, 0, none⟩ : Addr).add j) = some u := four_cells w _ _ _ _ T

set_option maxRecDepth 100000 in
set_option maxHeartbeats 1500000 in
theorem lbytes_3 (v : Value) (s : ByteArray) (l : List UInt8) (w : World) (base : Nat) (hb : base ≤ w.heap.size) (hO : OwnB w base v l) (hl : l.length ≤ 70000) (hs : s.size ≤ 65536) :
    Calls Tryd.prog 104 #[v, .int .u8 3, .string s] w fun e w' => ∃ v', e = .returned v' ∧ OwnB w' base v' (l ++ rawL 3 s.toList) ∧ Below base w w' ∧ base ≤ w'.heap.size := by
  go_enter Tryd.func104, Tryd.ntmps104
  have hB := Below.refl base w
  have hsz := hb
  go_wp2_with (at_builtin; refine wpList_append_bytes rfl (.tmp 14) (.tmp 15) 111 rfl Tryd.underlying111 Tryd.info5 rfl (hO.alloc _) _ [120] 1 _ rfl rfl (bv_cells_one _ 120 _) (by omega) (hB.alloc hsz _) (by simp; omega) ?_; intro v2 w2 hO2 hB2 hs2)
  clear hB hsz
  go_loopw [0, 28] (fun b i wr => ∃ (j : Nat), j ≤ s.size ∧ i = .int .i64 j ∧ OwnB wr base b (l ++ 120 :: hexL (s.toList.take j)) ∧ Below base w wr ∧ base ≤ wr.heap.size) (fun _ i _ => s.size - (intOf i).toNat)
  case atStart => exact ⟨0, Nat.zero_le _, rfl, by simpa [hexL] using hO2, hB2, hs2⟩
  case round =>
    clear hO2 hB2 hs2
    obtain ⟨j, hj, rfl, hO, hB, hsz⟩ := hrel
    by_cases hlt : j < s.size
    · have q3 : decide (j < s.size) = true := by simpa using hlt
      have h1 := run_shr s[j]
      have hlt2 := s[j].toNat_lt
      have h3 : (0 : Int) ≤ (s[j].toNat : Int) / 16 ∧ (s[j].toNat : Int) / 16 < 16 := by omega
      have h4 : (0 : Int) ≤ bits BinOp.and IntKind.u8 (s[j].toNat : Int) 15 ∧ bits BinOp.and IntKind.u8 (s[j].toNat : Int) 15 < 16 := by rw [and_bits]; omega
      have hlen : (l ++ 120 :: hexL (s.toList.take j)).length ≤ 300000 := by
        rw [List.length_append, List.length_cons, hexL_length, List.length_take]; omega
      obtain ⟨L, hL⟩ : ∃ L, l ++ 120 :: hexL (s.toList.take j) = L := ⟨_, rfl⟩
      rw [hL] at hO hlen
      have HL := Lib.hid hL
      have HO := Lib.hid hO
      have hO' : wr.drew.ownsRow base 5 1 u0 L.length (bv L) := hO
      obtain ⟨i0, hinf, hz0, hz1, hz2⟩ := info_parts Tryd.info5
      clear hO hL
      go_wp2_with fail
      go_region_law (first
        | (refine step_append_lies _ rfl (.tmp 31) (.tmp 42) 111 rfl base 5 i0 (.int .u8 0) 1 1 Tryd.underlying111 hinf hz0 hz1 hz2 rfl (by decide) u0 _ _ (by simp [Act.eval, Act.put]) (hO'.alloc _) ⟨wr.heap.size, 0, none⟩ 2 2 (bv [_, _]) (by simp [Act.eval, Act.put]) (by simp [bv]) (bv_cells_two wr.drew _ _ _) (bv_one _) (by decide) (by unfold maxLen; omega) (by omega) (by simp; omega) _ rfl ?_; intro g cap w3 hO3 hg3 hlies hgl))
      all_goals
        go_wp2_with fail
        have b1 : ((s[j].toNat : Int) / 16).toNat < hexS.size := by show _ < 16; omega
        have b2 : (bits BinOp.and IntKind.u8 (s[j].toNat : Int) 15).toNat < hexS.size := by show _ < 16; rw [and_bits]; omega
        have hOx := own_push (M := l ++ 120 :: hexL (s.toList.take (j + 1))) hO3 rfl (by rw [hexL_take hlt, ← hi_at _ b1, ← lo_at _ b2, ← HL.out]; simp; exact ⟨rfl, rfl⟩)
        have hBx : Below base w w3 := ((hB.drew).alloc hsz _).grown hg3 (by simp; omega) (fun k hk => (World.ownsRow.lt HO.out k hk).1)
        refine ⟨?_, by simp [intOf]; omega⟩
        exact ⟨j + 1, by omega, rfl, hOx, hBx, by have := hg3.size; simp at this; omega⟩
    · have q3 : decide (j < s.size) = false := by simpa using hlt
      go_wp2_with fail
      go_ret
      have e : s.toList.take j = s.toList := List.take_of_length_le (by rw [size_of]; omega)
      exact ⟨_, rfl, by rw [e] at hO; exact hO, hB, hsz⟩
set_option maxRecDepth 100000 in
set_option maxHeartbeats 1500000 in
theorem lbytes_4 (v : Value) (s : ByteArray) (l : List UInt8) (w : World) (base : Nat) (hb : base ≤ w.heap.size) (hO : OwnB w base v l) (hl : l.length ≤ 70000) (hs : s.size ≤ 65536) :
    Calls Tryd.prog 104 #[v, .int .u8 4, .string s] w fun e w' => ∃ v', e = .returned v' ∧ OwnB w' base v' (l ++ rawL 4 s.toList) ∧ Below base w w' ∧ base ≤ w'.heap.size := by
  go_enter Tryd.func104, Tryd.ntmps104
  have hB := Below.refl base w
  have hsz := hb
  go_wp2_with (at_builtin; refine wpList_append_bytes rfl (.tmp 19) (.tmp 20) 111 rfl Tryd.underlying111 Tryd.info5 rfl (hO.alloc _) _ [35] 1 _ rfl rfl (bv_cells_one _ 35 _) (by omega) (hB.alloc hsz _) (by simp; omega) ?_; intro v2 w2 hO2 hB2 hs2)
  clear hB hsz
  go_loopw [0, 28] (fun b i wr => ∃ (j : Nat), j ≤ s.size ∧ i = .int .i64 j ∧ OwnB wr base b (l ++ 35 :: hexL (s.toList.take j)) ∧ Below base w wr ∧ base ≤ wr.heap.size) (fun _ i _ => s.size - (intOf i).toNat)
  case atStart => exact ⟨0, Nat.zero_le _, rfl, by simpa [hexL] using hO2, hB2, hs2⟩
  case round =>
    clear hO2 hB2 hs2
    obtain ⟨j, hj, rfl, hO, hB, hsz⟩ := hrel
    by_cases hlt : j < s.size
    · have q3 : decide (j < s.size) = true := by simpa using hlt
      have h1 := run_shr s[j]
      have hlt2 := s[j].toNat_lt
      have h3 : (0 : Int) ≤ (s[j].toNat : Int) / 16 ∧ (s[j].toNat : Int) / 16 < 16 := by omega
      have h4 : (0 : Int) ≤ bits BinOp.and IntKind.u8 (s[j].toNat : Int) 15 ∧ bits BinOp.and IntKind.u8 (s[j].toNat : Int) 15 < 16 := by rw [and_bits]; omega
      have hlen : (l ++ 35 :: hexL (s.toList.take j)).length ≤ 300000 := by
        rw [List.length_append, List.length_cons, hexL_length, List.length_take]; omega
      obtain ⟨L, hL⟩ : ∃ L, l ++ 35 :: hexL (s.toList.take j) = L := ⟨_, rfl⟩
      rw [hL] at hO hlen
      have HL := Lib.hid hL
      have HO := Lib.hid hO
      have hO' : wr.drew.ownsRow base 5 1 u0 L.length (bv L) := hO
      obtain ⟨i0, hinf, hz0, hz1, hz2⟩ := info_parts Tryd.info5
      clear hO hL
      go_wp2_with fail
      go_region_law (first
        | (refine step_append_lies _ rfl (.tmp 31) (.tmp 42) 111 rfl base 5 i0 (.int .u8 0) 1 1 Tryd.underlying111 hinf hz0 hz1 hz2 rfl (by decide) u0 _ _ (by simp [Act.eval, Act.put]) (hO'.alloc _) ⟨wr.heap.size, 0, none⟩ 2 2 (bv [_, _]) (by simp [Act.eval, Act.put]) (by simp [bv]) (bv_cells_two wr.drew _ _ _) (bv_one _) (by decide) (by unfold maxLen; omega) (by omega) (by simp; omega) _ rfl ?_; intro g cap w3 hO3 hg3 hlies hgl))
      all_goals
        go_wp2_with fail
        have b1 : ((s[j].toNat : Int) / 16).toNat < hexS.size := by show _ < 16; omega
        have b2 : (bits BinOp.and IntKind.u8 (s[j].toNat : Int) 15).toNat < hexS.size := by show _ < 16; rw [and_bits]; omega
        have hOx := own_push (M := l ++ 35 :: hexL (s.toList.take (j + 1))) hO3 rfl (by rw [hexL_take hlt, ← hi_at _ b1, ← lo_at _ b2, ← HL.out]; simp; exact ⟨rfl, rfl⟩)
        have hBx : Below base w w3 := ((hB.drew).alloc hsz _).grown hg3 (by simp; omega) (fun k hk => (World.ownsRow.lt HO.out k hk).1)
        refine ⟨?_, by simp [intOf]; omega⟩
        exact ⟨j + 1, by omega, rfl, hOx, hBx, by have := hg3.size; simp at this; omega⟩
    · have q3 : decide (j < s.size) = false := by simpa using hlt
      go_wp2_with fail
      go_ret
      have e : s.toList.take j = s.toList := List.take_of_length_le (by rw [size_of]; omega)
      exact ⟨_, rfl, by rw [e] at hO; exact hO, hB, hsz⟩
set_option maxRecDepth 100000 in
set_option maxHeartbeats 1500000 in
theorem lbytes_5 (v : Value) (s : ByteArray) (l : List UInt8) (w : World) (base : Nat) (hb : base ≤ w.heap.size) (hO : OwnB w base v l) (hl : l.length ≤ 70000) (hs : s.size ≤ 65536) :
    Calls Tryd.prog 104 #[v, .int .u8 5, .string s] w fun e w' => ∃ v', e = .returned v' ∧ OwnB w' base v' (l ++ rawL 5 s.toList) ∧ Below base w w' ∧ base ≤ w'.heap.size := by
  go_enter Tryd.func104, Tryd.ntmps104
  have hB := Below.refl base w
  have hsz := hb
  go_wp2_with (at_builtin; refine wpList_append_bytes rfl (.tmp 46) (.tmp 48) 111 rfl Tryd.underlying111 Tryd.info5 rfl (hO.alloc _) _ [39] 1 _ rfl rfl (bv_cells_one _ 39 _) (by omega) (hB.alloc hsz _) (by simp; omega) ?_; intro v2 w2 hO2 hB2 hs2)
  clear hB hsz
  go_loopw [0, 52] (fun b i wr => ∃ (j : Nat), j ≤ s.size ∧ i = .int .i64 j ∧ OwnB wr base b (l ++ 39 :: escL 39 (s.toList.take j)) ∧ Below base w wr ∧ base ≤ wr.heap.size) (fun _ i _ => s.size - (intOf i).toNat)
  case atStart => exact ⟨0, Nat.zero_le _, rfl, by simpa [escL] using hO2, hB2, hs2⟩
  case round =>
    clear hO2 hB2 hs2
    obtain ⟨j, hj, rfl, hO, hB, hsz⟩ := hrel
    have hlen : (l ++ 39 :: escL 39 (s.toList.take j)).length ≤ 400000 := by
      have := escL_len 39 (s.toList.take j)
      rw [List.length_append, List.length_cons]; rw [List.length_take] at this; omega
    obtain ⟨L, hL⟩ : ∃ L, l ++ 39 :: escL 39 (s.toList.take j) = L := ⟨_, rfl⟩
    rw [hL] at hO hlen
    have HL := Lib.hid hL
    by_cases hlt : j < s.size
    · have q3 : decide (j < s.size) = true := by simpa using hlt
      have HT := Lib.hid (escL_take 39 hlt)
      clear hL
      by_cases hc1 : s[j] = 39
      · have e1 : ((s[j].toNat : Int) == 39) = true := u8_eqb (d := 39) rfl hc1
        have HE := Lib.hid (show escB 39 s[j] = [92, s[j]] by unfold escB; rw [if_pos (.inl hc1)])
        clear hc1
        go_wp2_with (at_builtin; refine wpList_append_bytes rfl (.tmp 75) (.tmp 77) 111 rfl Tryd.underlying111 Tryd.info5 rfl (hO.alloc _) _ [92, s[j]] 2 _ rfl rfl (bv_cells_two _ 92 s[j] _) (by omega) (hB.alloc hsz _) (by simp; omega) ?_; intro v2 w2 hO2 hB2 hs2)
        refine ⟨?_, by simp [intOf]; omega⟩
        exact ⟨j + 1, by omega, rfl, by rw [HT.out, HE.out]; rw [← HL.out] at hO2; simpa using hO2, hB2, hs2⟩
      have e1 : ((s[j].toNat : Int) == 39) = false := u8_neb (d := 39) rfl hc1
      by_cases hc2 : s[j] = 92
      · have e2 : ((s[j].toNat : Int) == 92) = true := u8_eqb (d := 92) rfl hc2
        have HE := Lib.hid (show escB 39 s[j] = [92, s[j]] by unfold escB; rw [if_pos (.inr hc2)])
        clear hc1 hc2
        go_wp2_with (at_builtin; refine wpList_append_bytes rfl (.tmp 75) (.tmp 77) 111 rfl Tryd.underlying111 Tryd.info5 rfl (hO.alloc _) _ [92, s[j]] 2 _ rfl rfl (bv_cells_two _ 92 s[j] _) (by omega) (hB.alloc hsz _) (by simp; omega) ?_; intro v2 w2 hO2 hB2 hs2)
        refine ⟨?_, by simp [intOf]; omega⟩
        exact ⟨j + 1, by omega, rfl, by rw [HT.out, HE.out]; rw [← HL.out] at hO2; simpa using hO2, hB2, hs2⟩
      have e2 : ((s[j].toNat : Int) == 92) = false := u8_neb (d := 92) rfl hc2
      cases hpl : plainB s[j] with
      | true =>
        have HE := Lib.hid (show escB 39 s[j] = [s[j]] by unfold escB; rw [if_neg (by simp [hc1, hc2]), if_pos hpl])
        have HP := Lib.hid hpl
        clear hc1 hc2 hpl
        go_wp2_with fail
        refine (plainc_any s[j] _).mono ?_
        rintro e w1 ⟨rfl, hb1⟩
        rw [HP.out]
        replace hO := hO.below hb1
        replace hB := hB.trans (hb1.mono hsz)
        have hsz := Nat.le_trans hsz hb1.size
        go_wp2_with (at_builtin; refine wpList_append_bytes rfl (.tmp 82) (.tmp 84) 111 rfl Tryd.underlying111 Tryd.info5 rfl (hO.alloc _) _ [s[j]] 1 _ rfl rfl (bv_cells_one _ s[j] _) (by omega) (hB.alloc hsz _) (by simp; omega) ?_; intro v2 w2 hO2 hB2 hs2)
        refine ⟨?_, by simp [intOf]; omega⟩
        exact ⟨j + 1, by omega, rfl, by rw [HT.out, HE.out]; rw [← HL.out] at hO2; simpa using hO2, hB2, hs2⟩
      | false =>
        have HE := Lib.hid (show escB 39 s[j] = 92 :: 120 :: hex2 s[j] by unfold escB; rw [if_neg (by simp [hc1, hc2]), if_neg (by simp [hpl])])
        have HP := Lib.hid hpl
        clear hc1 hc2 hpl
        go_wp2_with fail
        refine (plainc_any s[j] _).mono ?_
        rintro e w1 ⟨rfl, hb1⟩
        rw [HP.out]
        have hO1 := hO.below hb1
        have hB1 := hB.trans (hb1.mono hsz)
        have hsz1 := Nat.le_trans hsz hb1.size
        have h1 := run_shr s[j]
        have hlt2 := s[j].toNat_lt
        have h3 : (0 : Int) ≤ (s[j].toNat : Int) / 16 ∧ (s[j].toNat : Int) / 16 < 16 := by omega
        have h4 : (0 : Int) ≤ bits BinOp.and IntKind.u8 (s[j].toNat : Int) 15 ∧ bits BinOp.and IntKind.u8 (s[j].toNat : Int) 15 < 16 := by rw [and_bits]; omega
        have HO := Lib.hid hO1
        have hO' : w1.drew.ownsRow base 5 1 u0 L.length (bv L) := hO1
        obtain ⟨i0, hinf, hz0, hz1, hz2⟩ := info_parts Tryd.info5
        clear hO hO1
        go_wp2_with fail
        go_region_law (first
          | (refine step_append_lies _ rfl (.tmp 58) (.tmp 65) 111 rfl base 5 i0 (.int .u8 0) 1 1 Tryd.underlying111 hinf hz0 hz1 hz2 rfl (by decide) u0 _ _ (by simp [Act.eval, Act.put]) (hO'.alloc _) ⟨w1.heap.size, 0, none⟩ 4 4 (bv [92, 120, _, _]) (by simp [Act.eval, Act.put]) (by simp [bv]) (bv_cells_four w1.drew 92 120 _ _ _) (bv_one _) (by decide) (by unfold maxLen; omega) (by omega) (by simp; omega) _ rfl ?_; intro g cap w3 hO3 hg3 hlies hgl))
        all_goals
          go_wp2_with fail
          have b1 : ((s[j].toNat : Int) / 16).toNat < hexS.size := by show _ < 16; omega
          have b2 : (bits BinOp.and IntKind.u8 (s[j].toNat : Int) 15).toNat < hexS.size := by show _ < 16; rw [and_bits]; omega
          have hOx := own_push (M := l ++ 39 :: escL 39 (s.toList.take (j + 1))) hO3 rfl (by rw [HT.out, HE.out]; unfold hex2; rw [← hi_at _ b1, ← lo_at _ b2, ← HL.out]; simp; exact ⟨rfl, rfl⟩)
          have hBx : Below base w w3 := ((hB1.drew).alloc hsz1 _).grown hg3 (by simp; omega) (fun k hk => (World.ownsRow.lt HO.out k hk).1)
          refine ⟨?_, by simp [intOf]; omega⟩
          exact ⟨j + 1, by omega, rfl, hOx, hBx, by have := hg3.size; simp at this; omega⟩
    · have q3 : decide (j < s.size) = false := by simpa using hlt
      have e : s.toList.take j = s.toList := List.take_of_length_le (by rw [size_of]; omega)
      rw [e] at HL
      clear hL
      go_wp2_with (at_builtin; refine wpList_append_bytes rfl (.tmp 87) (.tmp 89) 111 rfl Tryd.underlying111 Tryd.info5 rfl (hO.alloc _) _ [39] 1 _ rfl rfl (bv_cells_one _ 39 _) (by omega) (hB.alloc hsz _) (by simp; omega) ?_; intro v2 w2 hO2 hB2 hs2)
      go_ret
      exact ⟨_, rfl, by rw [← HL.out] at hO2; unfold rawL; simpa using hO2, hB2, hs2⟩
set_option maxRecDepth 100000 in
set_option maxHeartbeats 1500000 in
theorem lbytes_6 (v : Value) (s : ByteArray) (l : List UInt8) (w : World) (base : Nat) (hb : base ≤ w.heap.size) (hO : OwnB w base v l) (hl : l.length ≤ 70000) (hs : s.size ≤ 65536) :
    Calls Tryd.prog 104 #[v, .int .u8 6, .string s] w fun e w' => ∃ v', e = .returned v' ∧ OwnB w' base v' (l ++ rawL 6 s.toList) ∧ Below base w w' ∧ base ≤ w'.heap.size := by
  go_enter Tryd.func104, Tryd.ntmps104
  have hB := Below.refl base w
  have hsz := hb
  go_wp2_with (at_builtin; refine wpList_append_bytes rfl (.tmp 46) (.tmp 48) 111 rfl Tryd.underlying111 Tryd.info5 rfl (hO.alloc _) _ [34] 1 _ rfl rfl (bv_cells_one _ 34 _) (by omega) (hB.alloc hsz _) (by simp; omega) ?_; intro v2 w2 hO2 hB2 hs2)
  clear hB hsz
  go_loopw [0, 52] (fun b i wr => ∃ (j : Nat), j ≤ s.size ∧ i = .int .i64 j ∧ OwnB wr base b (l ++ 34 :: escL 34 (s.toList.take j)) ∧ Below base w wr ∧ base ≤ wr.heap.size) (fun _ i _ => s.size - (intOf i).toNat)
  case atStart => exact ⟨0, Nat.zero_le _, rfl, by simpa [escL] using hO2, hB2, hs2⟩
  case round =>
    clear hO2 hB2 hs2
    obtain ⟨j, hj, rfl, hO, hB, hsz⟩ := hrel
    have hlen : (l ++ 34 :: escL 34 (s.toList.take j)).length ≤ 400000 := by
      have := escL_len 34 (s.toList.take j)
      rw [List.length_append, List.length_cons]; rw [List.length_take] at this; omega
    obtain ⟨L, hL⟩ : ∃ L, l ++ 34 :: escL 34 (s.toList.take j) = L := ⟨_, rfl⟩
    rw [hL] at hO hlen
    have HL := Lib.hid hL
    by_cases hlt : j < s.size
    · have q3 : decide (j < s.size) = true := by simpa using hlt
      have HT := Lib.hid (escL_take 34 hlt)
      clear hL
      by_cases hc1 : s[j] = 34
      · have e1 : ((s[j].toNat : Int) == 34) = true := u8_eqb (d := 34) rfl hc1
        have HE := Lib.hid (show escB 34 s[j] = [92, s[j]] by unfold escB; rw [if_pos (.inl hc1)])
        clear hc1
        go_wp2_with (at_builtin; refine wpList_append_bytes rfl (.tmp 75) (.tmp 77) 111 rfl Tryd.underlying111 Tryd.info5 rfl (hO.alloc _) _ [92, s[j]] 2 _ rfl rfl (bv_cells_two _ 92 s[j] _) (by omega) (hB.alloc hsz _) (by simp; omega) ?_; intro v2 w2 hO2 hB2 hs2)
        refine ⟨?_, by simp [intOf]; omega⟩
        exact ⟨j + 1, by omega, rfl, by rw [HT.out, HE.out]; rw [← HL.out] at hO2; simpa using hO2, hB2, hs2⟩
      have e1 : ((s[j].toNat : Int) == 34) = false := u8_neb (d := 34) rfl hc1
      by_cases hc2 : s[j] = 92
      · have e2 : ((s[j].toNat : Int) == 92) = true := u8_eqb (d := 92) rfl hc2
        have HE := Lib.hid (show escB 34 s[j] = [92, s[j]] by unfold escB; rw [if_pos (.inr hc2)])
        clear hc1 hc2
        go_wp2_with (at_builtin; refine wpList_append_bytes rfl (.tmp 75) (.tmp 77) 111 rfl Tryd.underlying111 Tryd.info5 rfl (hO.alloc _) _ [92, s[j]] 2 _ rfl rfl (bv_cells_two _ 92 s[j] _) (by omega) (hB.alloc hsz _) (by simp; omega) ?_; intro v2 w2 hO2 hB2 hs2)
        refine ⟨?_, by simp [intOf]; omega⟩
        exact ⟨j + 1, by omega, rfl, by rw [HT.out, HE.out]; rw [← HL.out] at hO2; simpa using hO2, hB2, hs2⟩
      have e2 : ((s[j].toNat : Int) == 92) = false := u8_neb (d := 92) rfl hc2
      cases hpl : plainB s[j] with
      | true =>
        have HE := Lib.hid (show escB 34 s[j] = [s[j]] by unfold escB; rw [if_neg (by simp [hc1, hc2]), if_pos hpl])
        have HP := Lib.hid hpl
        clear hc1 hc2 hpl
        go_wp2_with fail
        refine (plainc_any s[j] _).mono ?_
        rintro e w1 ⟨rfl, hb1⟩
        rw [HP.out]
        replace hO := hO.below hb1
        replace hB := hB.trans (hb1.mono hsz)
        have hsz := Nat.le_trans hsz hb1.size
        go_wp2_with (at_builtin; refine wpList_append_bytes rfl (.tmp 82) (.tmp 84) 111 rfl Tryd.underlying111 Tryd.info5 rfl (hO.alloc _) _ [s[j]] 1 _ rfl rfl (bv_cells_one _ s[j] _) (by omega) (hB.alloc hsz _) (by simp; omega) ?_; intro v2 w2 hO2 hB2 hs2)
        refine ⟨?_, by simp [intOf]; omega⟩
        exact ⟨j + 1, by omega, rfl, by rw [HT.out, HE.out]; rw [← HL.out] at hO2; simpa using hO2, hB2, hs2⟩
      | false =>
        have HE := Lib.hid (show escB 34 s[j] = 92 :: 120 :: hex2 s[j] by unfold escB; rw [if_neg (by simp [hc1, hc2]), if_neg (by simp [hpl])])
        have HP := Lib.hid hpl
        clear hc1 hc2 hpl
        go_wp2_with fail
        refine (plainc_any s[j] _).mono ?_
        rintro e w1 ⟨rfl, hb1⟩
        rw [HP.out]
        have hO1 := hO.below hb1
        have hB1 := hB.trans (hb1.mono hsz)
        have hsz1 := Nat.le_trans hsz hb1.size
        have h1 := run_shr s[j]
        have hlt2 := s[j].toNat_lt
        have h3 : (0 : Int) ≤ (s[j].toNat : Int) / 16 ∧ (s[j].toNat : Int) / 16 < 16 := by omega
        have h4 : (0 : Int) ≤ bits BinOp.and IntKind.u8 (s[j].toNat : Int) 15 ∧ bits BinOp.and IntKind.u8 (s[j].toNat : Int) 15 < 16 := by rw [and_bits]; omega
        have HO := Lib.hid hO1
        have hO' : w1.drew.ownsRow base 5 1 u0 L.length (bv L) := hO1
        obtain ⟨i0, hinf, hz0, hz1, hz2⟩ := info_parts Tryd.info5
        clear hO hO1
        go_wp2_with fail
        go_region_law (first
          | (refine step_append_lies _ rfl (.tmp 58) (.tmp 65) 111 rfl base 5 i0 (.int .u8 0) 1 1 Tryd.underlying111 hinf hz0 hz1 hz2 rfl (by decide) u0 _ _ (by simp [Act.eval, Act.put]) (hO'.alloc _) ⟨w1.heap.size, 0, none⟩ 4 4 (bv [92, 120, _, _]) (by simp [Act.eval, Act.put]) (by simp [bv]) (bv_cells_four w1.drew 92 120 _ _ _) (bv_one _) (by decide) (by unfold maxLen; omega) (by omega) (by simp; omega) _ rfl ?_; intro g cap w3 hO3 hg3 hlies hgl))
        all_goals
          go_wp2_with fail
          have b1 : ((s[j].toNat : Int) / 16).toNat < hexS.size := by show _ < 16; omega
          have b2 : (bits BinOp.and IntKind.u8 (s[j].toNat : Int) 15).toNat < hexS.size := by show _ < 16; rw [and_bits]; omega
          have hOx := own_push (M := l ++ 34 :: escL 34 (s.toList.take (j + 1))) hO3 rfl (by rw [HT.out, HE.out]; unfold hex2; rw [← hi_at _ b1, ← lo_at _ b2, ← HL.out]; simp; exact ⟨rfl, rfl⟩)
          have hBx : Below base w w3 := ((hB1.drew).alloc hsz1 _).grown hg3 (by simp; omega) (fun k hk => (World.ownsRow.lt HO.out k hk).1)
          refine ⟨?_, by simp [intOf]; omega⟩
          exact ⟨j + 1, by omega, rfl, hOx, hBx, by have := hg3.size; simp at this; omega⟩
    · have q3 : decide (j < s.size) = false := by simpa using hlt
      have e : s.toList.take j = s.toList := List.take_of_length_le (by rw [size_of]; omega)
      rw [e] at HL
      clear hL
      go_wp2_with (at_builtin; refine wpList_append_bytes rfl (.tmp 87) (.tmp 89) 111 rfl Tryd.underlying111 Tryd.info5 rfl (hO.alloc _) _ [34] 1 _ rfl rfl (bv_cells_one _ 34 _) (by omega) (hB.alloc hsz _) (by simp; omega) ?_; intro v2 w2 hO2 hB2 hs2)
      go_ret
      exact ⟨_, rfl, by rw [← HL.out] at hO2; unfold rawL; simpa using hO2, hB2, hs2⟩
end Go.Proofs.YtcgphlilijeifaaDoor.L
