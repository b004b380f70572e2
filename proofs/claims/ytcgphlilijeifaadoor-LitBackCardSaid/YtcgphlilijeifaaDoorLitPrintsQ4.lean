import Derived.Deep.RegionLaw
import Derived.Deep.AppendLies
import Derived.Test.YtcgphlilijeifaaDoorRows
import Derived.WalkKit
import Derived.Below
import Derived.WalkSpells
import Derived.WalkLawsBesides
import Derived.Lib.Hide
import Derived.Stop.Asserts
import Derived.Test.YtcgphlilijeifaaDoorLitPrintsQ2
import Derived.Test.YtcgphlilijeifaaDoorLitPrintsQ3
import Derived.Test.YtcgphlilijeifaaDoorLitPrintsQ0
section
/-
  lit.bytes: its contract.
-/
namespace Go.Proofs.YtcgphlilijeifaaDoor.L
open Go.RowKit
open V (Pt)

def hexS : ByteArray := ⟨#[48, 49, 50, 51, 52, 53, 54, 55, 56, 57, 97, 98, 99, 100, 101, 102]⟩
theorem hexS_at {n k : Nat} (h : n < 16) (e : k = n) (hk : k < hexS.size) : hexS[k]'hk = hexC n := by
  subst e
  have key : ∀ i : Fin 16, hexS[i.val]'(show i.val < 16 from i.isLt) = hexC i.val := by decide +kernel
  exact key ⟨k, h⟩
theorem hi_at (c : UInt8) (hk : ((c.toNat : Int) / 16).toNat < hexS.size) : hexS[((c.toNat : Int) / 16).toNat]'hk = hexC (c.toNat / 16) := hexS_at (by have := c.toNat_lt; omega) (by omega) hk
theorem lo_at (c : UInt8) (hk : (bits BinOp.and IntKind.u8 (c.toNat : Int) 15).toNat < hexS.size) : hexS[(bits BinOp.and IntKind.u8 (c.toNat : Int) 15).toNat]'hk = hexC (c.toNat % 16) :=
  hexS_at (by omega) (by rw [and_bits]; omega) hk
theorem own_push {w : World} {base n : Nat} {L m M : List UInt8} {v : Value} (h : w.ownsRow base 5 1 v n (bv L ++ bv m)) (hn : n = L.length + m.length) (hM : L ++ m = M) : OwnB w base v M := by
  subst hM
  unfold OwnB
  rw [bv_append] at h
  rw [hn] at h
  simpa using h
theorem hexL_take {s : ByteArray} {j : Nat} (h : j < s.size) : hexL (s.toList.take (j + 1)) = hexL (s.toList.take j) ++ [hexC (s[j].toNat / 16), hexC (s[j].toNat % 16)] := by
  rw [List.take_succ_eq_append_getElem (by rw [size_of]; exact h)]
  have e : s.toList[j]'(by rw [size_of]; exact h) = s[j] := by
    simp only [Lib.toList_data]; rfl
  rw [e]
  simp [hexL, hex2]
theorem plainc_any (c : UInt8) (w : World) : Calls Tryd.prog 123 #[.int .u8 (c.toNat : Int)] w fun e w' => e = .returned (.bool (plainB c)) ∧ Below w.heap.size w w' := by
  by_cases h1 : 32 ≤ c.toNat
  · by_cases h2 : c.toNat ≤ 126
    · have HP := Lib.hid (show plainB c = true by simp [plainB, h1, h2])
      have q1 : decide ((32 : Int) ≤ (c.toNat : Int)) = true := decide_eq_true (by omega)
      have q2 : decide ((c.toNat : Int) ≤ 126) = true := decide_eq_true (by omega)
      clear h1 h2
      go_enter Tryd.func123, Tryd.ntmps123
      go_wp2_with fail
      go_ret
      exact ⟨by rw [HP.out]; rfl, Below.refl _ _⟩
    · have HP := Lib.hid (show plainB c = false by simp [plainB, h1, h2])
      have q1 : decide ((32 : Int) ≤ (c.toNat : Int)) = true := decide_eq_true (by omega)
      have q2 : decide ((c.toNat : Int) ≤ 126) = false := decide_eq_false (by omega)
      clear h1 h2
      go_enter Tryd.func123, Tryd.ntmps123
      go_wp2_with fail
      go_ret
      exact ⟨by rw [HP.out]; rfl, Below.refl _ _⟩
  · have HP := Lib.hid (show plainB c = false by simp [plainB, h1])
    have q1 : decide ((32 : Int) ≤ (c.toNat : Int)) = false := decide_eq_false (by omega)
    clear h1
    go_enter Tryd.func123, Tryd.ntmps123
    go_wp2_with fail
    go_ret
    exact ⟨by rw [HP.out]; rfl, Below.refl _ _⟩
theorem escL_take {s : ByteArray} (q : UInt8) {j : Nat} (h : j < s.size) : escL q (s.toList.take (j + 1)) = escL q (s.toList.take j) ++ escB q s[j] := by
  rw [List.take_succ_eq_append_getElem (by rw [size_of]; exact h)]
  have e : s.toList[j]'(by rw [size_of]; exact h) = s[j] := by
    simp only [Lib.toList_data]; rfl
  rw [e]
  simp [escL]
theorem escB_le (q c : UInt8) : (escB q c).length ≤ 4 := by
  unfold escB
  split
  · simp
  split
  · simp
  · simp [hex2]
theorem escL_len (q : UInt8) (s : List UInt8) : (escL q s).length ≤ 4 * s.length := by
  induction s with
  | nil => simp [escL]
  | cons c s ih =>
    have := escB_le q c
    rw [escL_cons, List.length_append, List.length_cons]
    omega
theorem four_cells (w : World) (x y z u : Value) (T : TypeId) : ∀ j v, [x, y, z, u][j]? = some v → (w.alloc (.cells #[x, y, z, u] T)).cell? ((⟨w.heap.size, 0, none⟩ : Addr).add j) = some v := by
  intro j v hj
  match j, hj with
  | 0, hj => simp at hj; subst hj; simp [Addr.add]
  | 1, hj => simp at hj; subst hj; simp [Addr.add]
  | 2, hj => simp at hj; subst hj; simp [Addr.add]
  | 3, hj => simp at hj; subst hj; simp [Addr.add]
theorem bv_cells_four (w : World) (a b c d : UInt8) (T : TypeId) : ∀ j u, (bv [a, b, c, d])[j]? = some u → (w.alloc (.cells #[.int .u8 (a.toNat : Int), .int .u8 (b.toNat : Int), .int .u8 (c.toNat : Int), .int .u8 (d.toNat : Int)] T)).cell? ((⟨w.heap.size, 0, none⟩ : Addr).add j) = some u := four_cells w _ _ _ _ T

set_option maxRecDepth 100000 in
set_option maxHeartbeats 1500000 in
theorem lbytes_3 (v : Value) (s : ByteArray) (l : List UInt8) (w : World) (base : Nat) (hb : base ≤ w.heap.size) (hO : OwnB w base v l) (hl : l.length ≤ 70000) (hs : s.size ≤ 65536) :
    Calls Tryd.prog 104 #[v, .int .u8 3, .string s] w fun e w' => ∃ v', e = .returned v' ∧ OwnB w' base v' (l ++ rawL 3 s.toList) ∧ Below base w w' ∧ base ≤ w'.heap.size := by
  go_enter Tryd.func104, Tryd.ntmps104
  have hB := Below.refl base w
  have hsz := hb
  go_wp2_with (at_builtin; refine wpList_append_bytes rfl (.tmp 14) (.tmp 15) 111 rfl Tryd.underlying111 Tryd.info5 rfl (hO.alloc _) _ [120] 1 _ rfl rfl (bv_cells_one _ 120 _) (by omega) (hB.alloc hsz _) (by simp; omega) ?_; intro v2 w2 hO2 hB2 hs2)
  clear hB hsz
  go_loopw [0, 28] (fun b i wr => ∃ (j : Nat), j ≤ s.size ∧ i = .int .i64 j ∧ OwnB wr base b (l ++ 120 :: hexL (s.toList.take j)) ∧ Below base w wr ∧ base ≤ wr.heap.size) (fun _ i _ => s.size - (intOf i).toNat)
  case atStart => exact ⟨0, Nat.zero_le _, rfl, by simpa [hexL] using hO2, hB2, hs2⟩
  case round =>
    clear hO2 hB2 hs2
    obtain ⟨j, hj, rfl, hO, hB, hsz⟩ := hrel
    by_cases hlt : j < s.size
    · have q3 : decide (j < s.size) = true := by simpa using hlt
      have h1 := run_shr s[j]
      have hlt2 := s[j].toNat_lt
      have h3 : (0 : Int) ≤ (s[j].toNat : Int) / 16 ∧ (s[j].toNat : Int) / 16 < 16 := by omega
      have h4 : (0 : Int) ≤ bits BinOp.and IntKind.u8 (s[j].toNat : Int) 15 ∧ bits BinOp.and IntKind.u8 (s[j].toNat : Int) 15 < 16 := by rw [and_bits]; omega
      have hlen : (l ++ 120 :: hexL (s.toList.take j)).length ≤ 300000 := by
        rw [List.length_append, List.length_cons, hexL_length, List.length_take]; omega
      obtain ⟨L, hL⟩ : ∃ L, l ++ 120 :: hexL (s.toList.take j) = L := ⟨_, rfl⟩
      rw [hL] at hO hlen
      have HL := Lib.hid hL
      have HO := Lib.hid hO
      have hO' : wr.drew.ownsRow base 5 1 u0 L.length (bv L) := hO
      obtain ⟨i0, hinf, hz0, hz1, hz2⟩ := info_parts Tryd.info5
      clear hO hL
      go_wp2_with fail
      go_region_law (first
        | (refine step_append_lies _ rfl (.tmp 31) (.tmp 42) 111 rfl base 5 i0 (.int .u8 0) 1 1 Tryd.underlying111 hinf hz0 hz1 hz2 rfl (by decide) u0 _ _ (by simp [Act.eval, Act.put]) (hO'.alloc _) ⟨wr.heap.size, 0, none⟩ 2 2 (bv [_, _]) (by simp [Act.eval, Act.put]) (by simp [bv]) (bv_cells_two wr.drew _ _ _) (bv_one _) (by decide) (by unfold maxLen; omega) (by omega) (by simp; omega) _ rfl ?_; intro g cap w3 hO3 hg3 hlies hgl))
      all_goals
        go_wp2_with fail
        have b1 : ((s[j].toNat : Int) / 16).toNat < hexS.size := by show _ < 16; omega
        have b2 : (bits BinOp.and IntKind.u8 (s[j].toNat : Int) 15).toNat < hexS.size := by show _ < 16; rw [and_bits]; omega
        have hOx := own_push (M := l ++ 120 :: hexL (s.toList.take (j + 1))) hO3 rfl (by rw [hexL_take hlt, ← hi_at _ b1, ← lo_at _ b2, ← HL.out]; simp; exact ⟨rfl, rfl⟩)
        have hBx : Below base w w3 := ((hB.drew).alloc hsz _).grown hg3 (by simp; omega) (fun k hk => (World.ownsRow.lt HO.out k hk).1)
        refine ⟨?_, by simp [intOf]; omega⟩
        exact ⟨j + 1, by omega, rfl, hOx, hBx, by have := hg3.size; simp at this; omega⟩
    · have q3 : decide (j < s.size) = false := by simpa using hlt
      go_wp2_with fail
      go_ret
      have e : s.toList.take j = s.toList := List.take_of_length_le (by rw [size_of]; omega)
      exact ⟨_, rfl, by rw [e] at hO; exact hO, hB, hsz⟩
set_option maxRecDepth 100000 in
set_option maxHeartbeats 1500000 in
theorem lbytes_4 (v : Value) (s : ByteArray) (l : List UInt8) (w : World) (base : Nat) (hb : base ≤ w.heap.size) (hO : OwnB w base v l) (hl : l.length ≤ 70000) (hs : s.size ≤ 65536) :
    Calls Tryd.prog 104 #[v, .int .u8 4, .string s] w fun e w' => ∃ v', e = .returned v' ∧ OwnB w' base v' (l ++ rawL 4 s.toList) ∧ Below base w w' ∧ base ≤ w'.heap.size := by
  go_enter Tryd.func104, Tryd.ntmps104
  have hB := Below.refl base w
  have hsz := hb
  go_wp2_with (at_builtin; refine wpList_append_bytes rfl (.tmp 19) (.tmp 20) 111 rfl Tryd.underlying111 Tryd.info5 rfl (hO.alloc _) _ [35] 1 _ rfl rfl (bv_cells_one _ 35 _) (by omega) (hB.alloc hsz _) (by simp; omega) ?_; intro v2 w2 hO2 hB2 hs2)
  clear hB hsz
  go_loopw [0, 28] (fun b i wr => ∃ (j : Nat), j ≤ s.size ∧ i = .int .i64 j ∧ OwnB wr base b (l ++ 35 :: hexL (s.toList.take j)) ∧ Below base w wr ∧ base ≤ wr.heap.size) (fun _ i _ => s.size - (intOf i).toNat)
  case atStart => exact ⟨0, Nat.zero_le _, rfl, by simpa [hexL] using hO2, hB2, hs2⟩
  case round =>
    clear hO2 hB2 hs2
    obtain ⟨j, hj, rfl, hO, hB, hsz⟩ := hrel
    by_cases hlt : j < s.size
    · have q3 : decide (j < s.size) = true := by simpa using hlt
      have h1 := run_shr s[j]
      have hlt2 := s[j].toNat_lt
      have h3 : (0 : Int) ≤ (s[j].toNat : Int) / 16 ∧ (s[j].toNat : Int) / 16 < 16 := by omega
      have h4 : (0 : Int) ≤ bits BinOp.and IntKind.u8 (s[j].toNat : Int) 15 ∧ bits BinOp.and IntKind.u8 (s[j].toNat : Int) 15 < 16 := by rw [and_bits]; omega
      have hlen : (l ++ 35 :: hexL (s.toList.take j)).length ≤ 300000 := by
        rw [List.length_append, List.length_cons, hexL_length, List.length_take]; omega
      obtain ⟨L, hL⟩ : ∃ L, l ++ 35 :: hexL (s.toList.take j) = L := ⟨_, rfl⟩
      rw [hL] at hO hlen
      have HL := Lib.hid hL
      have HO := Lib.hid hO
      have hO' : wr.drew.ownsRow base 5 1 u0 L.length (bv L) := hO
      obtain ⟨i0, hinf, hz0, hz1, hz2⟩ := info_parts Tryd.info5
      clear hO hL
      go_wp2_with fail
      go_region_law (first
        | (refine step_append_lies _ rfl (.tmp 31) (.tmp 42) 111 rfl base 5 i0 (.int .u8 0) 1 1 Tryd.underlying111 hinf hz0 hz1 hz2 rfl (by decide) u0 _ _ (by simp [Act.eval, Act.put]) (hO'.alloc _) ⟨wr.heap.size, 0, none⟩ 2 2 (bv [_, _]) (by simp [Act.eval, Act.put]) (by simp [bv]) (bv_cells_two wr.drew _ _ _) (bv_one _) (by decide) (by unfold maxLen; omega) (by omega) (by simp; omega) _ rfl ?_; intro g cap w3 hO3 hg3 hlies hgl))
      all_goals
        go_wp2_with fail
        have b1 : ((s[j].toNat : Int) / 16).toNat < hexS.size := by show _ < 16; omega
        have b2 : (bits BinOp.and IntKind.u8 (s[j].toNat : Int) 15).toNat < hexS.size := by show _ < 16; rw [and_bits]; omega
        have hOx := own_push (M := l ++ 35 :: hexL (s.toList.take (j + 1))) hO3 rfl (by rw [hexL_take hlt, ← hi_at _ b1, ← lo_at _ b2, ← HL.out]; simp; exact ⟨rfl, rfl⟩)
        have hBx : Below base w w3 := ((hB.drew).alloc hsz _).grown hg3 (by simp; omega) (fun k hk => (World.ownsRow.lt HO.out k hk).1)
        refine ⟨?_, by simp [intOf]; omega⟩
        exact ⟨j + 1, by omega, rfl, hOx, hBx, by have := hg3.size; simp at this; omega⟩
    · have q3 : decide (j < s.size) = false := by simpa using hlt
      go_wp2_with fail
      go_ret
      have e : s.toList.take j = s.toList := List.take_of_length_le (by rw [size_of]; omega)
      exact ⟨_, rfl, by rw [e] at hO; exact hO, hB, hsz⟩
set_option maxRecDepth 100000 in
set_option maxHeartbeats 1500000 in
theorem lbytes_5 (v : Value) (s : ByteArray) (l : List UInt8) (w : World) (base : Nat) (hb : base ≤ w.heap.size) (hO : OwnB w base v l) (hl : l.length ≤ 70000) (hs : s.size ≤ 65536) :
    Calls Tryd.prog 104 #[v, .int .u8 5, .string s] w fun e w' => ∃ v', e = .returned v' ∧ OwnB w' base v' (l ++ rawL 5 s.toList) ∧ Below base w w' ∧ base ≤ w'.heap.size := by
  go_enter Tryd.func104, Tryd.ntmps104
  have hB := Below.refl base w
  have hsz := hb
  go_wp2_with (at_builtin; refine wpList_append_bytes rfl (.tmp 46) (.tmp 48) 111 rfl Tryd.underlying111 Tryd.info5 rfl (hO.alloc _) _ [39] 1 _ rfl rfl (bv_cells_one _ 39 _) (by omega) (hB.alloc hsz _) (by simp; omega) ?_; intro v2 w2 hO2 hB2 hs2)
  clear hB hsz
  go_loopw [0, 52] (fun b i wr => ∃ (j : Nat), j ≤ s.size ∧ i = .int .i64 j ∧ OwnB wr base b (l ++ 39 :: escL 39 (s.toList.take j)) ∧ Below base w wr ∧ base ≤ wr.heap.size) (fun _ i _ => s.size - (intOf i).toNat)
  case atStart => exact ⟨0, Nat.zero_le _, rfl, by simpa [escL] using hO2, hB2, hs2⟩
  case round =>
    clear hO2 hB2 hs2
    obtain ⟨j, hj, rfl, hO, hB, hsz⟩ := hrel
    have hlen : (l ++ 39 :: escL 39 (s.toList.take j)).length ≤ 400000 := by
      have := escL_len 39 (s.toList.take j)
      rw [List.length_append, List.length_cons]; rw [List.length_take] at this; omega
    obtain ⟨L, hL⟩ : ∃ L, l ++ 39 :: escL 39 (s.toList.take j) = L := ⟨_, rfl⟩
    rw [hL] at hO hlen
    have HL := Lib.hid hL
    by_cases hlt : j < s.size
    · have q3 : decide (j < s.size) = true := by simpa using hlt
      have HT := Lib.hid (escL_take 39 hlt)
      clear hL
      by_cases hc1 : s[j] = 39
      · have e1 : ((s[j].toNat : Int) == 39) = true := u8_eqb (d := 39) rfl hc1
        have HE := Lib.hid (show escB 39 s[j] = [92, s[j]] by unfold escB; rw [if_pos (.inl hc1)])
        clear hc1
        go_wp2_with (at_builtin; refine wpList_append_bytes rfl (.tmp 75) (.tmp 77) 111 rfl Tryd.underlying111 Tryd.info5 rfl (hO.alloc _) _ [92, s[j]] 2 _ rfl rfl (bv_cells_two _ 92 s[j] _) (by omega) (hB.alloc hsz _) (by simp; omega) ?_; intro v2 w2 hO2 hB2 hs2)
        refine ⟨?_, by simp [intOf]; omega⟩
        exact ⟨j + 1, by omega, rfl, by rw [HT.out, HE.out]; rw [← HL.out] at hO2; simpa using hO2, hB2, hs2⟩
      have e1 : ((s[j].toNat : Int) == 39) = false := u8_neb (d := 39) rfl hc1
      by_cases hc2 : s[j] = 92
      · have e2 : ((s[j].toNat : Int) == 92) = true := u8_eqb (d := 92) rfl hc2
        have HE := Lib.hid (show escB 39 s[j] = [92, s[j]] by unfold escB; rw [if_pos (.inr hc2)])
        clear hc1 hc2
        go_wp2_with (at_builtin; refine wpList_append_bytes rfl (.tmp 75) (.tmp 77) 111 rfl Tryd.underlying111 Tryd.info5 rfl (hO.alloc _) _ [92, s[j]] 2 _ rfl rfl (bv_cells_two _ 92 s[j] _) (by omega) (hB.alloc hsz _) (by simp; omega) ?_; intro v2 w2 hO2 hB2 hs2)
        refine ⟨?_, by simp [intOf]; omega⟩
        exact ⟨j + 1, by omega, rfl, by rw [HT.out, HE.out]; rw [← HL.out] at hO2; simpa using hO2, hB2, hs2⟩
      have e2 : ((s[j].toNat : Int) == 92) = false := u8_neb (d := 92) rfl hc2
      cases hpl : plainB s[j] with
      | true =>
        have HE := Lib.hid (show escB 39 s[j] = [s[j]] by unfold escB; rw [if_neg (by simp [hc1, hc2]), if_pos hpl])
        have HP := Lib.hid hpl
        clear hc1 hc2 hpl
        go_wp2_with fail
        refine (plainc_any s[j] _).mono ?_
        rintro e w1 ⟨rfl, hb1⟩
        rw [HP.out]
        replace hO := hO.below hb1
        replace hB := hB.trans (hb1.mono hsz)
        have hsz := Nat.le_trans hsz hb1.size
        go_wp2_with (at_builtin; refine wpList_append_bytes rfl (.tmp 82) (.tmp 84) 111 rfl Tryd.underlying111 Tryd.info5 rfl (hO.alloc _) _ [s[j]] 1 _ rfl rfl (bv_cells_one _ s[j] _) (by omega) (hB.alloc hsz _) (by simp; omega) ?_; intro v2 w2 hO2 hB2 hs2)
        refine ⟨?_, by simp [intOf]; omega⟩
        exact ⟨j + 1, by omega, rfl, by rw [HT.out, HE.out]; rw [← HL.out] at hO2; simpa using hO2, hB2, hs2⟩
      | false =>
        have HE := Lib.hid (show escB 39 s[j] = 92 :: 120 :: hex2 s[j] by unfold escB; rw [if_neg (by simp [hc1, hc2]), if_neg (by simp [hpl])])
        have HP := Lib.hid hpl
        clear hc1 hc2 hpl
        go_wp2_with fail
        refine (plainc_any s[j] _).mono ?_
        rintro e w1 ⟨rfl, hb1⟩
        rw [HP.out]
        have hO1 := hO.below hb1
        have hB1 := hB.trans (hb1.mono hsz)
        have hsz1 := Nat.le_trans hsz hb1.size
        have h1 := run_shr s[j]
        have hlt2 := s[j].toNat_lt
        have h3 : (0 : Int) ≤ (s[j].toNat : Int) / 16 ∧ (s[j].toNat : Int) / 16 < 16 := by omega
        have h4 : (0 : Int) ≤ bits BinOp.and IntKind.u8 (s[j].toNat : Int) 15 ∧ bits BinOp.and IntKind.u8 (s[j].toNat : Int) 15 < 16 := by rw [and_bits]; omega
        have HO := Lib.hid hO1
        have hO' : w1.drew.ownsRow base 5 1 u0 L.length (bv L) := hO1
        obtain ⟨i0, hinf, hz0, hz1, hz2⟩ := info_parts Tryd.info5
        clear hO hO1
        go_wp2_with fail
        go_region_law (first
          | (refine step_append_lies _ rfl (.tmp 58) (.tmp 65) 111 rfl base 5 i0 (.int .u8 0) 1 1 Tryd.underlying111 hinf hz0 hz1 hz2 rfl (by decide) u0 _ _ (by simp [Act.eval, Act.put]) (hO'.alloc _) ⟨w1.heap.size, 0, none⟩ 4 4 (bv [92, 120, _, _]) (by simp [Act.eval, Act.put]) (by simp [bv]) (bv_cells_four w1.drew 92 120 _ _ _) (bv_one _) (by decide) (by unfold maxLen; omega) (by omega) (by simp; omega) _ rfl ?_; intro g cap w3 hO3 hg3 hlies hgl))
        all_goals
          go_wp2_with fail
          have b1 : ((s[j].toNat : Int) / 16).toNat < hexS.size := by show _ < 16; omega
          have b2 : (bits BinOp.and IntKind.u8 (s[j].toNat : Int) 15).toNat < hexS.size := by show _ < 16; rw [and_bits]; omega
          have hOx := own_push (M := l ++ 39 :: escL 39 (s.toList.take (j + 1))) hO3 rfl (by rw [HT.out, HE.out]; unfold hex2; rw [← hi_at _ b1, ← lo_at _ b2, ← HL.out]; simp; exact ⟨rfl, rfl⟩)
          have hBx : Below base w w3 := ((hB1.drew).alloc hsz1 _).grown hg3 (by simp; omega) (fun k hk => (World.ownsRow.lt HO.out k hk).1)
          refine ⟨?_, by simp [intOf]; omega⟩
          exact ⟨j + 1, by omega, rfl, hOx, hBx, by have := hg3.size; simp at this; omega⟩
    · have q3 : decide (j < s.size) = false := by simpa using hlt
      have e : s.toList.take j = s.toList := List.take_of_length_le (by rw [size_of]; omega)
      rw [e] at HL
      clear hL
      go_wp2_with (at_builtin; refine wpList_append_bytes rfl (.tmp 87) (.tmp 89) 111 rfl Tryd.underlying111 Tryd.info5 rfl (hO.alloc _) _ [39] 1 _ rfl rfl (bv_cells_one _ 39 _) (by omega) (hB.alloc hsz _) (by simp; omega) ?_; intro v2 w2 hO2 hB2 hs2)
      go_ret
      exact ⟨_, rfl, by rw [← HL.out] at hO2; unfold rawL; simpa using hO2, hB2, hs2⟩
set_option maxRecDepth 100000 in
set_option maxHeartbeats 1500000 in
theorem lbytes_6 (v : Value) (s : ByteArray) (l : List UInt8) (w : World) (base : Nat) (hb : base ≤ w.heap.size) (hO : OwnB w base v l) (hl : l.length ≤ 70000) (hs : s.size ≤ 65536) :
    Calls Tryd.prog 104 #[v, .int .u8 6, .string s] w fun e w' => ∃ v', e = .returned v' ∧ OwnB w' base v' (l ++ rawL 6 s.toList) ∧ Below base w w' ∧ base ≤ w'.heap.size := by
  go_enter Tryd.func104, Tryd.ntmps104
  have hB := Below.refl base w
  have hsz := hb
  go_wp2_with (at_builtin; refine wpList_append_bytes rfl (.tmp 46) (.tmp 48) 111 rfl Tryd.underlying111 Tryd.info5 rfl (hO.alloc _) _ [34] 1 _ rfl rfl (bv_cells_one _ 34 _) (by omega) (hB.alloc hsz _) (by simp; omega) ?_; intro v2 w2 hO2 hB2 hs2)
  clear hB hsz
  go_loopw [0, 52] (fun b i wr => ∃ (j : Nat), j ≤ s.size ∧ i = .int .i64 j ∧ OwnB wr base b (l ++ 34 :: escL 34 (s.toList.take j)) ∧ Below base w wr ∧ base ≤ wr.heap.size) (fun _ i _ => s.size - (intOf i).toNat)
  case atStart => exact ⟨0, Nat.zero_le _, rfl, by simpa [escL] using hO2, hB2, hs2⟩
  case round =>
    clear hO2 hB2 hs2
    obtain ⟨j, hj, rfl, hO, hB, hsz⟩ := hrel
    have hlen : (l ++ 34 :: escL 34 (s.toList.take j)).length ≤ 400000 := by
      have := escL_len 34 (s.toList.take j)
      rw [List.length_append, List.length_cons]; rw [List.length_take] at this; omega
    obtain ⟨L, hL⟩ : ∃ L, l ++ 34 :: escL 34 (s.toList.take j) = L := ⟨_, rfl⟩
    rw [hL] at hO hlen
    have HL := Lib.hid hL
    by_cases hlt : j < s.size
    · have q3 : decide (j < s.size) = true := by simpa using hlt
      have HT := Lib.hid (escL_take 34 hlt)
      clear hL
      by_cases hc1 : s[j] = 34
      · have e1 : ((s[j].toNat : Int) == 34) = true := u8_eqb (d := 34) rfl hc1
        have HE := Lib.hid (show escB 34 s[j] = [92, s[j]] by unfold escB; rw [if_pos (.inl hc1)])
        clear hc1
        go_wp2_with (at_builtin; refine wpList_append_bytes rfl (.tmp 75) (.tmp 77) 111 rfl Tryd.underlying111 Tryd.info5 rfl (hO.alloc _) _ [92, s[j]] 2 _ rfl rfl (bv_cells_two _ 92 s[j] _) (by omega) (hB.alloc hsz _) (by simp; omega) ?_; intro v2 w2 hO2 hB2 hs2)
        refine ⟨?_, by simp [intOf]; omega⟩
        exact ⟨j + 1, by omega, rfl, by rw [HT.out, HE.out]; rw [← HL.out] at hO2; simpa using hO2, hB2, hs2⟩
      have e1 : ((s[j].toNat : Int) == 34) = false := u8_neb (d := 34) rfl hc1
      by_cases hc2 : s[j] = 92
      · have e2 : ((s[j].toNat : Int) == 92) = true := u8_eqb (d := 92) rfl hc2
        have HE := Lib.hid (show escB 34 s[j] = [92, s[j]] by unfold escB; rw [if_pos (.inr hc2)])
        clear hc1 hc2
        go_wp2_with (at_builtin; refine wpList_append_bytes rfl (.tmp 75) (.tmp 77) 111 rfl Tryd.underlying111 Tryd.info5 rfl (hO.alloc _) _ [92, s[j]] 2 _ rfl rfl (bv_cells_two _ 92 s[j] _) (by omega) (hB.alloc hsz _) (by simp; omega) ?_; intro v2 w2 hO2 hB2 hs2)
        refine ⟨?_, by simp [intOf]; omega⟩
        exact ⟨j + 1, by omega, rfl, by rw [HT.out, HE.out]; rw [← HL.out] at hO2; simpa using hO2, hB2, hs2⟩
      have e2 : ((s[j].toNat : Int) == 92) = false := u8_neb (d := 92) rfl hc2
      cases hpl : plainB s[j] with
      | true =>
        have HE := Lib.hid (show escB 34 s[j] = [s[j]] by unfold escB; rw [if_neg (by simp [hc1, hc2]), if_pos hpl])
        have HP := Lib.hid hpl
        clear hc1 hc2 hpl
        go_wp2_with fail
        refine (plainc_any s[j] _).mono ?_
        rintro e w1 ⟨rfl, hb1⟩
        rw [HP.out]
        replace hO := hO.below hb1
        replace hB := hB.trans (hb1.mono hsz)
        have hsz := Nat.le_trans hsz hb1.size
        go_wp2_with (at_builtin; refine wpList_append_bytes rfl (.tmp 82) (.tmp 84) 111 rfl Tryd.underlying111 Tryd.info5 rfl (hO.alloc _) _ [s[j]] 1 _ rfl rfl (bv_cells_one _ s[j] _) (by omega) (hB.alloc hsz _) (by simp; omega) ?_; intro v2 w2 hO2 hB2 hs2)
        refine ⟨?_, by simp [intOf]; omega⟩
        exact ⟨j + 1, by omega, rfl, by rw [HT.out, HE.out]; rw [← HL.out] at hO2; simpa using hO2, hB2, hs2⟩
      | false =>
        have HE := Lib.hid (show escB 34 s[j] = 92 :: 120 :: hex2 s[j] by unfold escB; rw [if_neg (by simp [hc1, hc2]), if_neg (by simp [hpl])])
        have HP := Lib.hid hpl
        clear hc1 hc2 hpl
        go_wp2_with fail
        refine (plainc_any s[j] _).mono ?_
        rintro e w1 ⟨rfl, hb1⟩
        rw [HP.out]
        have hO1 := hO.below hb1
        have hB1 := hB.trans (hb1.mono hsz)
        have hsz1 := Nat.le_trans hsz hb1.size
        have h1 := run_shr s[j]
        have hlt2 := s[j].toNat_lt
        have h3 : (0 : Int) ≤ (s[j].toNat : Int) / 16 ∧ (s[j].toNat : Int) / 16 < 16 := by omega
        have h4 : (0 : Int) ≤ bits BinOp.and IntKind.u8 (s[j].toNat : Int) 15 ∧ bits BinOp.and IntKind.u8 (s[j].toNat : Int) 15 < 16 := by rw [and_bits]; omega
        have HO := Lib.hid hO1
        have hO' : w1.drew.ownsRow base 5 1 u0 L.length (bv L) := hO1
        obtain ⟨i0, hinf, hz0, hz1, hz2⟩ := info_parts Tryd.info5
        clear hO hO1
        go_wp2_with fail
        go_region_law (first
          | (refine step_append_lies _ rfl (.tmp 58) (.tmp 65) 111 rfl base 5 i0 (.int .u8 0) 1 1 Tryd.underlying111 hinf hz0 hz1 hz2 rfl (by decide) u0 _ _ (by simp [Act.eval, Act.put]) (hO'.alloc _) ⟨w1.heap.size, 0, none⟩ 4 4 (bv [92, 120, _, _]) (by simp [Act.eval, Act.put]) (by simp [bv]) (bv_cells_four w1.drew 92 120 _ _ _) (bv_one _) (by decide) (by unfold maxLen; omega) (by omega) (by simp; omega) _ rfl ?_; intro g cap w3 hO3 hg3 hlies hgl))
        all_goals
          go_wp2_with fail
          have b1 : ((s[j].toNat : Int) / 16).toNat < hexS.size := by show _ < 16; omega
          have b2 : (bits BinOp.and IntKind.u8 (s[j].toNat : Int) 15).toNat < hexS.size := by show _ < 16; rw [and_bits]; omega
          have hOx := own_push (M := l ++ 34 :: escL 34 (s.toList.take (j + 1))) hO3 rfl (by rw [HT.out, HE.out]; unfold hex2; rw [← hi_at _ b1, ← lo_at _ b2, ← HL.out]; simp; exact ⟨rfl, rfl⟩)
          have hBx : Below base w w3 := ((hB1.drew).alloc hsz1 _).grown hg3 (by simp; omega) (fun k hk => (World.ownsRow.lt HO.out k hk).1)
          refine ⟨?_, by simp [intOf]; omega⟩
          exact ⟨j + 1, by omega, rfl, hOx, hBx, by have := hg3.size; simp at this; omega⟩
    · have q3 : decide (j < s.size) = false := by simpa using hlt
      have e : s.toList.take j = s.toList := List.take_of_length_le (by rw [size_of]; omega)
      rw [e] at HL
      clear hL
      go_wp2_with (at_builtin; refine wpList_append_bytes rfl (.tmp 87) (.tmp 89) 111 rfl Tryd.underlying111 Tryd.info5 rfl (hO.alloc _) _ [34] 1 _ rfl rfl (bv_cells_one _ 34 _) (by omega) (hB.alloc hsz _) (by simp; omega) ?_; intro v2 w2 hO2 hB2 hs2)
      go_ret
      exact ⟨_, rfl, by rw [← HL.out] at hO2; unfold rawL; simpa using hO2, hB2, hs2⟩
end Go.Proofs.YtcgphlilijeifaaDoor.L
end
section
/-
  How parts and values lie in memory; what stays where other memory is written.
-/
namespace Go.Proofs.YtcgphlilijeifaaDoor.V
open Go.RowKit

theorem two {W a b : World} (h : Below W.heap.size W a) (k : Below a.heap.size a b) : Below W.heap.size W b := h.trans (k.mono h.size)
theorem keep {W w1 : World} {B : Nat} (hb : Below B W w1) {b o : Nat} {v : Value} (hB : b < B) (h : W.cell? ⟨b, o, none⟩ = some v) : w1.cell? ⟨b, o, none⟩ = some v := (hb.cell hB).trans h
theorem keeps {W w1 : World} (hb : Below W.heap.size W w1) {p : Addr} {v : Value} (h : W.cell? p = some v) : w1.cell? p = some v := (hb.cell (World.block_lt_of_cell? W p h)).trans h
theorem size_of (s : ByteArray) : s.toList.length = s.size := by rw [Lib.toList_data, Lib.size_eq]

/-- The blocks from lo up to hi are as they were. -/
def Same (lo hi : Nat) (w w' : World) : Prop := ∀ k, lo ≤ k → k < hi → w'.heap[k]? = w.heap[k]?
theorem Same.of_below {B lo hi : Nat} {w w' : World} (h : Below B w w') (hB : hi ≤ B) : Same lo hi w w' := fun k _ hk => h.block k (by omega)
theorem Same.mono {lo hi lo' hi' : Nat} {w w' : World} (h : Same lo hi w w') (h1 : lo ≤ lo') (h2 : hi' ≤ hi) : Same lo' hi' w w' := fun k a b => h k (by omega) (by omega)
theorem Same.trans {lo hi : Nat} {a b c : World} (h : Same lo hi a b) (k : Same lo hi b c) : Same lo hi a c := fun i h1 h2 => (k i h1 h2).trans (h i h1 h2)
theorem Same.refl (lo hi : Nat) (w : World) : Same lo hi w w := fun _ _ _ => rfl
theorem Same.cell {lo hi b o : Nat} {w w' : World} {v : Value} (h : Same lo hi w w') (h1 : lo ≤ b) (h2 : b < hi) (hc : w.cell? ⟨b, o, none⟩ = some v) : w'.cell? ⟨b, o, none⟩ = some v :=
  (World.cell?_of_block (w := w) (h b h1 h2)).trans hc

/-- Bounds of a part's own fields. -/
structure Fit (p : Pt) : Prop where
  k : p.kind < 256
  m : p.mag.size ≤ 140737488351232
  r : p.raw.size ≤ 140737488351232
  l : p.items.length ≤ 140737488351232
/-- The six cells of a part; v: its items' list. -/
def cellsOf (p : Pt) (v : Value) : Array Value := #[.int .u8 p.kind, .bool p.yes, .bool p.neg, .string p.mag, .string p.raw, v]
structure PartCells (w : World) (b o : Nat) (p : Pt) (v : Value) : Prop where
  c0 : w.cell? ⟨b, o, none⟩ = some (.int .u8 p.kind)
  c1 : w.cell? ⟨b, o + 1, none⟩ = some (.bool p.yes)
  c2 : w.cell? ⟨b, o + 2, none⟩ = some (.bool p.neg)
  c3 : w.cell? ⟨b, o + 3, none⟩ = some (.string p.mag)
  c4 : w.cell? ⟨b, o + 4, none⟩ = some (.string p.raw)
  c5 : w.cell? ⟨b, o + 5, none⟩ = some v
theorem PartCells.same {lo hi b o : Nat} {w w' : World} {p : Pt} {v : Value} (h : PartCells w b o p v) (hs : Same lo hi w w') (h1 : lo ≤ b) (h2 : b < hi) : PartCells w' b o p v :=
  ⟨hs.cell h1 h2 h.c0, hs.cell h1 h2 h.c1, hs.cell h1 h2 h.c2, hs.cell h1 h2 h.c3, hs.cell h1 h2 h.c4, hs.cell h1 h2 h.c5⟩

/-- The slice reads as the parts l; all that it leads to lies in the blocks from lo up to hi. -/
inductive PI (w : World) (lo hi : Nat) : List Pt → Value → Prop
  | mk (l : List Pt) (a : Option Addr) (cap : Nat) (F : Nat → Value) (hc : l.length ≤ cap)
      (cells : ∀ j (h : j < l.length), ∃ b off, a = some ⟨b, off, none⟩ ∧ lo ≤ b ∧ b < hi ∧ PartCells w b (off + j * 6) l[j] (F j))
      (fits : ∀ j (h : j < l.length), Fit l[j]) (deep : ∀ j (h : j < l.length), PI w lo hi l[j].items (F j)) : PI w lo hi l (.slice a l.length cap)
theorem PI.same {lo hi : Nat} {w w' : World} {l : List Pt} {v : Value} (h : PI w lo hi l v) (hs : Same lo hi w w') : PI w' lo hi l v := by
  induction h with
  | mk l a cap F hc cells fits deep ih =>
    exact .mk l a cap F hc (fun j hj => by
      obtain ⟨b, off, ha, h1, h2, h3⟩ := cells j hj
      exact ⟨b, off, ha, h1, h2, h3.same hs h1 h2⟩) fits ih
theorem PI.wide {lo hi lo' hi' : Nat} {w : World} {l : List Pt} {v : Value} (h : PI w lo hi l v) (h1 : lo' ≤ lo) (h2 : hi ≤ hi') : PI w lo' hi' l v := by
  induction h with
  | mk l a cap F hc cells fits deep ih =>
    exact .mk l a cap F hc (fun j hj => by
      obtain ⟨b, off, ha, h3, h4, h5⟩ := cells j hj
      exact ⟨b, off, ha, by omega, by omega, h5⟩) fits ih
theorem PI.nil (w : World) (lo hi : Nat) : PI w lo hi [] (.slice none 0 0) := .mk [] none 0 (fun _ => .slice none 0 0) (Nat.le_refl _) (fun j h => by cases h) (fun j h => by cases h) (fun j h => by cases h)
/-- The list opened: its value, and each of its places. -/
theorem PI.open {lo hi : Nat} {w : World} {l : List Pt} {v : Value} (h : PI w lo hi l v) : ∃ (a : Option Addr) (cap : Nat), v = .slice a l.length cap ∧ l.length ≤ cap ∧
    ∀ j (h : j < l.length), ∃ b off u, a = some ⟨b, off, none⟩ ∧ lo ≤ b ∧ b < hi ∧ PartCells w b (off + j * 6) l[j] u ∧ Fit l[j] ∧ PI w lo hi l[j].items u := by
  cases h with
  | mk _ a cap F hc cells fits deep =>
    refine ⟨a, cap, rfl, hc, fun j hj => ?_⟩
    obtain ⟨b, off, ha, h1, h2, h3⟩ := cells j hj
    exact ⟨b, off, F j, ha, h1, h2, h3, fits j hj, deep j hj⟩

/-- The interface value v is the part p; its memory lies in the blocks from lo up to hi. -/
inductive VI (w : World) (lo hi : Nat) : Pt → Value → Prop
  | null (p : Pt) (h : p.kind = 0) : VI w lo hi p .nilIface
  | truth (p : Pt) (h : p.kind = 1) : VI w lo hi p (.iface 140 (.agg #[.bool p.yes]))
  | whole (p : Pt) (h : p.kind = 2) : VI w lo hi p (.iface 142 (.agg #[.bool p.neg, .string p.mag]))
  | row (p : Pt) (h0 : p.kind ≠ 0) (h1 : p.kind ≠ 1) (h2 : p.kind ≠ 2) (h7 : p.kind ≠ 7) : VI w lo hi p (.iface 147 (.agg #[.int .u8 p.kind, .string p.raw]))
  | tuple (p : Pt) (h : p.kind = 7) (a : Option Addr) (cap : Nat) (F : Nat → Value) (hc : p.items.length ≤ cap)
      (cells : ∀ j, j < p.items.length → ∃ g, a = some ⟨g, 0, none⟩ ∧ lo ≤ g ∧ g < hi ∧ w.cell? ⟨g, j, none⟩ = some (F j))
      (deep : ∀ j (h : j < p.items.length), VI w lo hi p.items[j] (F j)) : VI w lo hi p (.iface 145 (.agg #[.slice a p.items.length cap]))
theorem VI.same {lo hi : Nat} {w w' : World} {p : Pt} {v : Value} (h : VI w lo hi p v) (hs : Same lo hi w w') : VI w' lo hi p v := by
  induction h with
  | null p h => exact .null p h
  | truth p h => exact .truth p h
  | whole p h => exact .whole p h
  | row p h0 h1 h2 h7 => exact .row p h0 h1 h2 h7
  | tuple p h a cap F hc cells deep ih =>
    exact .tuple p h a cap F hc (fun j hj => by
      obtain ⟨g, ha, h1, h2, h3⟩ := cells j hj
      exact ⟨g, ha, h1, h2, hs.cell h1 h2 h3⟩) ih
theorem VI.wide {lo hi lo' hi' : Nat} {w : World} {p : Pt} {v : Value} (h : VI w lo hi p v) (h1 : lo' ≤ lo) (h2 : hi ≤ hi') : VI w lo' hi' p v := by
  induction h with
  | null p h => exact .null p h
  | truth p h => exact .truth p h
  | whole p h => exact .whole p h
  | row p h0 h1 h2 h7 => exact .row p h0 h1 h2 h7
  | tuple p h a cap F hc cells deep ih =>
    exact .tuple p h a cap F hc (fun j hj => by
      obtain ⟨g, ha, h3, h4, h5⟩ := cells j hj
      exact ⟨g, ha, by omega, by omega, h5⟩) ih
end Go.Proofs.YtcgphlilijeifaaDoor.V
end
section
/-
  The contracts of nat.Check and of the document's Check: every number.
-/
namespace Go.Proofs.YtcgphlilijeifaaDoor.V
open Go.RowKit

theorem chk_long {b : Bool} {m : List UInt8} (h : 255 < m.length) : chk b m = 21 := by simp [chk, h]
theorem chk_nil_below {m : List UInt8} (h : m = []) : chk true m = 20 := by simp [chk, h]
theorem chk_nil {m : List UInt8} (h : m = []) : chk false m = 0 := by simp [chk, h]
theorem chk_zero {b : Bool} {m : List UInt8} (h : ¬ 255 < m.length) (h0 : m.head? = some 0) : chk b m = 20 := by simp [chk, h, h0]
theorem chk_ok {b : Bool} {m : List UInt8} (h : ¬ 255 < m.length) (hn : m ≠ []) (h0 : m.head? ≠ some 0) : chk b m = 0 := by simp [chk, h, h0, hn]
theorem drop_cons (s : ByteArray) (k : Nat) (h : k < s.size) : s.data.toList.drop k = s[k] :: s.data.toList.drop (k + 1) := by
  rw [List.drop_eq_getElem_cons (by simpa using h)]; rfl
theorem nil_of_size {s : ByteArray} (h : ¬ 0 < s.size) : s.toList = [] := List.eq_nil_of_length_eq_zero (by rw [size_of]; omega)
theorem head_of (s : ByteArray) (h : 0 < s.size) : s.toList.head? = some s[0] := by
  rw [Lib.toList_data]
  have := drop_cons s 0 h
  rw [List.drop_zero] at this
  rw [this]; rfl
theorem u8_eq {c : UInt8} (d : UInt8) {n : Int} (hn : (d.toNat : Int) = n) (h : ((c.toNat : Int) == n) = true) : c = d := by
  rw [← hn] at h
  have h1 : (c.toNat : Int) = d.toNat := by simpa using h
  exact UInt8.toNat_inj.1 (by omega)
theorem u8_ne {c : UInt8} (d : UInt8) {n : Int} (hn : (d.toNat : Int) = n) (h : ((c.toNat : Int) == n) = false) : c ≠ d := by
  rintro rfl
  rw [hn] at h
  simp at h
theorem u8_eqb {c d : UInt8} {n : Int} (hn : (d.toNat : Int) = n) (h : c = d) : ((c.toNat : Int) == n) = true := by subst h hn; simp
theorem u8_neb {c d : UInt8} {n : Int} (hn : (d.toNat : Int) = n) (h : ¬ c = d) : ((c.toNat : Int) == n) = false := by
  rw [← hn, beq_eq_false_iff_ne]
  exact fun e => h (UInt8.toNat_inj.1 (by omega))

theorem check_any (b : Bool) (s : ByteArray) (w : World) (_hs : s.size ≤ 9223372036854775807) (r : Int) (hr : chk b s.toList = r) :
    Calls Tryd.prog 22 #[.agg #[.bool b, .string s]] w fun e w' => e = .returned (.int .i64 r) ∧ Below w.heap.size w w' := by
  by_cases h1 : 255 < s.size
  · rw [chk_long (by rw [size_of]; exact h1)] at hr
    subst hr
    go_enter Tryd.func22, Tryd.ntmps22
    go_wp2
    go_ret
    exact ⟨rfl, (Below.refl _ _).alloc (Nat.le_refl _) _⟩
  · by_cases h2 : 0 < s.size
    · have hne : s.toList.isEmpty = false := by
        cases h : s.toList with
        | nil => have := size_of s; rw [h] at this; simp at this; omega
        | cons _ _ => rfl
      by_cases h3 : s[0] = 0
      · rw [chk_zero (by rw [size_of]; exact h1) (by rw [head_of s h2, h3])] at hr
        have h4 := u8_eqb (n := 0) rfl h3
        subst hr
        clear h3
        go_enter Tryd.func22, Tryd.ntmps22
        go_wp2
        go_ret
        exact ⟨rfl, (Below.refl _ _).alloc (Nat.le_refl _) _⟩
      · rw [chk_ok (by rw [size_of]; exact h1) (by intro e; rw [e] at hne; simp at hne) (by rw [head_of s h2]; simpa using h3)] at hr
        have h4 := u8_neb (n := 0) rfl h3
        subst hr
        clear h3
        go_enter Tryd.func22, Tryd.ntmps22
        go_wp2
        go_ret
        exact ⟨rfl, (Below.refl _ _).alloc (Nat.le_refl _) _⟩
    · have he := nil_of_size h2
      have hne : s.toList.isEmpty = true := by rw [he]; rfl
      cases b
      · rw [chk_nil he] at hr
        subst hr
        clear he
        go_enter Tryd.func22, Tryd.ntmps22
        go_wp2
        go_ret
        exact ⟨rfl, (Below.refl _ _).alloc (Nat.le_refl _) _⟩
      · rw [chk_nil_below he] at hr
        subst hr
        clear he
        go_enter Tryd.func22, Tryd.ntmps22
        go_wp2
        go_ret
        exact ⟨rfl, (Below.refl _ _).alloc (Nat.le_refl _) _⟩
theorem rcheck_any (b : Bool) (s : ByteArray) (w : World) (_hs : s.size ≤ 9223372036854775807) (r : Int) (hr : chk b s.toList = r) :
    Calls Tryd.prog 64 #[.agg #[.bool b, .string s]] w fun e w' => e = .returned (.int .i64 r) ∧ Below w.heap.size w w' := by
  by_cases h1 : 255 < s.size
  · rw [chk_long (by rw [size_of]; exact h1)] at hr
    subst hr
    go_enter Tryd.func64, Tryd.ntmps64
    go_wp2
    go_ret
    exact ⟨rfl, (Below.refl _ _).alloc (Nat.le_refl _) _⟩
  · by_cases h2 : 0 < s.size
    · have hne : s.toList ≠ [] := by intro e; have := size_of s; rw [e] at this; simp at this; omega
      have q1 : ((s.size : Int) == 0) = false := beq_eq_false_iff_ne.2 (by omega)
      have q2 : decide ((0 : Int) < (s.size : Int)) = true := decide_eq_true (by omega)
      by_cases h3 : s[0] = 0
      · rw [chk_zero (by rw [size_of]; exact h1) (by rw [head_of s h2, h3])] at hr
        have h4 := u8_eqb (n := 0) rfl h3
        subst hr
        clear h3 hne
        go_enter Tryd.func64, Tryd.ntmps64
        go_wp2
        go_ret
        exact ⟨rfl, (Below.refl _ _).alloc (Nat.le_refl _) _⟩
      · rw [chk_ok (by rw [size_of]; exact h1) hne (by rw [head_of s h2]; simpa using h3)] at hr
        have h4 := u8_neb (n := 0) rfl h3
        subst hr
        clear h3 hne
        go_enter Tryd.func64, Tryd.ntmps64
        go_wp2
        go_ret
        exact ⟨rfl, (Below.refl _ _).alloc (Nat.le_refl _) _⟩
    · have he := nil_of_size h2
      have q1 : ((s.size : Int) == 0) = true := beq_iff_eq.2 (by omega)
      have q2 : decide ((0 : Int) < (s.size : Int)) = false := decide_eq_false (by omega)
      cases b
      · rw [chk_nil he] at hr
        subst hr
        clear he
        go_enter Tryd.func64, Tryd.ntmps64
        go_wp2
        go_ret
        exact ⟨rfl, (Below.refl _ _).alloc (Nat.le_refl _) _⟩
      · rw [chk_nil_below he] at hr
        subst hr
        clear he
        go_enter Tryd.func64, Tryd.ntmps64
        go_wp2
        go_ret
        exact ⟨rfl, (Below.refl _ _).alloc (Nat.le_refl _) _⟩


theorem eql_num (x y : Bool) (a b : ByteArray) (E : Bool) (h : (x == y && a.toList == b.toList) = E) (w : World) : (binOp .eql 24 (.agg #[.bool x, .string a]) (.agg #[.bool y, .string b])).run Tryd.prog w = .ok (.bool E) w := by
  subst h
  by_cases hx : x = y <;> by_cases ha : a.toList = b.toList <;> simp [go_sem, hx, ha]
theorem neq_num (x y : Bool) (a b : ByteArray) (E : Bool) (h : (x == y && a.toList == b.toList) = E) (w : World) : (binOp .neq 24 (.agg #[.bool x, .string a]) (.agg #[.bool y, .string b])).run Tryd.prog w = .ok (.bool !E) w := by
  subst h
  by_cases hx : x = y <;> by_cases ha : a.toList = b.toList <;> simp [go_sem, hx, ha]
end Go.Proofs.YtcgphlilijeifaaDoor.V
end
section
/-
  Is a part deeper than so many: the program's and the document's.
-/
namespace Go.Proofs.YtcgphlilijeifaaDoor.V
open Go.RowKit

theorem PI.later {w w1 : World} {l : List Pt} {v : Value} (h : PI w 0 w.heap.size l v) (hb : Below w.heap.size w w1) : PI w1 0 w1.heap.size l v :=
  (h.same (Same.of_below hb (Nat.le_refl _))).wide (Nat.le_refl _) hb.size
theorem VI.later {w w1 : World} {p : Pt} {v : Value} (h : VI w 0 w.heap.size p v) (hb : Below w.heap.size w w1) : VI w1 0 w1.heap.size p v :=
  (h.same (Same.of_below hb (Nat.le_refl _))).wide (Nat.le_refl _) hb.size
theorem any_drop {f : Pt → Bool} {l : List Pt} {k : Nat} (h : k < l.length) : (l.drop k).any f = (f l[k] || (l.drop (k + 1)).any f) := by
  rw [List.drop_eq_getElem_cons h]; rfl
theorem all_drop {f : Pt → Bool} {l : List Pt} {k : Nat} (h : k < l.length) : (l.drop k).all f = (f l[k] && (l.drop (k + 1)).all f) := by
  rw [List.drop_eq_getElem_cons h]; rfl

set_option maxRecDepth 100000 in
set_option maxHeartbeats 1000000 in
theorem deep_any (n : Nat) : ∀ (p : Pt) (v : Value) (w : World), n ≤ 1000 → Fit p → PI w 0 w.heap.size p.items v →
    Calls Tryd.prog 47 #[.agg #[.int .u8 p.kind, .bool p.yes, .bool p.neg, .string p.mag, .string p.raw, v], .int .i64 n] w fun e w' => e = .returned (.bool (deepB n p)) ∧ Below w.heap.size w w' := by
  induction n with
  | zero =>
    intro p v w _ hf hp
    have hk := hf.k
    by_cases h7 : p.kind = 7
    · have q1 : ((p.kind : Int) != 7) = false := by rw [h7]; rfl
      have HD := Lib.hid (show deepB 0 p = true by simp [deepB, h7])
      clear h7
      go_enter Tryd.func47, Tryd.ntmps47
      go_wp2_with fail
      go_ret
      exact ⟨by rw [HD.out]; rfl, (Below.refl _ _).alloc (Nat.le_refl _) _⟩
    · have q1 : ((p.kind : Int) != 7) = true := by simp; omega
      have HD := Lib.hid (show deepB 0 p = false by simp [deepB, h7])
      clear h7
      go_enter Tryd.func47, Tryd.ntmps47
      go_wp2_with fail
      go_ret
      exact ⟨by rw [HD.out]; rfl, (Below.refl _ _).alloc (Nat.le_refl _) _⟩
  | succ n ih =>
    intro p v w hn hf hp
    have hk := hf.k
    have hl := hf.l
    by_cases h7 : p.kind = 7
    · have q1 : ((p.kind : Int) != 7) = false := by rw [h7]; rfl
      have q2 : ((n : Int) + 1 == 0) = false := beq_eq_false_iff_ne.2 (by omega)
      have HD := Lib.hid (show deepB (n + 1) p = (p.items.drop 0).any (deepB n) by simp [deepB, h7])
      obtain ⟨a, cap, rfl, hcap, hat⟩ := hp.open
      have HA := Lib.hid hat
      have IH := Lib.hid ih
      clear h7 hat ih hp
      go_enter Tryd.func47, Tryd.ntmps47
      go_wp2_with fail
      go_loopw [15] (fun i wr => ∃ k : Nat, k ≤ p.items.length ∧ i = .int .i64 k ∧ RowKit.Hid (deepB (n + 1) p = (p.items.drop k).any (deepB n)) ∧ Below w.heap.size w wr ∧ w.heap.size < wr.heap.size) (fun i _ => p.items.length - (intOf i).toNat)
      case atStart => exact ⟨0, Nat.zero_le _, rfl, HD, (Below.refl _ _).alloc (Nat.le_refl _) _, by simp⟩
      case round =>
        obtain ⟨k, hkl, rfl, HK, hB, hsz⟩ := hrel
        by_cases hlt : k < p.items.length
        · have q3 : decide (k < p.items.length) = true := by simpa using hlt
          obtain ⟨b, off, u, rfl, _, hb, hc, hfit, hpi⟩ := HA.out k hlt
          obtain ⟨d0, d1, d2, d3, d4, d5⟩ := hc.same (Same.of_below hB (Nat.le_refl _)) (Nat.zero_le _) hb
          have HE := Lib.hid (any_drop (f := deepB n) hlt)
          obtain ⟨q, hq⟩ : ∃ q, p.items[k] = q := ⟨_, rfl⟩
          rw [hq] at d0 d1 d2 d3 d4 hfit hpi HE
          obtain ⟨a2, cap2, rfl, _, _⟩ := hpi.open
          have hpi2 := Lib.hid hpi
          clear hc hq hpi
          go_wp2_with fail
          have hpw : PI (wr.alloc (.cells #[.int .u8 q.kind, .bool q.yes, .bool q.neg, .string q.mag, .string q.raw, .slice a2 q.items.length cap2] 27)) 0 (wr.alloc (.cells #[.int .u8 q.kind, .bool q.yes, .bool q.neg, .string q.mag, .string q.raw, .slice a2 q.items.length cap2] 27)).heap.size q.items (.slice a2 q.items.length cap2) :=
            hpi2.out.later (hB.alloc (Nat.le_of_lt hsz) _)
          refine (IH.out q _ _ (by omega) hfit hpw).mono ?_
          rintro e w1 ⟨rfl, hb1⟩
          have hB1 : Below w.heap.size w w1 := (hB.alloc (Nat.le_of_lt hsz) _).trans (hb1.mono (by simp; omega))
          have hz1 : w.heap.size < w1.heap.size := by have := hb1.size; simp at this; omega
          cases hd : deepB n q with
          | true =>
            have HD2 := Lib.hid (show deepB (n + 1) p = true by rw [HK.out, HE.out, hd]; rfl)
            clear hd hB hb1 hpw d0 d1 d2 d3 d4 d5
            go_wp2_with fail
            go_ret
            exact ⟨by rw [HD2.out]; rfl, hB1⟩
          | false =>
            have HD2 := Lib.hid (show deepB (n + 1) p = (p.items.drop (k + 1)).any (deepB n) by rw [HK.out, HE.out, hd]; rfl)
            clear hd hB hb1 hpw d0 d1 d2 d3 d4 d5
            go_wp2_with fail
            refine ⟨?_, by simp [intOf]; omega⟩
            (repeat apply Exists.intro)
            exact ⟨⟨k + 1, by omega, rfl, HD2, hB1, hz1⟩, rfl⟩
        · have q3 : decide (k < p.items.length) = false := by simpa using hlt
          have HD2 := Lib.hid (show deepB (n + 1) p = false by rw [HK.out, List.drop_of_length_le (by omega)]; rfl)
          go_wp2_with fail
          go_ret
          exact ⟨by rw [HD2.out]; rfl, hB⟩
    · have q1 : ((p.kind : Int) != 7) = true := by simp; omega
      have HD := Lib.hid (show deepB (n + 1) p = false by simp [deepB, h7])
      clear h7
      go_enter Tryd.func47, Tryd.ntmps47
      go_wp2_with fail
      go_ret
      exact ⟨by rw [HD.out]; rfl, (Below.refl _ _).alloc (Nat.le_refl _) _⟩
end Go.Proofs.YtcgphlilijeifaaDoor.V
end
