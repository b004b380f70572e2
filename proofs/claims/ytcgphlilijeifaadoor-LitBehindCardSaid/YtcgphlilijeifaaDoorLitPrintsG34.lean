import Derived.Deep.RegionHeld3
import Derived.BigQuiet
import Derived.Deep.QuietTactic
import Derived.StillTailTactics
import Derived.Test.YtcgphlilijeifaaDoorLitPrintsG33
import Derived.Test.YtcgphlilijeifaaDoorLitPrintsG28
section
/-
  The reader of a text: what the reading of a part comes to.
-/
namespace Go.Proofs.YtcgphlilijeifaaDoor.L
open Go.RowKit
open V (Pt)

/-- Parse, of what can not be read. -/
theorem parse_not (s : ByteArray) (w : World) (hs : s.size ≤ 9223372036854775807) (h : parseE s.toList ≠ 0) :
    Calls Tryd.prog 26 #[.string s] w fun e w' => e = .returned (.tuple #[.agg #[.bool false, .string ⟨#[]⟩], .int .i64 (parseE s.toList)]) ∧ Below w.heap.size w w' := by
  refine (parse_any s w hs).mono ?_
  rintro e w' ⟨q, rfl, hq, hb1⟩
  have hq' := hq.out
  rw [if_neg h] at hq'
  obtain rfl := of_list hq'
  have h0 : (parseE s.toList == 0) = false := by simpa using h
  rw [h0]
  exact ⟨rfl, hb1⟩

/-- What the reading of a part comes to. -/
def PPost (b : Nat) (s : ByteArray) (R : Res Pt) (w : World) (e : Ending) (w' : World) : Prop :=
  Gv b w w' ∧ ((∃ n, R = .bad n ∧ e = wrongAt ((s.size - n : Nat) : Int)) ∨
    ∃ (p : Pt) (r : List UInt8) (v : Value) (k : Nat), R = .ok p r ∧ e = .returned (.agg #[.int .u8 p.kind, .bool p.yes, .bool p.neg, .string p.mag, .string p.raw, v]) ∧ V.OwnI w' false w.heap.size w'.heap.size p.items v ∧ k ≤ s.size ∧ r = s.toList.drop k ∧ Lr w' b s k)
theorem ppost_bad {b : Nat} {s : ByteArray} {R : Res Pt} {w w' : World} {n a : Nat} (hR : R = .bad n) (hg : Gv b w w') (hn : n + a = s.size) : PPost b s R w (wrongAt (a : Int)) w' :=
  ⟨hg, .inl ⟨n, hR, by rw [show s.size - n = a by omega]⟩⟩
theorem ppost_flat {b : Nat} {s : ByteArray} {R : Res Pt} {w w' : World} {p : Pt} {r : List UInt8} {k : Nat} (hR : R = .ok p r) (hi : p.items = []) (hg : Gv b w w') (hk : k ≤ s.size) (hr : r = s.toList.drop k) (hL : Lr w' b s k) :
    PPost b s R w (.returned (.agg #[.int .u8 p.kind, .bool p.yes, .bool p.neg, .string p.mag, .string p.raw, .slice none 0 0])) w' :=
  ⟨hg, .inr ⟨p, r, _, k, hR, rfl, by rw [hi]; exact .nil _ _ rfl, hk, hr, hL⟩⟩

def Z6 : Array Value := #[.int .u8 0, .bool false, .bool false, .string ⟨#[]⟩, .string ⟨#[]⟩, .slice none 0 0]
theorem e27_new (w : World) : Empty27 (w.alloc (.cells #[.int .u8 0, .bool false, .bool false, .string ⟨#[]⟩, .string ⟨#[]⟩, .slice none 0 0] 27)) w.heap.size := Blk.new w 27 _
theorem Empty27.cells {w : World} {T : Nat} (h : Empty27 w T) : w.cell? ⟨T, 0, none⟩ = some (.int .u8 0) ∧ w.cell? ⟨T, 1, none⟩ = some (.bool false) ∧ w.cell? ⟨T, 2, none⟩ = some (.bool false) ∧ w.cell? ⟨T, 3, none⟩ = some (.string ⟨#[]⟩) ∧ w.cell? ⟨T, 4, none⟩ = some (.string ⟨#[]⟩) ∧
    w.cell? ⟨T, 5, none⟩ = some (.slice none 0 0) ∧ w.frozen? ⟨T, 0, none⟩ = false ∧ w.frozen? ⟨T, 1, none⟩ = false ∧ w.frozen? ⟨T, 2, none⟩ = false ∧ w.frozen? ⟨T, 3, none⟩ = false ∧ w.frozen? ⟨T, 4, none⟩ = false ∧ w.frozen? ⟨T, 5, none⟩ = false ∧ T < w.heap.size :=
  ⟨Blk.cell h 0, Blk.cell h 1, Blk.cell h 2, Blk.cell h 3, Blk.cell h 4, Blk.cell h 5, Blk.frozen h 0, Blk.frozen h 1, Blk.frozen h 2, Blk.frozen h 3, Blk.frozen h 4, Blk.frozen h 5, Blk.lt h⟩
theorem Empty27.later {w w' : World} {T : Nat} (h : Empty27 w T) (hb : Below w.heap.size w w') : Empty27 w' T := Blk.below h hb (Blk.lt h)
theorem Empty27.gv {w w' : World} {T b : Nat} (h : Empty27 w T) (hne : T ≠ b) (hb : Gv b w w') : Empty27 w' T := hb.blk hne h
theorem Empty27.set {w : World} {T b i : Nat} {v : Value} (h : Empty27 w T) (hne : T ≠ b) : Empty27 (w.setCell ⟨b, i, none⟩ v) T := (Below.heap_setCell _ _ _ _ hne).trans h
theorem Lr.other {w : World} {b T i : Nat} {s : ByteArray} {a : Nat} {v : Value} (h : Lr w b s a) (hne : b ≠ T) : Lr (w.setCell ⟨T, i, none⟩ v) b s a := (Below.heap_setCell _ _ _ _ hne).trans h
theorem Gv.undrew {b : Nat} {w w' : World} (h : Gv b w.drew w') : Gv b w w' := ⟨h.os, h.tape, h.output, h.size, h.block⟩
theorem u8_nat {c d : UInt8} {n : Nat} (hd : d.toNat = n) (h : c ≠ d) : ((c.toNat : Int) == (n : Int)) = false := by
  rw [← hd]
  exact u8_beqf h
theorem len_drop (s : ByteArray) {a : Nat} (ha : a ≤ s.size) : (s.toList.drop a).length + a = s.size := by rw [List.length_drop, size_of]; omega
theorem extract_text {s : ByteArray} {a n : Nat} {c : UInt8} {t : List UInt8} (h : a < s.size) (hc : s[a] = c) (ht : (s.toList.drop (a + 1)).takeWhile isDigit = t) (hn : t.length = n) : (s.extract a (a + 1 + n)).toList = c :: t := by
  rw [Lib.extract_toList, ← Lib.toList_data, show a + 1 + n - a = n + 1 by omega, drop2 h hc, List.take_succ_cons, ← hn, ← ht, tw_take]
theorem num_rest {s : ByteArray} {a : Nat} {f : UInt8 → Bool} : (s.toList.drop a).dropWhile f = s.toList.drop (a + ((s.toList.drop a).takeWhile f).length) := by
  have h := List.takeWhile_append_dropWhile (p := f) (l := s.toList.drop a)
  rw [← List.drop_drop]
  conv => rhs; rw [← h]
  rw [List.drop_left']
  rw [h]

end Go.Proofs.YtcgphlilijeifaaDoor.L
end
section
/-
  The reader of a text: numbers.
-/
namespace Go.Proofs.YtcgphlilijeifaaDoor.L
open Go.RowKit
open V (Pt)

set_option maxRecDepth 100000 in
set_option maxHeartbeats 4000000 in
theorem rpart_num (d : Int) (b : Nat) (s : ByteArray) (a : Nat) (w : World) (hr : Lr w b s a) (ha : a < s.size) (hs : s.size ≤ 65536) (c : UInt8) (hc : s[a] = c) (hcc : c = 45 ∨ isDigit c = true) :
    Calls Tryd.prog 80 #[.pointer (some ⟨b, 0, none⟩), .int .i64 d] w (PPost b s (numF (c :: (s.toList.drop (a + 1)).takeWhile isDigit) ((s.toList.drop (a + 1)).dropWhile isDigit) (s.toList.drop a)) w) := by
  have HC := Lib.hid hc
  have hbl : b < w.heap.size := Blk.lt hr
  obtain ⟨t, ht⟩ : ∃ t, (s.toList.drop (a + 1)).takeWhile isDigit = t := ⟨_, rfl⟩
  have htl := takeWhile_len_le s isDigit (a + 1) (by omega)
  obtain ⟨n, hn⟩ : ∃ n, t.length = n := ⟨_, rfl⟩
  rw [ht, hn] at htl
  have HE := Lib.hid (extract_text ha hc ht hn)
  have HR := Lib.hid (show (s.toList.drop (a + 1)).dropWhile isDigit = s.toList.drop (a + 1 + n) by rw [num_rest, ht, hn])
  have HL := Lib.hid (show ((s.toList.drop (a + 1)).takeWhile isDigit).length = n by rw [ht, hn])
  have HD := Lib.hid (len_drop s (Nat.le_of_lt ha))
  rw [ht]
  clear hc ht
  have hq : ((c.toNat : Int) == 45) = true ∨ (((c.toNat : Int) == 45) = false ∧ decide ((48 : Int) ≤ (c.toNat : Int)) = true ∧ decide ((c.toNat : Int) ≤ 57) = true) := by
    rcases hcc with rfl | h
    · exact .inl (by decide)
    · simp [isDigit] at h
      exact .inr ⟨by simp; omega, by simp; omega, by simp; omega⟩
  clear hcc
  go_enter Tryd.func80, Tryd.ntmps80
  rcases hq with q1 | ⟨q1, q2, q3⟩
  all_goals
    have c1 := (hr.alloc (.cells #[.int .u8 0, .bool false, .bool false, .string ⟨#[]⟩, .string ⟨#[]⟩, .slice none 0 0] 27)).c1
    go_wp2_with fail
    refine (next_at b s a _ (hr.alloc _) ha hs c HC.out).mono ?_
    rintro e w1 ⟨rfl, hb1⟩
    have hE := (e27_new w).later hb1
    have hr1 := (hr.alloc _).later hb1
    have hg1 := ((Gv.refl b w).alloc (.cells #[.int .u8 0, .bool false, .bool false, .string ⟨#[]⟩, .string ⟨#[]⟩, .slice none 0 0] 27)).trans (Gv.of_below (b := b) hb1)
    clear hr hb1 c1
    have c1 := hr1.c1
    have z1 := hr1.z1
    go_wp2_with fail
    have hr2 := Lr.setTo hr1 (a' := a + 1) (x := (a : Int) + 1) (by omega)
    have hE2 : Empty27 (w1.setCell ⟨b, 1, none⟩ (.int .i64 ((a : Int) + 1))) w.heap.size := hE.set (by omega)
    have hg2 := hg1.set_ 1 (.int .i64 ((a : Int) + 1))
    refine (row_any b s digS isDigit dig_is (a + 1) _ hr2 (by omega) hs).mono ?_
    rintro e w3 ⟨p, rfl, _, hr3, hg3⟩
    rw [HL.out] at hr3
    have hE3 := hE2.gv (by omega) hg3
    replace hg3 := hg2.trans hg3
    obtain ⟨m, hm⟩ : ∃ m, a + 1 + n = m := ⟨_, rfl⟩
    rw [hm] at hr3
    clear hr1 hg1 hr2 hg2 hE c1 z1
    have c0 := hr3.c0
    have c1 := hr3.c1
    have hb3 : b < w3.heap.size := Blk.lt hr3
    have hle1 : a ≤ m := by omega
    have hle2 : m ≤ s.size := by omega
    go_wp2_with fail
    have hc3 : (s.extract a m).toList = c :: t := by rw [← hm]; exact HE.out
    have hsz3 : (s.extract a m).size ≤ 9223372036854775807 := by rw [← size_of, hc3, List.length_cons]; omega
    by_cases hp0 : parseE (c :: t) = 0
    · have HP := Lib.hid (fun w => parse_yes (s.extract a m) w hsz3 (by rw [hc3]; exact hp0) (neg (c :: t)) (by rw [hc3]))
      have HN := Lib.hid (show numF (c :: t) ((s.toList.drop (a + 1)).dropWhile isDigit) (s.toList.drop a) = .ok (.mk 2 false (neg (c :: t)) ⟨(magN (dv (ds (c :: t)))).toArray⟩ ⟨#[]⟩ []) (s.toList.drop m) by unfold numF; rw [if_pos hp0, HR.out, hm])
      have HC3 := Lib.hid hc3
      have n0 : w.heap.size < w3.heap.size := Blk.lt hE3
      have n1 : w.heap.size ≠ w3.heap.size := by omega
      have n2 : w3.heap.size ≠ w.heap.size := by omega
      clear hsz3 hc3 hp0
      go_region_law (go_simp; go_at_call 26; refine (HP.out _).mono ?_; rintro e w4 ⟨q, rfl, hq, hb4⟩; first
        | (have y0 : w4.cell? ⟨w3.heap.size, 0, none⟩ = some (.bool false) := (hb4.cell (p := ⟨w3.heap.size, 0, none⟩) (by simp)).trans (by simp)
           have y1 : w4.cell? ⟨w3.heap.size, 1, none⟩ = some (.string ⟨#[]⟩) := (hb4.cell (p := ⟨w3.heap.size, 1, none⟩) (by simp)).trans (by simp)
           have y2 : w4.frozen? ⟨w3.heap.size, 0, none⟩ = false := (hb4.frozen (p := ⟨w3.heap.size, 0, none⟩) (by simp)).trans (by simp)
           have y3 : w4.frozen? ⟨w3.heap.size, 1, none⟩ = false := (hb4.frozen (p := ⟨w3.heap.size, 1, none⟩) (by simp)).trans (by simp)
           have hb5 : Below w3.heap.size w3 w4 := ((Below.refl _ w3).drew.alloc (Nat.le_refl _) _).trans (hb4.mono (by simp))
           have hls : w3.heap.size < w4.heap.size := World.block_lt_of_cell? w4 _ y0)
        | have hb5 := V.undrew hb4)
      all_goals
        have HQ := Lib.hid (show q = ⟨(magN (dv (ds (c :: t)))).toArray⟩ by have := hq.out; rw [HC3.out] at this; exact of_list this)
        have hE4 := hE3.later hb5
        have hr4 := hr3.later hb5
        have hg4 := hg3.trans (Gv.of_below (b := b) hb5)
        clear hb4 hb5 hE3 hr3 hg3 hq c0 c1
        first
          | (obtain ⟨w5, hw5⟩ : ∃ w5, w5 = (w4.setCell ⟨w3.heap.size, 0, none⟩ (.bool (neg (c :: t)))).setCell ⟨w3.heap.size, 1, none⟩ (.string q) := ⟨_, rfl⟩
             rw [← hw5]
             have hE5 : Empty27 w5 w.heap.size := by rw [hw5]; exact Empty27.set (Empty27.set hE4 n1) n1
             have hr5 : Lr w5 b s m := by rw [hw5]; exact Lr.other (Lr.other hr4 (by omega)) (by omega)
             have hg5 : Gv b w w5 := by rw [hw5]; exact (hg4.setNew (Nat.le_of_lt n0) 0 _).setNew (Nat.le_of_lt n0) 1 _
             have x0 : w5.cell? ⟨w3.heap.size, 0, none⟩ = some (.bool (neg (c :: t))) := by rw [hw5]; simp [go_sem, y0, y1]
             have x1 : w5.cell? ⟨w3.heap.size, 1, none⟩ = some (.string q) := by rw [hw5]; simp [go_sem, y0, y1]
             clear hw5 y0 y1 y2 y3 hls)
          | (obtain ⟨w5, hw5⟩ : ∃ w5, w5 = w4.alloc (.cells #[.bool (neg (c :: t)), .string q] 24) := ⟨_, rfl⟩
             rw [← hw5]
             have hE5 : Empty27 w5 w.heap.size := by rw [hw5]; exact hE4.later ((Below.refl _ _).alloc (Nat.le_refl _) _)
             have hr5 : Lr w5 b s m := by rw [hw5]; exact hr4.alloc _
             have hg5 : Gv b w w5 := by rw [hw5]; exact hg4.alloc _
             have x0 : w5.cell? ⟨w4.heap.size, 0, none⟩ = some (.bool (neg (c :: t))) := by rw [hw5]; simp [go_sem]
             have x1 : w5.cell? ⟨w4.heap.size, 1, none⟩ = some (.string q) := by rw [hw5]; simp [go_sem]
             clear hw5)
        clear hE4 hr4 hg4
        obtain ⟨c0, c1, c2, c3, c4, c5, z0, z1, z2, z3, z4, z5, hlt⟩ := hE5.cells
        go_wp2_with fail
        have hq := HQ.out
        clear HQ
        subst hq
        exact bodyPost_ret (v := .agg #[.int .u8 2, .bool false, .bool (neg (c :: t)), .string ⟨(magN (dv (ds (c :: t)))).toArray⟩, .string ⟨#[]⟩, .slice none 0 0]) (by simp [results, Tryd.results80, go_sem, c0, c1, c2, c3, c4, c5]) rfl
          (ppost_flat HN.out rfl (six_gv hg5 (Nat.le_refl _) _ _ _ _ _ _) hle2 rfl (six_lr hr5 (by omega) _ _ _ _ _ _))
    · obtain ⟨E, hE0⟩ : ∃ E, parseE (c :: t) = E := ⟨_, rfl⟩
      have HP := Lib.hid (fun w => parse_not (s.extract a m) w hsz3 (by rw [hc3]; exact hp0))
      rw [hc3, hE0] at HP
      have HN := Lib.hid (show numF (c :: t) ((s.toList.drop (a + 1)).dropWhile isDigit) (s.toList.drop a) = .bad (s.toList.drop a).length by unfold numF; rw [if_neg hp0])
      have f1 : (E != 0) = true := by rw [hE0] at hp0; simpa using hp0
      have n0 : w.heap.size < w3.heap.size := Blk.lt hE3
      have n1 : w.heap.size ≠ w3.heap.size := by omega
      have n2 : w3.heap.size ≠ w.heap.size := by omega
      clear hsz3 hc3 hp0 hE0
      go_region_law (go_simp; go_at_call 26; refine (HP.out _).mono ?_; rintro e w4 ⟨rfl, hb4⟩; first
        | (have y0 : w4.cell? ⟨w3.heap.size, 0, none⟩ = some (.bool false) := (hb4.cell (p := ⟨w3.heap.size, 0, none⟩) (by simp)).trans (by simp)
           have y1 : w4.cell? ⟨w3.heap.size, 1, none⟩ = some (.string ⟨#[]⟩) := (hb4.cell (p := ⟨w3.heap.size, 1, none⟩) (by simp)).trans (by simp)
           have y2 : w4.frozen? ⟨w3.heap.size, 0, none⟩ = false := (hb4.frozen (p := ⟨w3.heap.size, 0, none⟩) (by simp)).trans (by simp)
           have y3 : w4.frozen? ⟨w3.heap.size, 1, none⟩ = false := (hb4.frozen (p := ⟨w3.heap.size, 1, none⟩) (by simp)).trans (by simp)
           have hb5 : Below w3.heap.size w3 w4 := ((Below.refl _ w3).drew.alloc (Nat.le_refl _) _).trans (hb4.mono (by simp))
           have hls : w3.heap.size < w4.heap.size := World.block_lt_of_cell? w4 _ y0)
        | have hb5 := V.undrew hb4)
      all_goals
        have hg4 := hg3.trans (Gv.of_below (b := b) hb5)
        clear hb4 hb5 hE3 hr3 hg3 c0 c1
        go_wp2_with fail
        first
          | exact ⟨rfl, ppost_bad HN.out hg4 HD.out⟩
          | exact ⟨rfl, ppost_bad HN.out (hg4.alloc _) HD.out⟩
          | exact ⟨rfl, ppost_bad HN.out ((hg4.setNew (Nat.le_of_lt n0) 0 _).setNew (Nat.le_of_lt n0) 1 _) HD.out⟩
end Go.Proofs.YtcgphlilijeifaaDoor.L
end
section
/-
  The reader of a text: a part of bytes as digits of sixteen; a part between quotes (printed by wip/tools/mk-litdig.py).
-/
namespace Go.Proofs.YtcgphlilijeifaaDoor.L
open Go.RowKit
open V (Pt)

set_option maxRecDepth 100000 in
set_option maxHeartbeats 4000000 in
theorem rpart_dig (d : Int) (b : Nat) (s : ByteArray) (a : Nat) (w : World) (hr : Lr w b s a) (ha : a < s.size) (hs : s.size ≤ 65536) (c : UInt8) (hc : s[a] = c) (hcc : c = 120 ∨ c = 35) :
    Calls Tryd.prog 80 #[.pointer (some ⟨b, 0, none⟩), .int .i64 d] w (PPost b s (digF c ((s.toList.drop (a + 1)).takeWhile isHex) ((s.toList.drop (a + 1)).dropWhile isHex) (s.toList.drop a)) w) := by
  have HC := Lib.hid hc
  have hbl : b < w.heap.size := Blk.lt hr
  obtain ⟨t, ht⟩ : ∃ t, (s.toList.drop (a + 1)).takeWhile isHex = t := ⟨_, rfl⟩
  have HT := Lib.hid ht
  have HR := Lib.hid (show (s.toList.drop (a + 1)).dropWhile isHex = s.toList.drop (a + 1 + t.length) by rw [num_rest, ht])
  have htl := takeWhile_len_le s isHex (a + 1) (by omega)
  rw [ht] at htl
  have HD := Lib.hid (len_drop s (Nat.le_of_lt ha))
  rw [ht]
  clear hc ht
  rcases hcc with rfl | rfl
  · go_enter Tryd.func80, Tryd.ntmps80
    have c1 := (hr.alloc (.cells #[.int .u8 0, .bool false, .bool false, .string ⟨#[]⟩, .string ⟨#[]⟩, .slice none 0 0] 27)).c1
    go_wp2_with fail
    refine (next_at b s a _ (hr.alloc _) ha hs 120 HC.out).mono ?_
    rintro e w1 ⟨rfl, hb1⟩
    have hE := (e27_new w).later hb1
    have hr1 := (hr.alloc _).later hb1
    have hg1 := ((Gv.refl b w).alloc (.cells #[.int .u8 0, .bool false, .bool false, .string ⟨#[]⟩, .string ⟨#[]⟩, .slice none 0 0] 27)).trans (Gv.of_below (b := b) hb1)
    clear hr hb1 c1
    have c1 := hr1.c1
    have z1 := hr1.z1
    go_wp2_with fail
    have hr2 := Lr.setTo hr1 (a' := a + 1) (x := (a : Int) + 1) (by omega)
    have hE2 : Empty27 (w1.setCell ⟨b, 1, none⟩ (.int .i64 ((a : Int) + 1))) w.heap.size := hE.set (by omega)
    have hg2 := hg1.set_ 1 (.int .i64 ((a : Int) + 1))
    by_cases hbad : ((120 : UInt8) = 35 ∧ t.length ≠ 32) ∨ t.length % 2 ≠ 0
    · refine (ldigits_bad b s 120 (by decide) a (a + 1) _ hr2 (by omega) hs (by rw [HT.out]; exact hbad)).mono ?_
      rintro e w3 ⟨he, hg3⟩
      unfold wrongAt at he
      subst he
      exact ⟨rfl, ppost_bad (by unfold digF; rw [if_pos hbad]) (hg2.trans hg3) HD.out⟩
    · have hbad2 := hbad
      simp only [not_or, not_and, ne_eq, Classical.not_not] at hbad2
      refine (ldigits_ok b s 120 (by decide) a (a + 1) _ hr2 (by omega) hs t HT.out hbad2.1 (t.length / 2) (by omega)).mono ?_
      rintro e w3 ⟨q, rfl, hq, hr3, hg3⟩
      rw [show ((if (120 : UInt8) = 35 then 4 else 3 : Nat) : Int) = 3 from rfl]
      obtain rfl := of_list hq.out
      have hE3 := hE2.gv (by omega) hg3
      have hg := hg2.trans hg3
      have HR3 := Lib.hid (show digF 120 t ((s.toList.drop (a + 1)).dropWhile isHex) (s.toList.drop a) = .ok (mkP 3 false (bytesH t)) (s.toList.drop (a + 1 + t.length)) by unfold digF; rw [if_neg hbad, HR.out]; rfl)
      clear hE2 hg2 hg3 hr2 hE hg1 hr1 c1 z1 hbad hbad2 hq
      obtain ⟨c0, c1, c2, c3, c4, c5, z0, z1, z2, z3, z4, z5, hlt⟩ := hE3.cells
      go_wp2_with fail
      exact bodyPost_ret (v := .agg #[.int .u8 3, .bool false, .bool false, .string ⟨#[]⟩, .string ⟨(bytesH t).toArray⟩, .slice none 0 0]) (by simp [results, Tryd.results80, go_sem, c0, c1, c2, c3, c4, c5]) rfl
        (ppost_flat HR3.out rfl (six_gv hg (Nat.le_refl _) _ _ _ _ _ _) htl rfl (six_lr hr3 (by omega) _ _ _ _ _ _))
  · go_enter Tryd.func80, Tryd.ntmps80
    have c1 := (hr.alloc (.cells #[.int .u8 0, .bool false, .bool false, .string ⟨#[]⟩, .string ⟨#[]⟩, .slice none 0 0] 27)).c1
    go_wp2_with fail
    refine (next_at b s a _ (hr.alloc _) ha hs 35 HC.out).mono ?_
    rintro e w1 ⟨rfl, hb1⟩
    have hE := (e27_new w).later hb1
    have hr1 := (hr.alloc _).later hb1
    have hg1 := ((Gv.refl b w).alloc (.cells #[.int .u8 0, .bool false, .bool false, .string ⟨#[]⟩, .string ⟨#[]⟩, .slice none 0 0] 27)).trans (Gv.of_below (b := b) hb1)
    clear hr hb1 c1
    have c1 := hr1.c1
    have z1 := hr1.z1
    go_wp2_with fail
    have hr2 := Lr.setTo hr1 (a' := a + 1) (x := (a : Int) + 1) (by omega)
    have hE2 : Empty27 (w1.setCell ⟨b, 1, none⟩ (.int .i64 ((a : Int) + 1))) w.heap.size := hE.set (by omega)
    have hg2 := hg1.set_ 1 (.int .i64 ((a : Int) + 1))
    by_cases hbad : ((35 : UInt8) = 35 ∧ t.length ≠ 32) ∨ t.length % 2 ≠ 0
    · refine (ldigits_bad b s 35 (by decide) a (a + 1) _ hr2 (by omega) hs (by rw [HT.out]; exact hbad)).mono ?_
      rintro e w3 ⟨he, hg3⟩
      unfold wrongAt at he
      subst he
      exact ⟨rfl, ppost_bad (by unfold digF; rw [if_pos hbad]) (hg2.trans hg3) HD.out⟩
    · have hbad2 := hbad
      simp only [not_or, not_and, ne_eq, Classical.not_not] at hbad2
      refine (ldigits_ok b s 35 (by decide) a (a + 1) _ hr2 (by omega) hs t HT.out (fun _ => hbad2.1 trivial) (t.length / 2) (by omega)).mono ?_
      rintro e w3 ⟨q, rfl, hq, hr3, hg3⟩
      rw [show ((if (35 : UInt8) = 35 then 4 else 3 : Nat) : Int) = 4 from rfl]
      obtain rfl := of_list hq.out
      have hE3 := hE2.gv (by omega) hg3
      have hg := hg2.trans hg3
      have HR3 := Lib.hid (show digF 35 t ((s.toList.drop (a + 1)).dropWhile isHex) (s.toList.drop a) = .ok (mkP 4 false (bytesH t)) (s.toList.drop (a + 1 + t.length)) by unfold digF; rw [if_neg hbad, HR.out]; rfl)
      clear hE2 hg2 hg3 hr2 hE hg1 hr1 c1 z1 hbad hbad2 hq
      obtain ⟨c0, c1, c2, c3, c4, c5, z0, z1, z2, z3, z4, z5, hlt⟩ := hE3.cells
      go_wp2_with fail
      exact bodyPost_ret (v := .agg #[.int .u8 4, .bool false, .bool false, .string ⟨#[]⟩, .string ⟨(bytesH t).toArray⟩, .slice none 0 0]) (by simp [results, Tryd.results80, go_sem, c0, c1, c2, c3, c4, c5]) rfl
        (ppost_flat HR3.out rfl (six_gv hg (Nat.le_refl _) _ _ _ _ _ _) htl rfl (six_lr hr3 (by omega) _ _ _ _ _ _))

set_option maxRecDepth 100000 in
set_option maxHeartbeats 4000000 in
theorem rpart_quo (d : Int) (b : Nat) (s : ByteArray) (a : Nat) (w : World) (hr : Lr w b s a) (ha : a < s.size) (hs : s.size ≤ 65536) (c : UInt8) (hc : s[a] = c) (hcc : c = 39 ∨ c = 34) :
    Calls Tryd.prog 80 #[.pointer (some ⟨b, 0, none⟩), .int .i64 d] w (PPost b s (quoF c (quotedF c (s.toList.drop (a + 1))) (s.toList.drop a)) w) := by
  have HC := Lib.hid hc
  have hbl : b < w.heap.size := Blk.lt hr
  have HD := Lib.hid (len_drop s (Nat.le_of_lt ha))
  clear hc
  rcases hcc with rfl | rfl
  · go_enter Tryd.func80, Tryd.ntmps80
    have c1 := (hr.alloc (.cells #[.int .u8 0, .bool false, .bool false, .string ⟨#[]⟩, .string ⟨#[]⟩, .slice none 0 0] 27)).c1
    go_wp2_with fail
    refine (next_at b s a _ (hr.alloc _) ha hs 39 HC.out).mono ?_
    rintro e w1 ⟨rfl, hb1⟩
    have hE := (e27_new w).later hb1
    have hr1 := (hr.alloc _).later hb1
    have hg1 := ((Gv.refl b w).alloc (.cells #[.int .u8 0, .bool false, .bool false, .string ⟨#[]⟩, .string ⟨#[]⟩, .slice none 0 0] 27)).trans (Gv.of_below (b := b) hb1)
    clear hr hb1 c1
    go_wp2_with fail
    refine (quoted_any b s 39 (by decide) a _ hr1 ha hs).mono ?_
    rintro e w3 ⟨hg3, ⟨hn, he⟩ | ⟨x, r, q, hx, rfl, hq, n, hn, hrn, hr3⟩⟩
    · unfold wrongAt at he
      subst he
      exact ⟨rfl, ppost_bad (by rw [hn]; rfl) (hg1.trans hg3) HD.out⟩
    · obtain rfl := of_list hq.out
      have hE3 := hE.gv (by omega) hg3
      have hg := hg1.trans hg3
      have HR3 := Lib.hid (show quoF 39 (quotedF 39 (s.toList.drop (a + 1))) (s.toList.drop a) = .ok (mkP 5 false x) r by rw [hx]; rfl)
      have HN := Lib.hid hrn
      clear hE hg1 hg3 hr1 hx hrn hq
      obtain ⟨c0, c1, c2, c3, c4, c5, z0, z1, z2, z3, z4, z5, hlt⟩ := hE3.cells
      go_wp2_with fail
      exact bodyPost_ret (v := .agg #[.int .u8 5, .bool false, .bool false, .string ⟨#[]⟩, .string ⟨x.toArray⟩, .slice none 0 0]) (by simp [results, Tryd.results80, go_sem, c0, c1, c2, c3, c4, c5]) rfl
        (ppost_flat HR3.out rfl (six_gv hg (Nat.le_refl _) _ _ _ _ _ _) hn HN.out (six_lr hr3 (by omega) _ _ _ _ _ _))
  · go_enter Tryd.func80, Tryd.ntmps80
    have c1 := (hr.alloc (.cells #[.int .u8 0, .bool false, .bool false, .string ⟨#[]⟩, .string ⟨#[]⟩, .slice none 0 0] 27)).c1
    go_wp2_with fail
    refine (next_at b s a _ (hr.alloc _) ha hs 34 HC.out).mono ?_
    rintro e w1 ⟨rfl, hb1⟩
    have hE := (e27_new w).later hb1
    have hr1 := (hr.alloc _).later hb1
    have hg1 := ((Gv.refl b w).alloc (.cells #[.int .u8 0, .bool false, .bool false, .string ⟨#[]⟩, .string ⟨#[]⟩, .slice none 0 0] 27)).trans (Gv.of_below (b := b) hb1)
    clear hr hb1 c1
    go_wp2_with fail
    refine (quoted_any b s 34 (by decide) a _ hr1 ha hs).mono ?_
    rintro e w3 ⟨hg3, ⟨hn, he⟩ | ⟨x, r, q, hx, rfl, hq, n, hn, hrn, hr3⟩⟩
    · unfold wrongAt at he
      subst he
      exact ⟨rfl, ppost_bad (by rw [hn]; rfl) (hg1.trans hg3) HD.out⟩
    · obtain rfl := of_list hq.out
      have hE3 := hE.gv (by omega) hg3
      have hg := hg1.trans hg3
      have HR3 := Lib.hid (show quoF 34 (quotedF 34 (s.toList.drop (a + 1))) (s.toList.drop a) = .ok (mkP 6 false x) r by rw [hx]; rfl)
      have HN := Lib.hid hrn
      clear hE hg1 hg3 hr1 hx hrn hq
      obtain ⟨c0, c1, c2, c3, c4, c5, z0, z1, z2, z3, z4, z5, hlt⟩ := hE3.cells
      go_wp2_with fail
      exact bodyPost_ret (v := .agg #[.int .u8 6, .bool false, .bool false, .string ⟨#[]⟩, .string ⟨x.toArray⟩, .slice none 0 0]) (by simp [results, Tryd.results80, go_sem, c0, c1, c2, c3, c4, c5]) rfl
        (ppost_flat HR3.out rfl (six_gv hg (Nat.le_refl _) _ _ _ _ _ _) hn HN.out (six_lr hr3 (by omega) _ _ _ _ _ _))
end Go.Proofs.YtcgphlilijeifaaDoor.L
end
section
/-
  The reader of a text: the words.
-/
namespace Go.Proofs.YtcgphlilijeifaaDoor.L
open Go.RowKit
open V (Pt)

theorem prefix_c (s : ByteArray) (a : Nat) (wd : ByteArray) (t : Bool) (h : wd.toList.isPrefixOf (s.toList.drop a) = t) (ha : a ≤ s.size) (w : World) :
    Calls Tryd.prog 112 #[.string (s.extract a s.size), .string wd] w fun e w' => e = .returned (.bool t) ∧ w' = w := by
  refine (Tryd.strings_HasPrefix _ _ w).mono ?_
  rintro e w' ⟨rfl, rfl⟩
  refine ⟨?_, rfl⟩
  have e1 : (s.extract a s.size).data.toList = s.toList.drop a := by
    rw [← Lib.toList_data, Lib.extract_toList, ← Lib.toList_data]
    exact List.take_of_length_le (by rw [List.length_drop, size_of]; exact Nat.le_refl _)
  rw [e1, ← Lib.toList_data, ← h]
  rfl
/-- The words that do not begin it. -/
def Pfx (k : Nat) (l : List UInt8) : Prop := (0 < k → nullT.isPrefixOf l = false) ∧ (1 < k → yesT.isPrefixOf l = false) ∧ (2 < k → noT.isPrefixOf l = false)
theorem pfx_len {u l : List UInt8} (h : u.isPrefixOf l = true) : u.length ≤ l.length := by
  obtain ⟨t, rfl⟩ := List.isPrefixOf_iff_prefix.1 h
  simp
def wordCells : Array Value := #[.string ⟨#[110, 117, 108, 108]⟩, .int .u8 0, .bool false, .bool false, .string ⟨#[]⟩, .string ⟨#[]⟩, .slice none 0 0, .string ⟨#[121, 101, 115]⟩, .int .u8 1, .bool true, .bool false, .string ⟨#[]⟩, .string ⟨#[]⟩, .slice none 0 0,
  .string ⟨#[110, 111]⟩, .int .u8 1, .bool false, .bool false, .string ⟨#[]⟩, .string ⟨#[]⟩, .slice none 0 0]
/-- What the byte that comes must not be. -/
structure NoHead (x d : Int) : Prop where
  n45 : (x == 45) = false
  dig : decide ((48 : Int) ≤ x) = false ∨ (decide ((48 : Int) ≤ x) = true ∧ decide (x ≤ 57) = false)
  n120 : (x == 120) = false
  n35 : (x == 35) = false
  n39 : (x == 39) = false
  n34 : (x == 34) = false
  n40 : (x == 40) = false ∨ ((x == 40) = true ∧ decide (d < 16) = false)

set_option maxRecDepth 100000 in
set_option maxHeartbeats 8000000 in
theorem rpart_word (d : Int) (b : Nat) (s : ByteArray) (a : Nat) (w : World) (hr : Lr w b s a) (ha : a ≤ s.size) (hs : s.size ≤ 65536) (hn : NoHead (nx s a : Int) d) :
    Calls Tryd.prog 80 #[.pointer (some ⟨b, 0, none⟩), .int .i64 d] w (PPost b s (wordF (s.toList.drop a)) w) := by
  have hbl : b < w.heap.size := Blk.lt hr
  have HD := Lib.hid (len_drop s ha)
  obtain ⟨x, hx⟩ : ∃ x : Int, (nx s a : Int) = x := ⟨_, rfl⟩
  have HX := Lib.hid hx
  rw [hx] at hn
  clear hx
  obtain ⟨q1, q2, q3, q4, q5, q6, q7⟩ := hn
  rcases q2 with q2 | ⟨q2, q2'⟩
  all_goals
    rcases q7 with q7 | ⟨q7, q7'⟩
  all_goals
    go_enter Tryd.func80, Tryd.ntmps80
    have c1 := (hr.alloc (.cells #[.int .u8 0, .bool false, .bool false, .string ⟨#[]⟩, .string ⟨#[]⟩, .slice none 0 0] 27)).c1
    go_wp2_with fail
    refine (next_any b s a _ (hr.alloc _) ha hs).mono ?_
    rintro e w1 ⟨rfl, hb1⟩
    rw [HX.out]
    have hE := (e27_new w).later hb1
    have hr1 := (hr.alloc _).later hb1
    have hg1 := ((Gv.refl b w).alloc (.cells #[.int .u8 0, .bool false, .bool false, .string ⟨#[]⟩, .string ⟨#[]⟩, .slice none 0 0] 27)).trans (Gv.of_below (b := b) hb1)
    clear hr hb1 c1
    go_wp2_with fail
    have hG := Blk.new w1 177 wordCells
    unfold wordCells at hG
    have hE2 : Empty27 (w1.alloc (.cells wordCells 177)) w.heap.size := hE.later ((Below.refl _ _).alloc (Nat.le_refl _) _)
    have hr2 := hr1.alloc (.cells wordCells 177)
    have hg2 := hg1.alloc (.cells wordCells 177)
    have hs1 : w.heap.size < w1.heap.size := Blk.lt hE
    unfold wordCells at hE2 hr2 hg2
    obtain ⟨W2, hW2⟩ : ∃ W2, W2 = w1.alloc (.cells #[.string ⟨#[110, 117, 108, 108]⟩, .int .u8 0, .bool false, .bool false, .string ⟨#[]⟩, .string ⟨#[]⟩, .slice none 0 0, .string ⟨#[121, 101, 115]⟩, .int .u8 1, .bool true, .bool false, .string ⟨#[]⟩, .string ⟨#[]⟩, .slice none 0 0,
      .string ⟨#[110, 111]⟩, .int .u8 1, .bool false, .bool false, .string ⟨#[]⟩, .string ⟨#[]⟩, .slice none 0 0] 177) := ⟨_, rfl⟩
    rw [← hW2] at hG hE2 hr2 hg2 ⊢
    clear hW2 hE hr1 hg1
    obtain ⟨G, hGe⟩ : ∃ G, w1.heap.size = G := ⟨_, rfl⟩
    rw [hGe] at hG hs1 ⊢
    clear hGe
    go_loopw [109] (fun i wr => ∃ k : Nat, k ≤ 3 ∧ i = .int .i64 k ∧ RowKit.Hid (Pfx k (s.toList.drop a)) ∧ Lr wr b s a ∧ Empty27 wr w.heap.size ∧ Blk wr G 177 wordCells ∧ Gv b w wr) (fun i _ => 3 - (intOf i).toNat)
    case atStart => exact ⟨0, by omega, rfl, Lib.hid ⟨fun h => by omega, fun h => by omega, fun h => by omega⟩, hr2, hE2, hG, hg2⟩
    case round =>
      clear hG hE2 hr2 hg2
      obtain ⟨k, hk, rfl, HP, hr, hE, hG, hg⟩ := hrel
      have c0 := hr.c0
      have c1 := hr.c1
      have z1 := hr.z1
      have hbw : b < wr.heap.size := Blk.lt hr
      have hGw : G < wr.heap.size := Blk.lt hG
      have hEw : w.heap.size < wr.heap.size := Blk.lt hE
      rcases (show k = 0 ∨ k = 1 ∨ k = 2 ∨ k = 3 by omega) with rfl | rfl | rfl | rfl
      · have g0 : wr.cell? ⟨G, 0, none⟩ = _ := hG.cell 0
        have g1 : wr.cell? ⟨G, 1, none⟩ = _ := hG.cell 1
        have g2 : wr.cell? ⟨G, 2, none⟩ = _ := hG.cell 2
        have g3 : wr.cell? ⟨G, 3, none⟩ = _ := hG.cell 3
        have g4 : wr.cell? ⟨G, 4, none⟩ = _ := hG.cell 4
        have g5 : wr.cell? ⟨G, 5, none⟩ = _ := hG.cell 5
        have g6 : wr.cell? ⟨G, 6, none⟩ = _ := hG.cell 6
        simp [wordCells] at g0 g1 g2 g3 g4 g5 g6
        cases hp : nullT.isPrefixOf (s.toList.drop a) with
        | false =>
          have HPF := Lib.hid hp
          have HP2 := Lib.hid (show Pfx 1 (s.toList.drop a) from ⟨fun _ => HPF.out, fun h => by omega, fun h => by omega⟩)
          clear hp
          go_wp2_with (go_quiet (exact Calls.quiet_of_same (prefix_c s a nullS false (by rw [nullS_text]; exact HPF.out) ha _)))
          refine ⟨⟨1, by omega, rfl, HP2, (hr.alloc _).drewN _, hE.later (((Below.refl _ _).alloc (Nat.le_refl _) _).trans (below_drewN _ _ _)), Blk.below hG (((Below.refl _ _).alloc (Nat.le_refl _) _).trans (below_drewN _ _ _)) hGw, (hg.alloc _).drewN _⟩, by simp [intOf]⟩
        | true =>
          have HPF := Lib.hid hp
          have hpl := pfx_len hp
          rw [List.length_drop, size_of] at hpl
          have hpl2 : 4 ≤ s.size - a := hpl
          have HN := Lib.hid (show wordF (s.toList.drop a) = .ok (mkP 0 false []) (s.toList.drop (a + 4)) by unfold wordF; rw [if_pos hp, List.drop_drop])
          clear hp hpl
          go_wp2_with (go_quiet (exact Calls.quiet_of_same (prefix_c s a nullS true (by rw [nullS_text]; exact HPF.out) ha _)))
          go_region
          all_goals
            obtain ⟨w5, hw5⟩ : ∃ w5, w5 = (((wr.alloc (.cells #[.string ⟨#[110, 117, 108, 108]⟩, .int .u8 0, .bool false, .bool false, .string ⟨#[]⟩, .string ⟨#[]⟩, .slice none 0 0] 177)).drewN (nq + 1)).setCell ⟨b, 1, none⟩ (.int .i64 ((a : Int) + 4))) := ⟨_, rfl⟩
            have hr5 : Lr w5 b s (a + 4) := by rw [hw5]; exact Lr.setTo ((hr.alloc _).drewN _) (by omega)
            have hE5 : Empty27 w5 w.heap.size := by rw [hw5]; exact Empty27.set (hE.later (((Below.refl _ _).alloc (Nat.le_refl _) _).trans (below_drewN _ _ _))) (by omega)
            have hg5 : Gv b w w5 := by rw [hw5]; exact ((hg.alloc _).drewN _).set_ 1 _
            have hB5 : Blk w5 wr.heap.size 177 #[.string ⟨#[110, 117, 108, 108]⟩, .int .u8 0, .bool false, .bool false, .string ⟨#[]⟩, .string ⟨#[]⟩, .slice none 0 0] := by rw [hw5]; exact (Below.heap_setCell _ _ _ _ (show wr.heap.size ≠ b by omega)).trans (Blk.new wr 177 _)
            have hne5 : wr.heap.size ≠ w.heap.size := by omega
            rw [← hw5]
            clear hw5 hr hE hg c0 c1 z1 g0 g1 g2 g3 g4 g5 g6
            have v1 : w5.cell? ⟨wr.heap.size, 1, none⟩ = _ := hB5.cell 1
            have v2 : w5.cell? ⟨wr.heap.size, 2, none⟩ = _ := hB5.cell 2
            have v3 : w5.cell? ⟨wr.heap.size, 3, none⟩ = _ := hB5.cell 3
            have v4 : w5.cell? ⟨wr.heap.size, 4, none⟩ = _ := hB5.cell 4
            have v5 : w5.cell? ⟨wr.heap.size, 5, none⟩ = _ := hB5.cell 5
            have v6 : w5.cell? ⟨wr.heap.size, 6, none⟩ = _ := hB5.cell 6
            simp at v1 v2 v3 v4 v5 v6
            obtain ⟨c0, c1, c2, c3, c4, c5, z0, z1, z2, z3, z4, z5, hlt⟩ := hE5.cells
            go_wp2_with fail
            exact bodyPost_ret (v := .agg #[.int .u8 0, .bool false, .bool false, .string ⟨#[]⟩, .string ⟨#[]⟩, .slice none 0 0]) (by simp [results, Tryd.results80, go_sem, c0, c1, c2, c3, c4, c5]) rfl
              (ppost_flat HN.out rfl (six_gv hg5 (Nat.le_refl _) _ _ _ _ _ _) (by omega) rfl (six_lr hr5 (by omega) _ _ _ _ _ _))
      · have g0 : wr.cell? ⟨G, 7, none⟩ = _ := hG.cell 7
        have g1 : wr.cell? ⟨G, 8, none⟩ = _ := hG.cell 8
        have g2 : wr.cell? ⟨G, 9, none⟩ = _ := hG.cell 9
        have g3 : wr.cell? ⟨G, 10, none⟩ = _ := hG.cell 10
        have g4 : wr.cell? ⟨G, 11, none⟩ = _ := hG.cell 11
        have g5 : wr.cell? ⟨G, 12, none⟩ = _ := hG.cell 12
        have g6 : wr.cell? ⟨G, 13, none⟩ = _ := hG.cell 13
        simp [wordCells] at g0 g1 g2 g3 g4 g5 g6
        cases hp : yesT.isPrefixOf (s.toList.drop a) with
        | false =>
          have HPF := Lib.hid hp
          have HP2 := Lib.hid (show Pfx 2 (s.toList.drop a) from ⟨fun _ => HP.out.1 (by decide), fun _ => HPF.out, fun h => by omega⟩)
          clear hp
          go_wp2_with (go_quiet (exact Calls.quiet_of_same (prefix_c s a yesS false (by rw [yesS_text]; exact HPF.out) ha _)))
          refine ⟨⟨2, by omega, rfl, HP2, (hr.alloc _).drewN _, hE.later (((Below.refl _ _).alloc (Nat.le_refl _) _).trans (below_drewN _ _ _)), Blk.below hG (((Below.refl _ _).alloc (Nat.le_refl _) _).trans (below_drewN _ _ _)) hGw, (hg.alloc _).drewN _⟩, by simp [intOf]⟩
        | true =>
          have HPF := Lib.hid hp
          have hpl := pfx_len hp
          rw [List.length_drop, size_of] at hpl
          have hpl2 : 3 ≤ s.size - a := hpl
          have HN := Lib.hid (show wordF (s.toList.drop a) = .ok (mkP 1 true []) (s.toList.drop (a + 3)) by unfold wordF; rw [if_neg (by rw [HP.out.1 (by decide)]; decide), if_pos hp, List.drop_drop])
          clear hp hpl
          go_wp2_with (go_quiet (exact Calls.quiet_of_same (prefix_c s a yesS true (by rw [yesS_text]; exact HPF.out) ha _)))
          go_region
          all_goals
            obtain ⟨w5, hw5⟩ : ∃ w5, w5 = (((wr.alloc (.cells #[.string ⟨#[121, 101, 115]⟩, .int .u8 1, .bool true, .bool false, .string ⟨#[]⟩, .string ⟨#[]⟩, .slice none 0 0] 177)).drewN (nq + 1)).setCell ⟨b, 1, none⟩ (.int .i64 ((a : Int) + 3))) := ⟨_, rfl⟩
            have hr5 : Lr w5 b s (a + 3) := by rw [hw5]; exact Lr.setTo ((hr.alloc _).drewN _) (by omega)
            have hE5 : Empty27 w5 w.heap.size := by rw [hw5]; exact Empty27.set (hE.later (((Below.refl _ _).alloc (Nat.le_refl _) _).trans (below_drewN _ _ _))) (by omega)
            have hg5 : Gv b w w5 := by rw [hw5]; exact ((hg.alloc _).drewN _).set_ 1 _
            have hB5 : Blk w5 wr.heap.size 177 #[.string ⟨#[121, 101, 115]⟩, .int .u8 1, .bool true, .bool false, .string ⟨#[]⟩, .string ⟨#[]⟩, .slice none 0 0] := by rw [hw5]; exact (Below.heap_setCell _ _ _ _ (show wr.heap.size ≠ b by omega)).trans (Blk.new wr 177 _)
            have hne5 : wr.heap.size ≠ w.heap.size := by omega
            rw [← hw5]
            clear hw5 hr hE hg c0 c1 z1 g0 g1 g2 g3 g4 g5 g6
            have v1 : w5.cell? ⟨wr.heap.size, 1, none⟩ = _ := hB5.cell 1
            have v2 : w5.cell? ⟨wr.heap.size, 2, none⟩ = _ := hB5.cell 2
            have v3 : w5.cell? ⟨wr.heap.size, 3, none⟩ = _ := hB5.cell 3
            have v4 : w5.cell? ⟨wr.heap.size, 4, none⟩ = _ := hB5.cell 4
            have v5 : w5.cell? ⟨wr.heap.size, 5, none⟩ = _ := hB5.cell 5
            have v6 : w5.cell? ⟨wr.heap.size, 6, none⟩ = _ := hB5.cell 6
            simp at v1 v2 v3 v4 v5 v6
            obtain ⟨c0, c1, c2, c3, c4, c5, z0, z1, z2, z3, z4, z5, hlt⟩ := hE5.cells
            go_wp2_with fail
            exact bodyPost_ret (v := .agg #[.int .u8 1, .bool true, .bool false, .string ⟨#[]⟩, .string ⟨#[]⟩, .slice none 0 0]) (by simp [results, Tryd.results80, go_sem, c0, c1, c2, c3, c4, c5]) rfl
              (ppost_flat HN.out rfl (six_gv hg5 (Nat.le_refl _) _ _ _ _ _ _) (by omega) rfl (six_lr hr5 (by omega) _ _ _ _ _ _))
      · have g0 : wr.cell? ⟨G, 14, none⟩ = _ := hG.cell 14
        have g1 : wr.cell? ⟨G, 15, none⟩ = _ := hG.cell 15
        have g2 : wr.cell? ⟨G, 16, none⟩ = _ := hG.cell 16
        have g3 : wr.cell? ⟨G, 17, none⟩ = _ := hG.cell 17
        have g4 : wr.cell? ⟨G, 18, none⟩ = _ := hG.cell 18
        have g5 : wr.cell? ⟨G, 19, none⟩ = _ := hG.cell 19
        have g6 : wr.cell? ⟨G, 20, none⟩ = _ := hG.cell 20
        simp [wordCells] at g0 g1 g2 g3 g4 g5 g6
        cases hp : noT.isPrefixOf (s.toList.drop a) with
        | false =>
          have HPF := Lib.hid hp
          have HP2 := Lib.hid (show Pfx 3 (s.toList.drop a) from ⟨fun _ => HP.out.1 (by decide), fun _ => HP.out.2.1 (by decide), fun _ => HPF.out⟩)
          clear hp
          go_wp2_with (go_quiet (exact Calls.quiet_of_same (prefix_c s a noS false (by rw [noS_text]; exact HPF.out) ha _)))
          refine ⟨⟨3, by omega, rfl, HP2, (hr.alloc _).drewN _, hE.later (((Below.refl _ _).alloc (Nat.le_refl _) _).trans (below_drewN _ _ _)), Blk.below hG (((Below.refl _ _).alloc (Nat.le_refl _) _).trans (below_drewN _ _ _)) hGw, (hg.alloc _).drewN _⟩, by simp [intOf]⟩
        | true =>
          have HPF := Lib.hid hp
          have hpl := pfx_len hp
          rw [List.length_drop, size_of] at hpl
          have hpl2 : 2 ≤ s.size - a := hpl
          have HN := Lib.hid (show wordF (s.toList.drop a) = .ok (mkP 1 false []) (s.toList.drop (a + 2)) by unfold wordF; rw [if_neg (by rw [HP.out.1 (by decide)]; decide), if_neg (by rw [HP.out.2.1 (by decide)]; decide), if_pos hp, List.drop_drop])
          clear hp hpl
          go_wp2_with (go_quiet (exact Calls.quiet_of_same (prefix_c s a noS true (by rw [noS_text]; exact HPF.out) ha _)))
          go_region
          all_goals
            obtain ⟨w5, hw5⟩ : ∃ w5, w5 = (((wr.alloc (.cells #[.string ⟨#[110, 111]⟩, .int .u8 1, .bool false, .bool false, .string ⟨#[]⟩, .string ⟨#[]⟩, .slice none 0 0] 177)).drewN (nq + 1)).setCell ⟨b, 1, none⟩ (.int .i64 ((a : Int) + 2))) := ⟨_, rfl⟩
            have hr5 : Lr w5 b s (a + 2) := by rw [hw5]; exact Lr.setTo ((hr.alloc _).drewN _) (by omega)
            have hE5 : Empty27 w5 w.heap.size := by rw [hw5]; exact Empty27.set (hE.later (((Below.refl _ _).alloc (Nat.le_refl _) _).trans (below_drewN _ _ _))) (by omega)
            have hg5 : Gv b w w5 := by rw [hw5]; exact ((hg.alloc _).drewN _).set_ 1 _
            have hB5 : Blk w5 wr.heap.size 177 #[.string ⟨#[110, 111]⟩, .int .u8 1, .bool false, .bool false, .string ⟨#[]⟩, .string ⟨#[]⟩, .slice none 0 0] := by rw [hw5]; exact (Below.heap_setCell _ _ _ _ (show wr.heap.size ≠ b by omega)).trans (Blk.new wr 177 _)
            have hne5 : wr.heap.size ≠ w.heap.size := by omega
            rw [← hw5]
            clear hw5 hr hE hg c0 c1 z1 g0 g1 g2 g3 g4 g5 g6
            have v1 : w5.cell? ⟨wr.heap.size, 1, none⟩ = _ := hB5.cell 1
            have v2 : w5.cell? ⟨wr.heap.size, 2, none⟩ = _ := hB5.cell 2
            have v3 : w5.cell? ⟨wr.heap.size, 3, none⟩ = _ := hB5.cell 3
            have v4 : w5.cell? ⟨wr.heap.size, 4, none⟩ = _ := hB5.cell 4
            have v5 : w5.cell? ⟨wr.heap.size, 5, none⟩ = _ := hB5.cell 5
            have v6 : w5.cell? ⟨wr.heap.size, 6, none⟩ = _ := hB5.cell 6
            simp at v1 v2 v3 v4 v5 v6
            obtain ⟨c0, c1, c2, c3, c4, c5, z0, z1, z2, z3, z4, z5, hlt⟩ := hE5.cells
            go_wp2_with fail
            exact bodyPost_ret (v := .agg #[.int .u8 1, .bool false, .bool false, .string ⟨#[]⟩, .string ⟨#[]⟩, .slice none 0 0]) (by simp [results, Tryd.results80, go_sem, c0, c1, c2, c3, c4, c5]) rfl
              (ppost_flat HN.out rfl (six_gv hg5 (Nat.le_refl _) _ _ _ _ _ _) (by omega) rfl (six_lr hr5 (by omega) _ _ _ _ _ _))
      · have HN := Lib.hid (show wordF (s.toList.drop a) = .bad (s.toList.drop a).length by unfold wordF; rw [if_neg (by rw [HP.out.1 (by decide)]; decide), if_neg (by rw [HP.out.2.1 (by decide)]; decide), if_neg (by rw [HP.out.2.2 (by decide)]; decide)])
        go_wp2_with fail
        exact ⟨rfl, ppost_bad HN.out hg HD.out⟩
end Go.Proofs.YtcgphlilijeifaaDoor.L
end
section
/-
  The reader of a text: a part that is a tuple.
-/
namespace Go.Proofs.YtcgphlilijeifaaDoor.L
open Go.RowKit
open V (Pt)

set_option maxRecDepth 100000 in
set_option maxHeartbeats 4000000 in
theorem rpart_open (d : Int) (hd0 : 0 ≤ d) (hd : d < 16) (R : Res Pt) (b : Nat) (s : ByteArray) (a : Nat) (w : World) (hr : Lr w b s a) (ha : a < s.size) (hs : s.size ≤ 65536) (hc : s[a] = 40)
    (H : ∀ w : World, Lr w b s a → Calls Tryd.prog 111 #[.pointer (some ⟨b, 0, none⟩), .int .i64 (d + 1)] w (PPost b s R w)) :
    Calls Tryd.prog 80 #[.pointer (some ⟨b, 0, none⟩), .int .i64 d] w (PPost b s R w) := by
  have HC := Lib.hid hc
  have HH := Lib.hid H
  have hbl : b < w.heap.size := Blk.lt hr
  have q1 : decide (d < 16) = true := by simpa using hd
  clear hc H
  go_enter Tryd.func80, Tryd.ntmps80
  have c1 := (hr.alloc (.cells #[.int .u8 0, .bool false, .bool false, .string ⟨#[]⟩, .string ⟨#[]⟩, .slice none 0 0] 27)).c1
  go_wp2_with fail
  refine (next_at b s a _ (hr.alloc _) ha hs 40 HC.out).mono ?_
  rintro e w1 ⟨rfl, hb1⟩
  have hE := (e27_new w).later hb1
  have hr1 := (hr.alloc _).later hb1
  have hg1 := ((Gv.refl b w).alloc (.cells #[.int .u8 0, .bool false, .bool false, .string ⟨#[]⟩, .string ⟨#[]⟩, .slice none 0 0] 27)).trans (Gv.of_below (b := b) hb1)
  have hs1 : w.heap.size < w1.heap.size := Blk.lt hE
  clear hr hb1 c1
  go_wp2_with fail
  refine (HH.out _ hr1).mono ?_
  rintro e w3 ⟨hg3, ⟨n, hn, he⟩ | ⟨p, r, v, k, hR, rfl, hO, hk, hrk, hr3⟩⟩
  · unfold wrongAt at he
    subst he
    exact ⟨rfl, hg1.trans hg3, .inl ⟨n, hn, rfl⟩⟩
  · have hE3 := hE.gv (by omega) hg3
    have hg := hg1.trans hg3
    obtain ⟨ad, cap, rfl⟩ := hO.form
    have HR := Lib.hid hR
    have HK := Lib.hid hrk
    have HO := Lib.hid hO
    clear hE hg1 hg3 hr1 hR hrk hO
    obtain ⟨c0, c1, c2, c3, c4, c5, z0, z1, z2, z3, z4, z5, hlt⟩ := hE3.cells
    go_wp2_with fail
    refine bodyPost_ret (v := .agg #[.int .u8 p.kind, .bool p.yes, .bool p.neg, .string p.mag, .string p.raw, .slice ad p.items.length cap]) (by simp [results, Tryd.results80, go_sem, c0, c1, c2, c3, c4, c5]) rfl
      ⟨six_gv hg (Nat.le_refl _) _ _ _ _ _ _, .inr ⟨p, r, _, k, HR.out, rfl, ?_, hk, HK.out, six_lr hr3 (by omega) _ _ _ _ _ _⟩⟩
    refine (HO.out.same ?_).wide (Nat.le_of_lt hs1) (by simp [World.setCell])
    exact (((((V.Same.setCell (by omega)).trans (V.Same.setCell (by omega))).trans (V.Same.setCell (by omega))).trans (V.Same.setCell (by omega))).trans (V.Same.setCell (by omega))).trans (V.Same.setCell (by omega))
end Go.Proofs.YtcgphlilijeifaaDoor.L
end
section
/-
  The reader of a text: a tuple.
-/
namespace Go.Proofs.YtcgphlilijeifaaDoor.L
open Go.RowKit
open V (Pt)

/-- The tuple that is being made: its place. -/
def Tp (w : World) (T : Nat) (s : Value) : Prop := Blk w T 27 #[.int .u8 7, .bool false, .bool false, .string ⟨#[]⟩, .string ⟨#[]⟩, s]
theorem Tp.cells {w : World} {T : Nat} {s : Value} (h : Tp w T s) : w.cell? ⟨T, 0, none⟩ = some (.int .u8 7) ∧ w.cell? ⟨T, 1, none⟩ = some (.bool false) ∧ w.cell? ⟨T, 2, none⟩ = some (.bool false) ∧ w.cell? ⟨T, 3, none⟩ = some (.string ⟨#[]⟩) ∧ w.cell? ⟨T, 4, none⟩ = some (.string ⟨#[]⟩) ∧
    w.cell? ⟨T, 5, none⟩ = some s ∧ w.frozen? ⟨T, 5, none⟩ = false ∧ T < w.heap.size := ⟨Blk.cell h 0, Blk.cell h 1, Blk.cell h 2, Blk.cell h 3, Blk.cell h 4, Blk.cell h 5, Blk.frozen h 5, Blk.lt h⟩
theorem Tp.set {w : World} {T : Nat} {s : Value} (h : Tp w T s) (u : Value) : Tp (w.setCell ⟨T, 5, none⟩ u) T u := Blk.set_ h 5 u
theorem Tp.later {w w' : World} {T : Nat} {s : Value} (h : Tp w T s) (hb : Below w.heap.size w w') : Tp w' T s := Blk.below h hb (Blk.lt h)
theorem Tp.gv {w w' : World} {T b : Nat} {s : Value} (h : Tp w T s) (hne : T ≠ b) (hb : Gv b w w') : Tp w' T s := hb.blk hne h
theorem Tp.other {w : World} {T b i : Nat} {s v : Value} (h : Tp w T s) (hne : T ≠ b) : Tp (w.setCell ⟨b, i, none⟩ v) T s := (Below.heap_setCell _ _ _ _ hne).trans h

/-- A part that is read. -/
theorem calls_ok {b : Nat} {s : ByteArray} {R : Res Pt} {d : Int} {w : World} {p : Pt} {r : List UInt8} (h : Calls Tryd.prog 80 #[.pointer (some ⟨b, 0, none⟩), .int .i64 d] w (PPost b s R w)) (hR : R = .ok p r) :
    Calls Tryd.prog 80 #[.pointer (some ⟨b, 0, none⟩), .int .i64 d] w fun e w' => Gv b w w' ∧ ∃ a cap k, e = .returned (.agg #[.int .u8 p.kind, .bool p.yes, .bool p.neg, .string p.mag, .string p.raw, .slice a p.items.length cap]) ∧ V.OwnI w' false w.heap.size w'.heap.size p.items (.slice a p.items.length cap) ∧ k ≤ s.size ∧ r = s.toList.drop k ∧ Lr w' b s k := by
  refine h.mono ?_
  rintro e w' ⟨hg, ⟨n, hn, _⟩ | ⟨q, t, v, k, hq, rfl, hO, hk, ht, hL⟩⟩
  · rw [hR] at hn; cases hn
  · rw [hR] at hq
    cases hq
    obtain ⟨a, cap, rfl⟩ := hO.form
    exact ⟨hg, a, cap, k, rfl, hO, hk, ht, hL⟩
theorem calls_bad {b : Nat} {s : ByteArray} {R : Res Pt} {d : Int} {w : World} {n : Nat} (h : Calls Tryd.prog 80 #[.pointer (some ⟨b, 0, none⟩), .int .i64 d] w (PPost b s R w)) (hR : R = .bad n) :
    Calls Tryd.prog 80 #[.pointer (some ⟨b, 0, none⟩), .int .i64 d] w fun e w' => Gv b w w' ∧ e = wrongAt ((s.size - n : Nat) : Int) := by
  refine h.mono ?_
  rintro e w' ⟨hg, ⟨m, hn, rfl⟩ | ⟨q, t, v, k, hq, _⟩⟩
  · rw [hR] at hn; cases hn; exact ⟨hg, rfl⟩
  · rw [hR] at hq; cases hq

/-- A block that stays where a list of the call's own grows. -/
theorem blk_grown {w2 w3 : World} {ob : Obj} {B T k : Nat} {t : TypeId} {cs : Array Value} {v : Value} {us : List Value} (h : Blk w2 B t cs) (hB : B < T) (hO : w2.ownsRow T 27 6 v k us) (hg : (w2.alloc ob).grownBy w3 v.ownBlock) : Blk w3 B t cs :=
  (hg.block B (by have := Blk.lt h; simp; omega) (fun e => by have := (World.ownsRow.lt hO B e.symm).1; omega)).trans ((Below.heap_alloc w2 ob B (Blk.lt h)).trans h)
theorem part_on {m p k : Nat} {s : ByteArray} {q : Pt} {r : List UInt8} (h : partF m (s.toList.drop p) = .ok q r) (hp : p ≤ s.size) (hk : k ≤ s.size) (hr : r = s.toList.drop k) : p ≤ k ∧ (s.size ≤ 65536 → V.mayB q = true) := by
  obtain ⟨h1, _, h3⟩ := part_back m _ _ _ h
  have hl := congrArg List.length h1
  rw [List.length_append, hr, List.length_drop, List.length_drop, size_of] at hl
  exact ⟨by omega, fun hs => h3 (by rw [List.length_drop, size_of]; omega)⟩
theorem map_snoc {ps : List (Pt × Value)} {q : Pt} {v : Value} : (ps ++ [(q, v)]).map Prod.fst = ps.map Prod.fst ++ [q] := by simp

set_option maxRecDepth 100000 in
set_option maxHeartbeats 8000000 in
theorem rtuple_any (m : Nat) (d : Int) (s : ByteArray) (hs : s.size ≤ 65536)
    (ih : ∀ (b a : Nat) (w : World), Lr w b s a → a ≤ s.size → Calls Tryd.prog 80 #[.pointer (some ⟨b, 0, none⟩), .int .i64 d] w (PPost b s (partF m (s.toList.drop a)) w))
    (b a : Nat) (w : World) (hr : Lr w b s a) (ha : a < s.size) :
    Calls Tryd.prog 111 #[.pointer (some ⟨b, 0, none⟩), .int .i64 d] w (PPost b s (openF (partF m) (s.toList.drop (a + 1))) w) := by
  have IH := Lib.hid ih
  have hbl : b < w.heap.size := Blk.lt hr
  clear ih
  have hr0 := (hr.alloc (.cells #[.int .u8 0, .bool false, .bool false, .string ⟨#[]⟩, .string ⟨#[]⟩, .slice none 0 0] 27)).alloc (.cells #[.int .u8 7, .bool false, .bool false, .string ⟨#[]⟩, .string ⟨#[]⟩, .slice none 0 0] 27)
  have c1 := hr0.c1
  have z1 := hr0.z1
  go_enter Tryd.func111, Tryd.ntmps111
  go_wp2_with fail
  clear c1 z1 hr0
  obtain ⟨W0, hW0⟩ : ∃ W0, W0 = ((w.setCell ⟨b, 1, none⟩ (.int .i64 ((a : Int) + 1))).alloc (.cells #[.int .u8 0, .bool false, .bool false, .string ⟨#[]⟩, .string ⟨#[]⟩, .slice none 0 0] 27)).alloc (.cells #[.int .u8 7, .bool false, .bool false, .string ⟨#[]⟩, .string ⟨#[]⟩, .slice none 0 0] 27) := ⟨_, rfl⟩
  obtain ⟨T, hT⟩ : ∃ T, w.heap.size + 1 = T := ⟨_, rfl⟩
  have hr1 : Lr W0 b s (a + 1) := by rw [hW0]; exact ((Lr.setTo hr (by omega)).alloc _).alloc _
  have hg1 : Gv b w W0 := by rw [hW0]; exact (((Gv.refl b w).set_ 1 _).alloc _).alloc _
  have hE1 : Empty27 W0 w.heap.size := by
    have h := (e27_new (w.setCell ⟨b, 1, none⟩ (.int .i64 ((a : Int) + 1)))).later ((Below.refl _ _).alloc (Nat.le_refl _) (.cells #[.int .u8 7, .bool false, .bool false, .string ⟨#[]⟩, .string ⟨#[]⟩, .slice none 0 0] 27))
    rw [hW0]
    simpa [World.setCell] using h
  have hT1 : Tp W0 T (.slice none 0 0) := by
    have h := Blk.new ((w.setCell ⟨b, 1, none⟩ (.int .i64 ((a : Int) + 1))).alloc (.cells #[.int .u8 0, .bool false, .bool false, .string ⟨#[]⟩, .string ⟨#[]⟩, .slice none 0 0] 27)) 27 #[.int .u8 7, .bool false, .bool false, .string ⟨#[]⟩, .string ⟨#[]⟩, .slice none 0 0]
    rw [hW0, ← hT]
    simpa [World.setCell, Tp] using h
  have hs0 : T + 1 ≤ W0.heap.size := Blk.lt hT1
  rw [← hW0, hT]
  clear hW0 hr
  have n1 : b ≠ w.heap.size := by omega
  have n2 : b ≠ T := by omega
  have n3 : w.heap.size ≠ T := by omega
  have n4 : T ≠ w.heap.size := by omega
  have n5 : T ≠ b := by omega
  have n6 : w.heap.size ≠ b := by omega
  by_cases h41 : (s.toList.drop (a + 1)).head? = some 41
  · have hlt : a + 1 < s.size := by
      by_cases h : a + 1 < s.size
      · exact h
      · rw [drop_end s h] at h41; cases h41
    obtain ⟨a1, ha1⟩ : ∃ a1, a + 1 = a1 := ⟨_, rfl⟩
    rw [ha1] at hlt h41 hr1
    have hc : s[a1] = 41 := by rw [drop_cons s hlt] at h41; simpa using h41
    have HR := Lib.hid (show openF (partF m) (s.toList.drop (a + 1)) = .ok (.mk 7 false false ⟨#[]⟩ ⟨#[]⟩ []) (s.toList.drop (a1 + 1)) by rw [ha1, drop2 hlt hc]; exact open_shut _ _)
    have HC := Lib.hid hc
    clear h41 hc
    refine (next_at b s a1 W0 hr1 hlt hs 41 HC.out).mono ?_
    rintro e w1 ⟨rfl, hb1⟩
    have hr2 := hr1.later hb1
    have hE2 := hE1.later hb1
    have hT2 := hT1.later hb1
    have hg2 := hg1.trans (Gv.of_below (b := b) hb1)
    clear hr1 hE1 hT1 hg1 hb1
    have c1 := hr2.c1
    have z1 := hr2.z1
    obtain ⟨t0, t1, t2, t3, t4, t5, tf, tl⟩ := hT2.cells
    obtain ⟨c0', c1', c2', c3', c4', c5', z0', z1', z2', z3', z4', z5', hlt'⟩ := hE2.cells
    have hr3 := Lr.setTo hr2 (a' := a1 + 1) (x := (a1 : Int) + 1) (by omega)
    have hg3 := hg2.set_ 1 (.int .i64 ((a1 : Int) + 1))
    go_wp2_with fail
    exact bodyPost_ret (v := .agg #[.int .u8 7, .bool false, .bool false, .string ⟨#[]⟩, .string ⟨#[]⟩, .slice none 0 0]) (by simp [results, Tryd.results111, go_sem, c0', c1', c2', c3', c4', c5', n1, n6]) rfl
      (ppost_flat HR.out rfl (six_gv hg3 (Nat.le_refl _) _ _ _ _ _ _) (by omega) rfl (six_lr hr3 (by omega) _ _ _ _ _ _))
  · have HH := Lib.hid h41
    clear h41
    have HX : RowKit.Hid ((((nx s (a + 1) : Nat) : Int) == 41) = false) := Lib.hid (by
      by_cases h : a + 1 < s.size
      · rw [nx_lt h]
        have := HH.out
        rw [drop_cons s h] at this
        exact u8_nat (d := 41) rfl (by simpa using this)
      · rw [nx_ge h]; decide)
    refine (next_any b s (a + 1) W0 hr1 (by omega) hs).mono ?_
    rintro e w1 ⟨rfl, hb1⟩
    have q1 := HX.out
    obtain ⟨x, hx⟩ : ∃ x : Int, ((nx s (a + 1) : Nat) : Int) = x := ⟨_, rfl⟩
    rw [hx] at q1 ⊢
    have hr2 := hr1.later hb1
    have hE2 := hE1.later hb1
    have hT2 := hT1.later hb1
    have hg2 := hg1.trans (Gv.of_below (b := b) hb1)
    have hs2 : T + 1 ≤ w1.heap.size := Blk.lt hT2
    clear hr1 hE1 hT1 hg1 hb1 HX hx
    go_wp2_with fail
    go_loopw [6] (fun _ wr => ∃ (k p : Nat) (sv : Value) (ps : List (Pt × Value)), p ≤ s.size ∧ k ≤ 1023 ∧ Lr wr b s p ∧ Gv b w wr ∧ Empty27 wr w.heap.size ∧ Tp wr T sv ∧ wr.ownsRow (T + 1) 27 6 sv k (V.flat ps) ∧
      RowKit.Hid (V.Kids wr (T + 1) sv.ownBlock ps ∧ IS (partF m) (s.toList.drop (a + 1)) (ps.map Prod.fst) (1023 - k) (s.toList.drop p) ∧ ps.length = k)) (fun _ wr => s.size - posOf wr b)
    case atStart => exact ⟨0, a + 1, .slice none 0 0, [], by omega, by omega, hr2, hg2, hE2, hT2, World.ownsRow_nil _ _ _ _, Lib.hid ⟨V.Kids.nil _ _ _, IS.start _ _, rfl⟩⟩
    case round =>
      clear hr2 hE2 hT2 hg2 hs2
      obtain ⟨k, p, sv, ps, hp, hk, hr, hg, hE, hTp, hO, HK⟩ := hrel
      have PR := Lib.hid (posOf_lr hr)
      have hsT : T + 1 ≤ wr.heap.size := Blk.lt hTp
      obtain ⟨R, hR⟩ : ∃ R, partF m (s.toList.drop p) = R := ⟨_, rfl⟩
      obtain ⟨t0, t1, t2, t3, t4, t5, tf, tl⟩ := hTp.cells
      cases R with
      | bad n =>
        have HB := Lib.hid (show ∀ w : World, Lr w b s p → Calls Tryd.prog 80 #[.pointer (some ⟨b, 0, none⟩), .int .i64 d] w fun e w' => Gv b w w' ∧ e = wrongAt ((s.size - n : Nat) : Int) from fun w h => calls_bad (IH.out b p w h hp) hR)
        have HN := Lib.hid (show openF (partF m) (s.toList.drop (a + 1)) = .bad n from open_bad HH.out (HK.out.2.1.bad hR))
        clear hR
        go_wp2_with fail
        refine wp_region_any (by kernel_rfl) ?_
        try (change wpAny _ _ _ _ _ _ _ (World.drew _))
        refine wpAny_take (i := 0) (v := ?v0) rfl (by kernel_rfl) (by kernel_rfl) (by kernel_rfl) (fun _ _ _ h => h) (Or.inl ⟨by rfl, ?hy0⟩) ?rest0
        case hy0 => (intro w; go_simp; try with_reducible rfl)
        refine wpAny_take (i := 2) (v := ?v2) rfl (by kernel_rfl) (by kernel_rfl) (by kernel_rfl) (fun _ _ _ h => h) (Or.inl ⟨by rfl, ?hy2⟩) ?rest2
        case hy2 => (intro w; go_simp; try with_reducible rfl)
        refine wpAny_take (i := 3) (v := ?v3) rfl (by kernel_rfl) (by kernel_rfl) (by kernel_rfl) (fun _ _ _ h => h) (Or.inl ⟨by rfl, ?hy3⟩) ?rest3
        case hy3 => (intro w; go_simp; try with_reducible rfl)
        refine wpAny_ready (rs := [1, 4]) (by kernel_rfl) (by simp) ?_
        refine AllReady.cons rfl (fun K hK => ?_) ?_
        · go_simp
          refine hK _ _ ?_
          clear hK K
          refine wpAny_ready (rs := [4]) (by kernel_rfl) (by simp) ?_
          refine AllReady.cons rfl (fun K hK => ?_) AllReady.nil
          go_simp
          refine (HB.out _ (by exact hr)).mono ?_
          rintro e w2 ⟨hg2, he⟩
          unfold wrongAt at he
          subst he
          exact ⟨rfl, hg.trans hg2.undrew, .inl ⟨n, HN.out, rfl⟩⟩
        · refine AllReady.cons rfl (fun K hK => ?_) AllReady.nil
          go_simp
          refine (HB.out _ (by exact hr)).mono ?_
          rintro e w2 ⟨hg2, he⟩
          unfold wrongAt at he
          subst he
          exact ⟨rfl, hg.trans hg2.undrew, .inl ⟨n, HN.out, rfl⟩⟩
      | ok q r =>
        have HB := Lib.hid (fun (w : World) (h : Lr w b s p) => calls_ok (IH.out b p w h hp) hR)
        have HRq := Lib.hid hR
        have hWa : T < T + 1 := Nat.lt_succ_self T
        clear hR
        go_wp2_with fail
        obtain ⟨i0, hi, hz0, hz1, hz2⟩ := info_parts V.infoP
        go_region_law (first
          | (go_simp; go_at_call 80; refine (HB.out _ (by exact hr)).mono ?_; rintro e w2 ⟨hg0, a2, cap2, p2, rfl, hx, hp2, hrr, hL2⟩; have hg2 := hg0.undrew; have hx2 := Lib.hid hx; have hL3 := Lib.hid hL2; have hp3 := Lib.hid (And.intro hp2 hrr); have hO2 := own_gv6 hO (by omega) hg2; have hT2 := hTp.gv n5 hg2; have s5 : w2.cell? ⟨T, 5, none⟩ = some sv := hT2.cell 5; have f5 : w2.frozen? ⟨T, 5, none⟩ = false := hT2.frozen 5; have hWm : T < w2.heap.size := Blk.lt hT2; clear hx hL2 hp2 hrr hg0)
          | (refine step_append_lies _ rfl (.tmp 27) (.tmp 31) 25 rfl (T + 1) 27 i0 _ 6 72 Tryd.underlying25 hi hz0 hz1 hz2 rfl (by decide) sv k (V.flat ps) (by simp [Act.eval, Act.put]) (hO2.alloc _) ⟨w2.heap.size, 0, none⟩ 1 1 (V.cellsOf q (.slice a2 q.items.length cap2)).toList (by simp [Act.eval, Act.put]) rfl (V.six_cells w2 _ _ rfl) (by intro y hy; simp [V.cellsOf] at hy; rcases hy with rfl | rfl | rfl | rfl | rfl | rfl <;> rfl) (by decide) (by unfold maxLen; omega) (by omega) (by simp; omega) _ rfl ?_; intro g cap3 w3 hO3 hg3 hlies hgl; have s3 := V.own_cell6 hO2 hg3 hWa s5; have f3 := V.own_frozen6 hO2 hg3 hWa hWm f5))
        all_goals
          have hpo := part_on HRq.out hp hp3.out.1 hp3.out.2
          have hfq := fit_may (hpo.2 hs)
          have hpp := hpo.1
          have hp2 := hp3.out.1
          have HRr := Lib.hid (HRq.out.trans (by rw [hp3.out.2]))
          clear hpo
          go_wp2_with fail
          have ST := kids_gstep (b := b) (c := 5) (w := w) (x := s) (a := p2) (T := T) _ hO HK.out.1 hx2.out hfq hg2 (by omega) hg3 hlies hO3 hsT (by omega) hg hL3.out (y := .slice (some ⟨g, 0, none⟩) (k + 1) cap3)
          have hE3 := blk_grown (T := T + 1) (hE.gv n6 hg2) (by omega) hO2 hg3
          have hT3 := blk_grown (T := T + 1) hT2 (by omega) hO2 hg3
          obtain ⟨W4, hW4⟩ : ∃ W4, W4 = w3.setCell ⟨T, 5, none⟩ (.slice (some ⟨g, 0, none⟩) (k + 1) cap3) := ⟨_, rfl⟩
          have hE4 : Empty27 W4 w.heap.size := by rw [hW4]; exact Empty27.set hE3 n3
          have hT4 : Tp W4 T (.slice (some ⟨g, 0, none⟩) (k + 1) cap3) := by rw [hW4]; exact Tp.set hT3 _
          rw [← hW4] at ST ⊢
          obtain ⟨hO4, hK4', hg4, hs4, hr4⟩ := ST
          have hK4 := Lib.hid hK4'
          have HI := Lib.hid HK.out.2.1
          have HL := Lib.hid HK.out.2.2
          clear hW4 hE3 hT3 hK4' hO3 hg3 hlies hgl s3 f3 s5 f5 hWm hT2 hO2 hL3 hx2 hg2 HK hO hr hg hE hTp t0 t1 t2 t3 t4 t5 tf tl hi hz0 hz1 hz2 hfq HRq hp3 hsT
          by_cases hlt : p2 < s.size
          · obtain ⟨c, hc⟩ : ∃ c, s[p2] = c := ⟨_, rfl⟩
            have HC := Lib.hid hc
            have HRc := Lib.hid (HRr.out.trans (by rw [drop2 hlt hc]))
            clear hc
            by_cases h1 : c = 41
            · subst h1
              have HN := Lib.hid (open_ok HH.out (HI.out.close HRc.out))
              clear HRr HRc
              refine (next_at b s p2 W4 hr4 hlt hs 41 HC.out).mono ?_
              rintro e w5 ⟨rfl, hb5⟩
              have hr5 := hr4.later hb5
              have hE5 := hE4.later hb5
              have hT5 := hT4.later hb5
              have hO5 := V.own_below6 hO4 hb5
              have hK5 := Lib.hid (hK4.out.below hb5)
              have hg5 := hg4.trans (Gv.of_below (b := b) hb5)
              clear hr4 hE4 hT4 hO4 hK4 hg4 hb5
              have c1 := hr5.c1
              have z1 := hr5.z1
              obtain ⟨t0, t1, t2, t3, t4, t5, tf, tl⟩ := hT5.cells
              obtain ⟨c0', c1', c2', c3', c4', c5', z0', z1', z2', z3', z4', z5', hlt'⟩ := hE5.cells
              have hr6 := Lr.setTo hr5 (a' := p2 + 1) (x := (p2 : Int) + 1) (by omega)
              have hg6 := hg5.set_ 1 (.int .i64 ((p2 : Int) + 1))
              have hlen : ((ps ++ [(q, Value.slice a2 q.items.length cap2)]).map Prod.fst).length = k + 1 := by simp [HL.out]
              have hown := Lib.hid (V.kids_own rfl (by rw [hlen]; exact hO5) hK5.out)
              clear hr5 hg5 hO5 hK5
              go_wp2_with fail
              refine bodyPost_ret (v := .agg #[.int .u8 7, .bool false, .bool false, .string ⟨#[]⟩, .string ⟨#[]⟩, .slice (some ⟨g, 0, none⟩) (k + 1) cap3]) (by simp [results, Tryd.results111, go_sem, c0', c1', c2', c3', c4', c5', n1, n6]) rfl
                ⟨six_gv hg6 (Nat.le_refl _) _ _ _ _ _ _, .inr ⟨.mk 7 false false ⟨#[]⟩ ⟨#[]⟩ (ps.map Prod.fst ++ [q]), s.toList.drop (p2 + 1), .slice (some ⟨g, 0, none⟩) (k + 1) cap3, p2 + 1, HN.out, rfl, ?_, by omega, rfl, six_lr hr6 n1 _ _ _ _ _ _⟩⟩
              have h := hown.out
              rw [map_snoc] at h
              exact (h.same (((((((V.Same.setCell (by omega)).trans (V.Same.setCell (by omega))).trans (V.Same.setCell (by omega))).trans (V.Same.setCell (by omega))).trans (V.Same.setCell (by omega))).trans (V.Same.setCell (by omega))).trans (V.Same.setCell (by omega)))).wide (by omega) (by simp [World.setCell])
            by_cases h2 : c = 32
            · subst h2
              have e1 : (((32 : UInt8).toNat : Int) == 41) = false := by decide
              have e2 : (((32 : UInt8).toNat : Int) != 32) = false := by decide
              by_cases hk2 : k < 1023
              · have e3 : ((k : Int) + 1 == 1024) = false := by simp; omega
                have HN := Lib.hid (show IS (partF m) (s.toList.drop (a + 1)) ((ps ++ [(q, Value.slice a2 q.items.length cap2)]).map Prod.fst) (1023 - (k + 1)) (s.toList.drop (p2 + 1)) by
                  have h := HI.out
                  rw [show 1023 - k = (1023 - (k + 1)) + 1 by omega] at h
                  rw [map_snoc]
                  exact h.next HRc.out)
                clear HRr HRc HI
                refine (next_at b s p2 W4 hr4 hlt hs 32 HC.out).mono ?_
                rintro e w5 ⟨rfl, hb5⟩
                have hr5 := hr4.later hb5
                have hE5 := hE4.later hb5
                have hT5 := hT4.later hb5
                have hO5 := V.own_below6 hO4 hb5
                have hK5 := Lib.hid (hK4.out.below hb5)
                have hg5 := hg4.trans (Gv.of_below (b := b) hb5)
                clear hr4 hE4 hT4 hO4 hK4 hg4 hb5
                have c1 := hr5.c1
                have z1 := hr5.z1
                obtain ⟨t0, t1, t2, t3, t4, t5, tf, tl⟩ := hT5.cells
                have hr6 := Lr.setTo hr5 (a' := p2 + 1) (x := (p2 : Int) + 1) (by omega)
                have hg6 := hg5.set_ 1 (.int .i64 ((p2 : Int) + 1))
                go_wp2_with (at_builtin; refine wpList_len rfl (.tmp 52) 25 rfl slice25 rfl ?_)
                refine ⟨⟨k + 1, p2 + 1, _, ps ++ [(q, Value.slice a2 q.items.length cap2)], by omega, by omega, hr6, hg6, Empty27.set hE5 n6, Tp.other hT5 n5, own_gv6 hO5 (by omega) ((Gv.refl b w5).set_ 1 _), Lib.hid ⟨kids_gv hK5.out (by omega) ((Gv.refl b w5).set_ 1 _), HN.out, by simp [HL.out]⟩⟩, ?_⟩
                rw [posOf_lr hr6, PR.out]
                omega
              · have e3 : ((k : Int) + 1 == 1024) = true := by simp; omega
                have HN := Lib.hid (open_bad HH.out (IS.full (by have h := HI.out; rw [show 1023 - k = 0 by omega] at h; exact h) HRc.out))
                clear HRr HRc HI
                refine (next_at b s p2 W4 hr4 hlt hs 32 HC.out).mono ?_
                rintro e w5 ⟨rfl, hb5⟩
                have hr5 := hr4.later hb5
                have hE5 := hE4.later hb5
                have hT5 := hT4.later hb5
                have hO5 := V.own_below6 hO4 hb5
                have hK5 := Lib.hid (hK4.out.below hb5)
                have hg5 := hg4.trans (Gv.of_below (b := b) hb5)
                clear hr4 hE4 hT4 hO4 hK4 hg4 hb5
                have c1 := hr5.c1
                have z1 := hr5.z1
                obtain ⟨t0, t1, t2, t3, t4, t5, tf, tl⟩ := hT5.cells
                go_wp2_with (at_builtin; refine wpList_len rfl (.tmp 52) 25 rfl slice25 rfl ?_)
                exact ⟨rfl, ppost_bad HN.out hg5 (by rw [List.length_drop, size_of]; omega)⟩
            · have e1 : ((c.toNat : Int) == 41) = false := u8_nat (d := 41) rfl h1
              have e2 : ((c.toNat : Int) != 32) = true := by have h := u8_nat (d := 32) rfl h2; simpa using h
              have HN := Lib.hid (open_bad HH.out (HI.out.odd HRc.out h1 h2))
              clear HRr HRc HI h1 h2
              refine (next_at b s p2 W4 hr4 hlt hs c HC.out).mono ?_
              rintro e w5 ⟨rfl, hb5⟩
              have hr5 := hr4.later hb5
              have hE5 := hE4.later hb5
              have hT5 := hT4.later hb5
              have hO5 := V.own_below6 hO4 hb5
              have hK5 := Lib.hid (hK4.out.below hb5)
              have hg5 := hg4.trans (Gv.of_below (b := b) hb5)
              clear hr4 hE4 hT4 hO4 hK4 hg4 hb5
              have c1 := hr5.c1
              have z1 := hr5.z1
              obtain ⟨t0, t1, t2, t3, t4, t5, tf, tl⟩ := hT5.cells
              go_wp2_with fail
              exact ⟨rfl, ppost_bad HN.out hg5 (by rw [List.length_drop, size_of]; omega)⟩
          · have HN := Lib.hid (open_bad HH.out (HI.out.stop (HRr.out.trans (by rw [drop_end s hlt]))))
            clear HRr HI
            refine (next_end b s p2 W4 hr4 (by omega) hs).mono ?_
            rintro e w5 ⟨rfl, hb5⟩
            have hr5 := hr4.later hb5
            have hE5 := hE4.later hb5
            have hT5 := hT4.later hb5
            have hO5 := V.own_below6 hO4 hb5
            have hK5 := Lib.hid (hK4.out.below hb5)
            have hg5 := hg4.trans (Gv.of_below (b := b) hb5)
            clear hr4 hE4 hT4 hO4 hK4 hg4 hb5
            have c1 := hr5.c1
            have z1 := hr5.z1
            obtain ⟨t0, t1, t2, t3, t4, t5, tf, tl⟩ := hT5.cells
            go_wp2_with fail
            exact ⟨rfl, ppost_bad HN.out hg5 (by omega)⟩
end Go.Proofs.YtcgphlilijeifaaDoor.L
end
section
/-
  The reader of a text: any part.
-/
namespace Go.Proofs.YtcgphlilijeifaaDoor.L
open Go.RowKit
open V (Pt)

theorem noHead_end {s : ByteArray} {a : Nat} (d : Int) (h : ¬ a < s.size) : NoHead (nx s a : Int) d := by
  rw [nx_ge h]
  exact ⟨by decide, .inl (by decide), by decide, by decide, by decide, by decide, .inl (by decide)⟩
theorem noHead_at {s : ByteArray} {a : Nat} (d : Int) (h : a < s.size) {c : UInt8} (hc : s[a] = c) (h1 : ¬ (c = 45 ∨ isDigit c = true)) (h2 : ¬ (c = 120 ∨ c = 35)) (h3 : ¬ (c = 39 ∨ c = 34)) (h4 : c ≠ 40 ∨ ¬ d < 16) : NoHead (nx s a : Int) d := by
  rw [nx_lt h, hc]
  simp only [not_or] at h1 h2 h3
  refine ⟨u8_nat (d := 45) rfl h1.1, ?_, u8_nat (d := 120) rfl h2.1, u8_nat (d := 35) rfl h2.2, u8_nat (d := 39) rfl h3.1, u8_nat (d := 34) rfl h3.2, ?_⟩
  · have := h1.2
    simp [isDigit] at this
    by_cases h48 : 48 ≤ c.toNat
    · exact .inr ⟨by simp; omega, by simp; have := this (by simpa using h48); omega⟩
    · exact .inl (by simp; omega)
  · by_cases h40 : c = 40
    · exact .inr ⟨by subst h40; decide, by have := h4.resolve_left (fun e => e h40); simpa using this⟩
    · exact .inl (u8_nat (d := 40) rfl h40)
theorem rpart_any (s : ByteArray) (hs : s.size ≤ 65536) : ∀ (m : Nat), m ≤ 16 → ∀ (b a : Nat) (w : World), Lr w b s a → a ≤ s.size →
    Calls Tryd.prog 80 #[.pointer (some ⟨b, 0, none⟩), .int .i64 (16 - (m : Int))] w (PPost b s (partF m (s.toList.drop a)) w) := by
  intro m
  induction m with
  | zero =>
    intro hm b a w hr ha
    by_cases hlt : a < s.size
    · obtain ⟨c, hc⟩ : ∃ c, s[a] = c := ⟨_, rfl⟩
      have hd := drop2 hlt hc
      by_cases h1 : c = 45 ∨ isDigit c = true
      · have := rpart_num (16 - ((0 : Nat) : Int)) b s a w hr hlt hs c hc h1
        rw [hd, partF_num _ _ h1, ← hd]; exact this
      by_cases h2 : c = 120 ∨ c = 35
      · have := rpart_dig (16 - ((0 : Nat) : Int)) b s a w hr hlt hs c hc h2
        rw [hd, partF_dig _ _ h2, ← hd]; exact this
      by_cases h3 : c = 39 ∨ c = 34
      · have := rpart_quo (16 - ((0 : Nat) : Int)) b s a w hr hlt hs c hc h3
        rw [hd, partF_quo _ _ h3, ← hd]; exact this
      have := rpart_word (16 - ((0 : Nat) : Int)) b s a w hr ha hs (noHead_at _ hlt hc h1 h2 h3 (.inr (by decide)))
      by_cases h4 : c = 40
      · subst h4; rw [hd, partF_shut, ← hd]; exact this
      · rw [hd, partF_word _ _ h1 h2 h3 h4, ← hd]; exact this
    · have := rpart_word (16 - ((0 : Nat) : Int)) b s a w hr ha hs (noHead_end _ hlt)
      rw [drop_end s hlt] at this ⊢
      rw [partF_nil]; exact this
  | succ m ih =>
    intro hm b a w hr ha
    by_cases hlt : a < s.size
    · obtain ⟨c, hc⟩ : ∃ c, s[a] = c := ⟨_, rfl⟩
      have hd := drop2 hlt hc
      by_cases h1 : c = 45 ∨ isDigit c = true
      · have := rpart_num (16 - ((m + 1 : Nat) : Int)) b s a w hr hlt hs c hc h1
        rw [hd, partF_num _ _ h1, ← hd]; exact this
      by_cases h2 : c = 120 ∨ c = 35
      · have := rpart_dig (16 - ((m + 1 : Nat) : Int)) b s a w hr hlt hs c hc h2
        rw [hd, partF_dig _ _ h2, ← hd]; exact this
      by_cases h3 : c = 39 ∨ c = 34
      · have := rpart_quo (16 - ((m + 1 : Nat) : Int)) b s a w hr hlt hs c hc h3
        rw [hd, partF_quo _ _ h3, ← hd]; exact this
      by_cases h4 : c = 40
      · subst h4
        have := rpart_open (16 - ((m + 1 : Nat) : Int)) (by omega) (by omega) (openF (partF m) (s.toList.drop (a + 1))) b s a w hr hlt hs hc (fun w hr => by
          rw [show (16 - ((m + 1 : Nat) : Int)) + 1 = 16 - (m : Int) by omega]
          exact rtuple_any m (16 - (m : Int)) s hs (ih (by omega)) b a w hr hlt)
        rw [hd, partF_open]; exact this
      · have := rpart_word (16 - ((m + 1 : Nat) : Int)) b s a w hr ha hs (noHead_at _ hlt hc h1 h2 h3 (.inl h4))
        rw [hd, partF_word _ _ h1 h2 h3 h4, ← hd]; exact this
    · have := rpart_word (16 - ((m + 1 : Nat) : Int)) b s a w hr ha hs (noHead_end _ hlt)
      rw [drop_end s hlt] at this ⊢
      rw [partF_nil]; exact this
end Go.Proofs.YtcgphlilijeifaaDoor.L
end
section
/-
  lit.Parse's deferred closure: idle, and behind a panic at a place.
-/
namespace Go.Proofs.YtcgphlilijeifaaDoor.L
open Go.RowKit
open V (Pt)

set_option maxRecDepth 100000 in
theorem rcatch_idle (p q r : Addr) (w : World) :
    CallsD Tryd.prog 79 #[.pointer (some p), .pointer (some q), .pointer (some r)] .returning w fun e u' w' => e = .returned (.tuple #[]) ∧ u' = .returning ∧ Below w.heap.size w w' := by
  have hta : ∀ (w : World), (Instr.typeAssert .nilIface 20 133 true).run Tryd.prog w = .ok (.tuple #[.agg #[.int .i64 0], .bool false]) w := fun _ => by kernel_rfl
  refine callsD_of_wpS Tryd.func79 rfl fun c₀ cs hu => ?_
  apply wpS_seq
  apply wpS_region
  simp [wpOpsS, go_sem, recoverD, hu, Tryd.ntmps79, Exit.thenS, hta]
  rw [show Array.replicate 10 undef = #[undef, undef, undef, undef, undef, undef, undef, undef, undef, undef] from rfl]
  simp
  refine wpS_of_wp (Code.wp_mono (fun e a' w' (h : Ends (fun w' => Below w.heap.size w w') e a' w') => ?_) ?_)
  · obtain ⟨rfl, hd, h⟩ := h
    simp [bodyPostS, results, Tryd.results79, hd, h]
    cases c₀
    simp_all
  go_wp2_with fail
  exact ⟨rfl, rfl, (Below.refl _ w).alloc (Nat.le_refl _) _⟩

set_option maxRecDepth 100000 in
theorem rcatch_bad (g : Nat) (x z u : Int) (y : Value) (w : World) (c0 : w.cell? ⟨g, 0, none⟩ = some y) (c1 : w.cell? ⟨g + 1, 0, none⟩ = some (.int .i64 z)) (c2 : w.cell? ⟨g + 2, 0, none⟩ = some (.int .i64 u))
    (z0 : w.frozen? ⟨g, 0, none⟩ = false) (z1 : w.frozen? ⟨g + 1, 0, none⟩ = false) (z2 : w.frozen? ⟨g + 2, 0, none⟩ = false) :
    CallsD Tryd.prog 79 #[.pointer (some ⟨g, 0, none⟩), .pointer (some ⟨g + 1, 0, none⟩), .pointer (some ⟨g + 2, 0, none⟩)] (.panicking [{ v := .iface 133 (.agg #[.int .i64 x]), recovered := false }]) w fun e u' w' =>
      e = .returned (.tuple #[]) ∧ u' = .panicking [{ v := .iface 133 (.agg #[.int .i64 x]), recovered := true }] ∧
        w'.cell? ⟨g, 0, none⟩ = some .nilIface ∧ w'.cell? ⟨g + 1, 0, none⟩ = some (.int .i64 100) ∧ w'.cell? ⟨g + 2, 0, none⟩ = some (.int .i64 x) ∧ Below g w w' := by
  have hta : ∀ (v : Value) (w : World), (Instr.typeAssert (.iface 133 v) 20 133 true).run Tryd.prog w = .ok (.tuple #[v, .bool true]) w := fun _ _ => by kernel_rfl
  refine callsD_of_wpS Tryd.func79 rfl fun c₀ cs hu => ?_
  apply wpS_seq
  apply wpS_region
  simp [wpOpsS, go_sem, recoverD, hu, Tryd.ntmps79, Exit.thenS, hta]
  rw [show Array.replicate 10 undef = #[undef, undef, undef, undef, undef, undef, undef, undef, undef, undef] from rfl]
  simp
  refine wpS_of_wp (Code.wp_mono (fun e a' w' (h : Ends (fun w' => w'.cell? ⟨g, 0, none⟩ = some .nilIface ∧ w'.cell? ⟨g + 1, 0, none⟩ = some (.int .i64 100) ∧ w'.cell? ⟨g + 2, 0, none⟩ = some (.int .i64 x) ∧ Below g w w') e a' w') => ?_) ?_)
  · obtain ⟨rfl, hd, h⟩ := h
    simp [bodyPostS, results, Tryd.results79, hd, h]
  have k2 : g + 2 < w.heap.size := World.block_lt_of_cell? w _ c2
  obtain ⟨W, hW⟩ : ∃ W, W = w.alloc (.cells #[.int .i64 x] 133) := ⟨_, rfl⟩
  have d0 : W.cell? ⟨g, 0, none⟩ = some y := by rw [hW]; exact (World.cell?_of_block (Below.heap_alloc w _ g (by omega))).trans c0
  have d1 : W.cell? ⟨g + 1, 0, none⟩ = some (.int .i64 z) := by rw [hW]; exact (World.cell?_of_block (Below.heap_alloc w _ (g + 1) (by omega))).trans c1
  have d2 : W.cell? ⟨g + 2, 0, none⟩ = some (.int .i64 u) := by rw [hW]; exact (World.cell?_of_block (Below.heap_alloc w _ (g + 2) k2)).trans c2
  have y0 : W.frozen? ⟨g, 0, none⟩ = false := by rw [hW]; exact (World.frozen?_of_block (Below.heap_alloc w _ g (by omega))).trans z0
  have y1 : W.frozen? ⟨g + 1, 0, none⟩ = false := by rw [hW]; exact (World.frozen?_of_block (Below.heap_alloc w _ (g + 1) (by omega))).trans z1
  have y2 : W.frozen? ⟨g + 2, 0, none⟩ = false := by rw [hW]; exact (World.frozen?_of_block (Below.heap_alloc w _ (g + 2) k2)).trans z2
  have x0 : W.cell? ⟨w.heap.size, 0, none⟩ = some (.int .i64 x) := by rw [hW]; simp [go_sem]
  have hb : Below g w W := by rw [hW]; exact (Below.refl g w).alloc (by omega) _
  have kW : g + 2 < W.heap.size := World.block_lt_of_cell? W _ d2
  rw [← hW]
  clear hW c0 c1 c2 z0 z1 z2
  go_wp2_with fail
  go_region
  all_goals
    exact ⟨rfl, rfl, by simp [go_sem, d0], by simp [go_sem, d1], by simp [go_sem, d2], by first | exact ((((hb.setCell (Nat.le_refl g) _).setCell (Nat.le_succ g) _).setCell (by simp) _).drew) | exact (((hb.drew.setCell (Nat.le_refl g) _).setCell (Nat.le_succ g) _).setCell (by simp) _)⟩
end Go.Proofs.YtcgphlilijeifaaDoor.L
end
section
/-
  lit.Parse: its contract.
-/
namespace Go.Proofs.YtcgphlilijeifaaDoor.L
open Go.RowKit
open V (Pt)

/-- The results' places, as they were made. -/
structure Rs (g : Nat) (w : World) : Prop where
  c0 : w.cell? ⟨g, 0, none⟩ = some .nilIface
  c1 : w.cell? ⟨g + 1, 0, none⟩ = some (.int .i64 0)
  c2 : w.cell? ⟨g + 2, 0, none⟩ = some (.int .i64 0)
  z0 : w.frozen? ⟨g, 0, none⟩ = false
  z1 : w.frozen? ⟨g + 1, 0, none⟩ = false
  z2 : w.frozen? ⟨g + 2, 0, none⟩ = false
theorem Rs.below {g : Nat} {w w' : World} (h : Rs g w) (hb : Below (g + 3) w w') : Rs g w' where
  c0 := (hb.cell (p := ⟨g, 0, none⟩) (by simp)).trans h.c0
  c1 := (hb.cell (p := ⟨g + 1, 0, none⟩) (by simp)).trans h.c1
  c2 := (hb.cell (p := ⟨g + 2, 0, none⟩) (by simp)).trans h.c2
  z0 := (hb.frozen (p := ⟨g, 0, none⟩) (by simp)).trans h.z0
  z1 := (hb.frozen (p := ⟨g + 1, 0, none⟩) (by simp)).trans h.z1
  z2 := (hb.frozen (p := ⟨g + 2, 0, none⟩) (by simp)).trans h.z2

/-- Out by the panic at a place: the closure catches it. -/
theorem lleaves_bad (s : ByteArray) (w : World) (tmps : Array Value) (x : Nat) {w1 : World} (h2 : tmps.getD 2 undef = .pointer (some ⟨w.heap.size, 0, none⟩)) (h3 : tmps.getD 3 undef = .pointer (some ⟨w.heap.size + 1, 0, none⟩))
    (h4 : tmps.getD 4 undef = .pointer (some ⟨w.heap.size + 2, 0, none⟩)) (hRs : Rs w.heap.size w1) (hB : Below w.heap.size w w1) (hs : s.size ≤ 65536) (hx : x ≤ s.size) (hF : Fails s x) :
    Leaves Tryd.prog Tryd.f40 tmps (ParsePost s w) [{ target := .fn (.func 79) #[.pointer (some ⟨w.heap.size, 0, none⟩), .pointer (some ⟨w.heap.size + 1, 0, none⟩), .pointer (some ⟨w.heap.size + 2, 0, none⟩)], args := #[] }] (.panicking [{ v := .iface 133 (.agg #[.int .i64 (x : Int)]), recovered := false }]) w1 := by
  refine leaves_cons (f := 79) (args := #[.pointer (some ⟨w.heap.size, 0, none⟩), .pointer (some ⟨w.heap.size + 1, 0, none⟩), .pointer (some ⟨w.heap.size + 2, 0, none⟩)]) (by simp) (by simp [go_sem]) ?_
  refine (rcatch_bad w.heap.size x _ _ _ w1 hRs.c0 hRs.c1 hRs.c2 hRs.z0 hRs.z1 hRs.z2).mono ?_
  rintro e u' w2 ⟨rfl, rfl, d0, d1, d2, hb2⟩
  refine ⟨.tuple #[.nilIface, .int .i64 100, .int .i64 x], ?_, hB.trans hb2, .inr (.inl ⟨x, hs, hx, hF, rfl⟩)⟩
  simp only [Array.getD_eq_getD_getElem?] at h2 h3 h4
  simp [results, Tryd.results40, go_sem, h2, h3, h4, d0, d1, d2]

/-- Out with a value: the closure is idle. -/
theorem lleaves_good (s : ByteArray) (w : World) (tmps : Array Value) (p : Pt) (v : Value) {w1 : World} (h2 : tmps.getD 2 undef = .pointer (some ⟨w.heap.size, 0, none⟩)) (h3 : tmps.getD 3 undef = .pointer (some ⟨w.heap.size + 1, 0, none⟩))
    (h4 : tmps.getD 4 undef = .pointer (some ⟨w.heap.size + 2, 0, none⟩)) (d0 : w1.cell? ⟨w.heap.size, 0, none⟩ = some v) (d1 : w1.cell? ⟨w.heap.size + 1, 0, none⟩ = some (.int .i64 0)) (d2 : w1.cell? ⟨w.heap.size + 2, 0, none⟩ = some (.int .i64 0))
    (hB : Below w.heap.size w w1) (hs : s.size ≤ 65536) (hp : partF 16 s.toList = .ok p []) (hv : V.VI w1 w.heap.size w1.heap.size p v) :
    Leaves Tryd.prog Tryd.f40 tmps (ParsePost s w) [{ target := .fn (.func 79) #[.pointer (some ⟨w.heap.size, 0, none⟩), .pointer (some ⟨w.heap.size + 1, 0, none⟩), .pointer (some ⟨w.heap.size + 2, 0, none⟩)], args := #[] }] .returning w1 := by
  refine leaves_cons (f := 79) (args := #[.pointer (some ⟨w.heap.size, 0, none⟩), .pointer (some ⟨w.heap.size + 1, 0, none⟩), .pointer (some ⟨w.heap.size + 2, 0, none⟩)]) (by simp) (by simp [go_sem]) ?_
  refine (rcatch_idle _ _ _ w1).mono ?_
  rintro e u' w2 ⟨rfl, rfl, hb2⟩
  have e0 := V.keeps hb2 d0
  have e1 := V.keeps hb2 d1
  have e2 := V.keeps hb2 d2
  refine ⟨.tuple #[v, .int .i64 0, .int .i64 0], ?_, V.two hB hb2, .inr (.inr ⟨p, v, hs, hp, (hv.same (V.Same.of_below hb2 (Nat.le_refl _))).wide (Nat.le_refl _) hb2.size, rfl⟩)⟩
  simp only [Array.getD_eq_getD_getElem?] at h2 h3 h4
  simp [results, Tryd.results40, go_sem, h2, h3, h4, e0, e1, e2]

set_option maxRecDepth 100000 in
set_option maxHeartbeats 4000000 in
theorem lparse_any (s : ByteArray) (w : World) : Calls Tryd.prog 40 #[.string s] w (ParsePost s w) := by
  have hmf : ∀ (fn : Fn) (first cap : Array Value) (w : World), (Instr.makeFunc fn first cap).run Tryd.prog w = .ok (.func fn first cap) w := fun _ _ _ _ => rfl
  obtain ⟨W, hW⟩ : ∃ W : World, W = ((w.alloc (.cells #[.nilIface] 33)).alloc (.cells #[.int .i64 0] 30)).alloc (.cells #[.int .i64 0] 3) := ⟨_, rfl⟩
  have hB0 : Below w.heap.size w W := by
    subst hW
    exact (((Below.refl _ w).alloc (Nat.le_refl _) _).alloc (by simp) _).alloc (by simp; omega) _
  by_cases hl : 65536 < s.size
  · have q : decide (65536 < s.size) = true := by simpa using hl
    have q2 : decide ((65536 : Int) < (s.size : Int)) = true := by simp; omega
    have HL := Lib.hid hl
    subst hW
    clear hl
    go_enter_defers Tryd.func40, Tryd.ntmps40
    go_wp2
    exact ⟨.tuple #[.nilIface, .int .i64 2, .int .i64 0], by simp [results, Tryd.results40, go_sem], by first | exact hB0 | exact (((Below.refl _ w).alloc (Nat.le_refl _) _).alloc (by simp) _).alloc (by simp; omega) _, .inl ⟨HL.out, rfl⟩⟩
  have q : decide (65536 < s.size) = false := by simpa using hl
  have q2 : decide ((65536 : Int) < (s.size : Int)) = false := by simp; omega
  have hs : s.size ≤ 65536 := by omega
  clear hl
  have hWs : W.heap.size = w.heap.size + 3 := by subst hW; simp
  have hRs : Rs w.heap.size W := by
    subst hW
    exact ⟨by simp [go_sem], by simp [go_sem], by simp [go_sem], by simp [go_sem], by simp [go_sem], by simp [go_sem]⟩
  obtain ⟨W2, hW2⟩ : ∃ W2 : World, W2 = W.alloc (.cells #[.string s, .int .i64 0] 137) := ⟨_, rfl⟩
  have hB2 : Below (w.heap.size + 3) W W2 := by
    subst hW2
    exact (Below.refl _ W).alloc (by omega) _
  have hLr : Lr W2 (w.heap.size + 3) s 0 := by
    subst hW2
    have := Blk.new W 137 #[.string s, .int .i64 0]
    rw [hWs] at this
    exact this
  have hW2s : W2.heap.size = w.heap.size + 4 := by subst hW2; simp; omega
  have hR2 := hRs.below hB2
  have hBw := hB0.trans (hB2.mono (by omega))
  have HS := Lib.hid hs
  clear hRs hB2 hB0
  go_enter_defers Tryd.func40, Tryd.ntmps40
  go_wp2_with fail
  rw [← hW, ← hW2]
  clear hW hW2
  have hP := rpart_any s hs 16 (Nat.le_refl _) (w.heap.size + 3) 0 W2 hLr (Nat.zero_le _)
  rw [show (16 - ((16 : Nat) : Int)) = 0 by decide] at hP
  refine hP.mono ?_
  clear hP
  rintro e w1 ⟨hg1, ⟨n, hR, he⟩ | ⟨p, r, v, k, hR, rfl, hO, hk, hrk, hL⟩⟩
  · rw [List.drop_zero] at hR
    unfold wrongAt at he
    subst he
    have hb1 : Below (w.heap.size + 3) W2 w1 := hg1.below (Nat.le_refl _) (by omega)
    exact lleaves_bad s w _ (s.size - n) rfl rfl rfl (hR2.below hb1) (hBw.trans (hb1.mono (by omega))) hs (Nat.sub_le _ _) (.inl ⟨n, hR, rfl⟩)
  · rw [List.drop_zero] at hR
    have hb1 : Below (w.heap.size + 3) W2 w1 := hg1.below (Nat.le_refl _) (by omega)
    have hR1 := hR2.below hb1
    have hB1 := hBw.trans (hb1.mono (by omega))
    have hs1 : W2.heap.size ≤ w1.heap.size := hg1.size
    obtain ⟨ad, cap, rfl⟩ := hO.form
    have hm := whole_make hR hs
    have hmay := (V.makeE_ok hm).2
    have c1 := hL.c1
    have HR := Lib.hid hR
    have HM := Lib.hid hm
    have hf := fit_may hmay
    have HO := Lib.hid hO
    have HK := Lib.hid hrk
    have hbl := Blk.lt hL
    clear hR hm hO hrk hb1 hg1 hLr hR2 hBw hmay
    by_cases hlt : k < s.size
    · have e1 : decide (k < s.size) = true := by simpa using hlt
      have e2 : decide ((k : Int) < (s.size : Int)) = true := by simpa using hlt
      have HF := Lib.hid (show Fails s k from .inr ⟨p, s[k], s.toList.drop (k + 1), by rw [HR.out, HK.out, drop_cons s hlt], by rw [List.length_drop, size_of]; omega⟩)
      clear hlt
      go_wp2_with fail
      have hA : Below w1.heap.size w1 (w1.alloc (.cells #[.int .u8 p.kind, .bool p.yes, .bool p.neg, .string p.mag, .string p.raw, .slice ad p.items.length cap] 27)) := (Below.refl _ _).alloc (Nat.le_refl _) _
      exact lleaves_bad s w _ k rfl rfl rfl (hR1.below (hA.mono (by omega))) (hB1.trans (hA.mono (by omega))) hs hk HF.out
    · have e1 : decide (k < s.size) = false := by simpa using hlt
      have e2 : decide ((k : Int) < (s.size : Int)) = false := by simpa using hlt
      have HF := Lib.hid (show partF 16 s.toList = .ok p [] by rw [HR.out, HK.out, drop_end s hlt])
      clear hlt
      go_wp2_with fail
      have hA : Below w1.heap.size w1 (w1.alloc (.cells #[.int .u8 p.kind, .bool p.yes, .bool p.neg, .string p.mag, .string p.raw, .slice ad p.items.length cap] 27)) := (Below.refl _ _).alloc (Nat.le_refl _) _
      refine (V.make_any p _ _ hf ((HO.out.reads.wide (Nat.zero_le _) (Nat.le_refl _)).later hA)).mono ?_
      rintro e w3 ⟨u, rfl, _, hv, hb3⟩
      rw [HM.out]
      have hv3 := hv HM.out
      have hb4 : Below w1.heap.size w1 w3 := V.two hA hb3
      have hR3 := hR1.below (hb4.mono (by omega))
      have hB3 := hB1.trans (hb4.mono (by omega))
      have hs3 : w1.heap.size ≤ w3.heap.size := hb4.size
      have HV := Lib.hid (hv3.wide (lo' := w.heap.size + 3) (by simp; omega) (Nat.le_refl _))
      have h33 : w.heap.size + 3 ≤ w3.heap.size := by omega
      have hu : u = .nilIface ∨ ∃ T V, u = .iface T V := by
        by_cases h0 : p.kind = 0
        · exact .inl (hv3.nilOf h0)
        · exact .inr (hv3.ifaceOf h0)
      obtain ⟨c0, c1', c2, z0, z1, z2⟩ := hR3
      clear hv hv3 hb3 hb4 hA hR1 hB1 hs1 HO hf hL c1 hbl
      have k0 : w.heap.size < w3.heap.size := by omega
      have k1 : w.heap.size + 1 < w3.heap.size := by omega
      have k2 : w.heap.size + 2 < w3.heap.size := by omega
      rcases hu with rfl | ⟨T, x, rfl⟩
      · go_wp2_with fail
        have hSm : V.Same (w.heap.size + 3) w3.heap.size w3 (((((w3.setCell ⟨w.heap.size, 0, none⟩ (.nilIface)).setCell ⟨w.heap.size + 1, 0, none⟩ (.int .i64 0)).setCell ⟨w.heap.size, 0, none⟩ (.nilIface)).setCell ⟨w.heap.size + 1, 0, none⟩ (.int .i64 0)).setCell ⟨w.heap.size + 2, 0, none⟩ (.int .i64 0)) :=
          ((((V.Same.setCell (by omega)).trans (V.Same.setCell (by omega))).trans (V.Same.setCell (by omega))).trans (V.Same.setCell (by omega))).trans (V.Same.setCell (by omega))
        have y1 : (((w3.setCell ⟨w.heap.size, 0, none⟩ (.nilIface)).setCell ⟨w.heap.size + 1, 0, none⟩ (.int .i64 0)).setCell ⟨w.heap.size, 0, none⟩ (.nilIface)).cell? ⟨w.heap.size + 1, 0, none⟩ = some (.int .i64 0) := by simp [go_sem, c1', k1]
        exact lleaves_good s w _ p (.nilIface) rfl rfl rfl (by simp [go_sem, c0, c1', c2, k0, k1, k2]) ((World.cell?_setCell_other _ ⟨w.heap.size + 2, 0, none⟩ ⟨w.heap.size + 1, 0, none⟩ _ (by simp)).trans (World.cell?_setCell_same _ _ _ y1)) (by simp [go_sem, c0, c1', c2, k0, k1, k2])
          (((((hB3.setCell (by simp) _).setCell (by simp) _).setCell (by simp) _).setCell (by simp) _).setCell (by simp; omega) _) hs HF.out ((HV.out.same hSm).wide (by omega) (by simp [World.setCell]))
      · go_wp2_with fail
        have hSm : V.Same (w.heap.size + 3) w3.heap.size w3 (((((w3.setCell ⟨w.heap.size, 0, none⟩ (.iface T x)).setCell ⟨w.heap.size + 1, 0, none⟩ (.int .i64 0)).setCell ⟨w.heap.size, 0, none⟩ (.iface T x)).setCell ⟨w.heap.size + 1, 0, none⟩ (.int .i64 0)).setCell ⟨w.heap.size + 2, 0, none⟩ (.int .i64 0)) :=
          ((((V.Same.setCell (by omega)).trans (V.Same.setCell (by omega))).trans (V.Same.setCell (by omega))).trans (V.Same.setCell (by omega))).trans (V.Same.setCell (by omega))
        have y1 : (((w3.setCell ⟨w.heap.size, 0, none⟩ (.iface T x)).setCell ⟨w.heap.size + 1, 0, none⟩ (.int .i64 0)).setCell ⟨w.heap.size, 0, none⟩ (.iface T x)).cell? ⟨w.heap.size + 1, 0, none⟩ = some (.int .i64 0) := by simp [go_sem, c1', k1]
        exact lleaves_good s w _ p (.iface T x) rfl rfl rfl (by simp [go_sem, c0, c1', c2, k0, k1, k2]) ((World.cell?_setCell_other _ ⟨w.heap.size + 2, 0, none⟩ ⟨w.heap.size + 1, 0, none⟩ _ (by simp)).trans (World.cell?_setCell_same _ _ _ y1)) (by simp [go_sem, c0, c1', c2, k0, k1, k2])
          (((((hB3.setCell (by simp) _).setCell (by simp) _).setCell (by simp) _).setCell (by simp) _).setCell (by simp; omega) _) hs HF.out ((HV.out.same hSm).wide (by omega) (by simp [World.setCell]))
end Go.Proofs.YtcgphlilijeifaaDoor.L
end
