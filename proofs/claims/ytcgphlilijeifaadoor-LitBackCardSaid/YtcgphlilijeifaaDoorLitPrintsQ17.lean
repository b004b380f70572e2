import Derived.Test.YtcgphlilijeifaaDoorLitPrintsQ16
import Derived.Test.YtcgphlilijeifaaDoorLitPrintsQ8
import Derived.Test.YtcgphlilijeifaaDoorLitPrintsQ14
section
/-
  The reader of a text: a part of bytes as digits of sixteen; a part between quotes (printed by wip/tools/mk-litdig.py).
-/
namespace Go.Proofs.YtcgphlilijeifaaDoor.L
open Go.RowKit
open V (Pt)

set_option maxRecDepth 100000 in
set_option maxHeartbeats 4000000 in
theorem rpart_dig (d : Int) (b : Nat) (s : ByteArray) (a : Nat) (w : World) (hr : Lr w b s a) (ha : a < s.size) (hs : s.size ≤ 65536) (c : UInt8) (hc : s[a] = c) (hcc : c = 120 ∨ c = 35) :
    Calls Tryd.prog 80 #[.pointer (some ⟨b, 0, none⟩), .int .i64 d] w (PPost b s (digF c ((s.toList.drop (a + 1)).takeWhile isHex) ((s.toList.drop (a + 1)).dropWhile isHex) (s.toList.drop a)) w) := by
  have HC := Lib.hid hc
  have hbl : b < w.heap.size := Blk.lt hr
  obtain ⟨t, ht⟩ : ∃ t, (s.toList.drop (a + 1)).takeWhile isHex = t := ⟨_, rfl⟩
  have HT := Lib.hid ht
  have HR := Lib.hid (show (s.toList.drop (a + 1)).dropWhile isHex = s.toList.drop (a + 1 + t.length) by rw [num_rest, ht])
  have htl := takeWhile_len_le s isHex (a + 1) (by omega)
  rw [ht] at htl
  have HD := Lib.hid (len_drop s (Nat.le_of_lt ha))
  rw [ht]
  clear hc ht
  rcases hcc with rfl | rfl
  · go_enter Tryd.func80, Tryd.ntmps80
    have c1 := (hr.alloc (.cells #[.int .u8 0, .bool false, .bool false, .string ⟨#[]⟩, .string ⟨#[]⟩, .slice none 0 0] 27)).c1
    go_wp2_with fail
    refine (next_at b s a _ (hr.alloc _) ha hs 120 HC.out).mono ?_
    rintro e w1 ⟨rfl, hb1⟩
    have hE := (e27_new w).later hb1
    have hr1 := (hr.alloc _).later hb1
    have hg1 := ((Gv.refl b w).alloc (.cells #[.int .u8 0, .bool false, .bool false, .string ⟨#[]⟩, .string ⟨#[]⟩, .slice none 0 0] 27)).trans (Gv.of_below (b := b) hb1)
    clear hr hb1 c1
    have c1 := hr1.c1
    have z1 := hr1.z1
    go_wp2_with fail
    have hr2 := Lr.setTo hr1 (a' := a + 1) (x := (a : Int) + 1) (by omega)
    have hE2 : Empty27 (w1.setCell ⟨b, 1, none⟩ (.int .i64 ((a : Int) + 1))) w.heap.size := hE.set (by omega)
    have hg2 := hg1.set_ 1 (.int .i64 ((a : Int) + 1))
    by_cases hbad : ((120 : UInt8) = 35 ∧ t.length ≠ 32) ∨ t.length % 2 ≠ 0
    · refine (ldigits_bad b s 120 (by decide) a (a + 1) _ hr2 (by omega) hs (by rw [HT.out]; exact hbad)).mono ?_
      rintro e w3 ⟨he, hg3⟩
      unfold wrongAt at he
      subst he
      exact ⟨rfl, ppost_bad (by unfold digF; rw [if_pos hbad]) (hg2.trans hg3) HD.out⟩
    · have hbad2 := hbad
      simp only [not_or, not_and, ne_eq, Classical.not_not] at hbad2
      refine (ldigits_ok b s 120 (by decide) a (a + 1) _ hr2 (by omega) hs t HT.out hbad2.1 (t.length / 2) (by omega)).mono ?_
      rintro e w3 ⟨q, rfl, hq, hr3, hg3⟩
      rw [show ((if (120 : UInt8) = 35 then 4 else 3 : Nat) : Int) = 3 from rfl]
      obtain rfl := of_list hq.out
      have hE3 := hE2.gv (by omega) hg3
      have hg := hg2.trans hg3
      have HR3 := Lib.hid (show digF 120 t ((s.toList.drop (a + 1)).dropWhile isHex) (s.toList.drop a) = .ok (mkP 3 false (bytesH t)) (s.toList.drop (a + 1 + t.length)) by unfold digF; rw [if_neg hbad, HR.out]; rfl)
      clear hE2 hg2 hg3 hr2 hE hg1 hr1 c1 z1 hbad hbad2 hq
      obtain ⟨c0, c1, c2, c3, c4, c5, z0, z1, z2, z3, z4, z5, hlt⟩ := hE3.cells
      go_wp2_with fail
      exact bodyPost_ret (v := .agg #[.int .u8 3, .bool false, .bool false, .string ⟨#[]⟩, .string ⟨(bytesH t).toArray⟩, .slice none 0 0]) (by simp [results, Tryd.results80, go_sem, c0, c1, c2, c3, c4, c5]) rfl
        (ppost_flat HR3.out rfl (six_gv hg (Nat.le_refl _) _ _ _ _ _ _) htl rfl (six_lr hr3 (by omega) _ _ _ _ _ _))
  · go_enter Tryd.func80, Tryd.ntmps80
    have c1 := (hr.alloc (.cells #[.int .u8 0, .bool false, .bool false, .string ⟨#[]⟩, .string ⟨#[]⟩, .slice none 0 0] 27)).c1
    go_wp2_with fail
    refine (next_at b s a _ (hr.alloc _) ha hs 35 HC.out).mono ?_
    rintro e w1 ⟨rfl, hb1⟩
    have hE := (e27_new w).later hb1
    have hr1 := (hr.alloc _).later hb1
    have hg1 := ((Gv.refl b w).alloc (.cells #[.int .u8 0, .bool false, .bool false, .string ⟨#[]⟩, .string ⟨#[]⟩, .slice none 0 0] 27)).trans (Gv.of_below (b := b) hb1)
    clear hr hb1 c1
    have c1 := hr1.c1
    have z1 := hr1.z1
    go_wp2_with fail
    have hr2 := Lr.setTo hr1 (a' := a + 1) (x := (a : Int) + 1) (by omega)
    have hE2 : Empty27 (w1.setCell ⟨b, 1, none⟩ (.int .i64 ((a : Int) + 1))) w.heap.size := hE.set (by omega)
    have hg2 := hg1.set_ 1 (.int .i64 ((a : Int) + 1))
    by_cases hbad : ((35 : UInt8) = 35 ∧ t.length ≠ 32) ∨ t.length % 2 ≠ 0
    · refine (ldigits_bad b s 35 (by decide) a (a + 1) _ hr2 (by omega) hs (by rw [HT.out]; exact hbad)).mono ?_
      rintro e w3 ⟨he, hg3⟩
      unfold wrongAt at he
      subst he
      exact ⟨rfl, ppost_bad (by unfold digF; rw [if_pos hbad]) (hg2.trans hg3) HD.out⟩
    · have hbad2 := hbad
      simp only [not_or, not_and, ne_eq, Classical.not_not] at hbad2
      refine (ldigits_ok b s 35 (by decide) a (a + 1) _ hr2 (by omega) hs t HT.out (fun _ => hbad2.1 trivial) (t.length / 2) (by omega)).mono ?_
      rintro e w3 ⟨q, rfl, hq, hr3, hg3⟩
      rw [show ((if (35 : UInt8) = 35 then 4 else 3 : Nat) : Int) = 4 from rfl]
      obtain rfl := of_list hq.out
      have hE3 := hE2.gv (by omega) hg3
      have hg := hg2.trans hg3
      have HR3 := Lib.hid (show digF 35 t ((s.toList.drop (a + 1)).dropWhile isHex) (s.toList.drop a) = .ok (mkP 4 false (bytesH t)) (s.toList.drop (a + 1 + t.length)) by unfold digF; rw [if_neg hbad, HR.out]; rfl)
      clear hE2 hg2 hg3 hr2 hE hg1 hr1 c1 z1 hbad hbad2 hq
      obtain ⟨c0, c1, c2, c3, c4, c5, z0, z1, z2, z3, z4, z5, hlt⟩ := hE3.cells
      go_wp2_with fail
      exact bodyPost_ret (v := .agg #[.int .u8 4, .bool false, .bool false, .string ⟨#[]⟩, .string ⟨(bytesH t).toArray⟩, .slice none 0 0]) (by simp [results, Tryd.results80, go_sem, c0, c1, c2, c3, c4, c5]) rfl
        (ppost_flat HR3.out rfl (six_gv hg (Nat.le_refl _) _ _ _ _ _ _) htl rfl (six_lr hr3 (by omega) _ _ _ _ _ _))

set_option maxRecDepth 100000 in
set_option maxHeartbeats 4000000 in
theorem rpart_quo (d : Int) (b : Nat) (s : ByteArray) (a : Nat) (w : World) (hr : Lr w b s a) (ha : a < s.size) (hs : s.size ≤ 65536) (c : UInt8) (hc : s[a] = c) (hcc : c = 39 ∨ c = 34) :
    Calls Tryd.prog 80 #[.pointer (some ⟨b, 0, none⟩), .int .i64 d] w (PPost b s (quoF c (quotedF c (s.toList.drop (a + 1))) (s.toList.drop a)) w) := by
  have HC := Lib.hid hc
  have hbl : b < w.heap.size := Blk.lt hr
  have HD := Lib.hid (len_drop s (Nat.le_of_lt ha))
  clear hc
  rcases hcc with rfl | rfl
  · go_enter Tryd.func80, Tryd.ntmps80
    have c1 := (hr.alloc (.cells #[.int .u8 0, .bool false, .bool false, .string ⟨#[]⟩, .string ⟨#[]⟩, .slice none 0 0] 27)).c1
    go_wp2_with fail
    refine (next_at b s a _ (hr.alloc _) ha hs 39 HC.out).mono ?_
    rintro e w1 ⟨rfl, hb1⟩
    have hE := (e27_new w).later hb1
    have hr1 := (hr.alloc _).later hb1
    have hg1 := ((Gv.refl b w).alloc (.cells #[.int .u8 0, .bool false, .bool false, .string ⟨#[]⟩, .string ⟨#[]⟩, .slice none 0 0] 27)).trans (Gv.of_below (b := b) hb1)
    clear hr hb1 c1
    go_wp2_with fail
    refine (quoted_any b s 39 (by decide) a _ hr1 ha hs).mono ?_
    rintro e w3 ⟨hg3, ⟨hn, he⟩ | ⟨x, r, q, hx, rfl, hq, n, hn, hrn, hr3⟩⟩
    · unfold wrongAt at he
      subst he
      exact ⟨rfl, ppost_bad (by rw [hn]; rfl) (hg1.trans hg3) HD.out⟩
    · obtain rfl := of_list hq.out
      have hE3 := hE.gv (by omega) hg3
      have hg := hg1.trans hg3
      have HR3 := Lib.hid (show quoF 39 (quotedF 39 (s.toList.drop (a + 1))) (s.toList.drop a) = .ok (mkP 5 false x) r by rw [hx]; rfl)
      have HN := Lib.hid hrn
      clear hE hg1 hg3 hr1 hx hrn hq
      obtain ⟨c0, c1, c2, c3, c4, c5, z0, z1, z2, z3, z4, z5, hlt⟩ := hE3.cells
      go_wp2_with fail
      exact bodyPost_ret (v := .agg #[.int .u8 5, .bool false, .bool false, .string ⟨#[]⟩, .string ⟨x.toArray⟩, .slice none 0 0]) (by simp [results, Tryd.results80, go_sem, c0, c1, c2, c3, c4, c5]) rfl
        (ppost_flat HR3.out rfl (six_gv hg (Nat.le_refl _) _ _ _ _ _ _) hn HN.out (six_lr hr3 (by omega) _ _ _ _ _ _))
  · go_enter Tryd.func80, Tryd.ntmps80
    have c1 := (hr.alloc (.cells #[.int .u8 0, .bool false, .bool false, .string ⟨#[]⟩, .string ⟨#[]⟩, .slice none 0 0] 27)).c1
    go_wp2_with fail
    refine (next_at b s a _ (hr.alloc _) ha hs 34 HC.out).mono ?_
    rintro e w1 ⟨rfl, hb1⟩
    have hE := (e27_new w).later hb1
    have hr1 := (hr.alloc _).later hb1
    have hg1 := ((Gv.refl b w).alloc (.cells #[.int .u8 0, .bool false, .bool false, .string ⟨#[]⟩, .string ⟨#[]⟩, .slice none 0 0] 27)).trans (Gv.of_below (b := b) hb1)
    clear hr hb1 c1
    go_wp2_with fail
    refine (quoted_any b s 34 (by decide) a _ hr1 ha hs).mono ?_
    rintro e w3 ⟨hg3, ⟨hn, he⟩ | ⟨x, r, q, hx, rfl, hq, n, hn, hrn, hr3⟩⟩
    · unfold wrongAt at he
      subst he
      exact ⟨rfl, ppost_bad (by rw [hn]; rfl) (hg1.trans hg3) HD.out⟩
    · obtain rfl := of_list hq.out
      have hE3 := hE.gv (by omega) hg3
      have hg := hg1.trans hg3
      have HR3 := Lib.hid (show quoF 34 (quotedF 34 (s.toList.drop (a + 1))) (s.toList.drop a) = .ok (mkP 6 false x) r by rw [hx]; rfl)
      have HN := Lib.hid hrn
      clear hE hg1 hg3 hr1 hx hrn hq
      obtain ⟨c0, c1, c2, c3, c4, c5, z0, z1, z2, z3, z4, z5, hlt⟩ := hE3.cells
      go_wp2_with fail
      exact bodyPost_ret (v := .agg #[.int .u8 6, .bool false, .bool false, .string ⟨#[]⟩, .string ⟨x.toArray⟩, .slice none 0 0]) (by simp [results, Tryd.results80, go_sem, c0, c1, c2, c3, c4, c5]) rfl
        (ppost_flat HR3.out rfl (six_gv hg (Nat.le_refl _) _ _ _ _ _ _) hn HN.out (six_lr hr3 (by omega) _ _ _ _ _ _))
end Go.Proofs.YtcgphlilijeifaaDoor.L
end
section
/-
  The reader of a text: the words.
-/
namespace Go.Proofs.YtcgphlilijeifaaDoor.L
open Go.RowKit
open V (Pt)

theorem prefix_c (s : ByteArray) (a : Nat) (wd : ByteArray) (t : Bool) (h : wd.toList.isPrefixOf (s.toList.drop a) = t) (ha : a ≤ s.size) (w : World) :
    Calls Tryd.prog 112 #[.string (s.extract a s.size), .string wd] w fun e w' => e = .returned (.bool t) ∧ w' = w := by
  refine (Tryd.strings_HasPrefix _ _ w).mono ?_
  rintro e w' ⟨rfl, rfl⟩
  refine ⟨?_, rfl⟩
  have e1 : (s.extract a s.size).data.toList = s.toList.drop a := by
    rw [← Lib.toList_data, Lib.extract_toList, ← Lib.toList_data]
    exact List.take_of_length_le (by rw [List.length_drop, size_of]; exact Nat.le_refl _)
  rw [e1, ← Lib.toList_data, ← h]
  rfl
/-- The words that do not begin it. -/
def Pfx (k : Nat) (l : List UInt8) : Prop := (0 < k → nullT.isPrefixOf l = false) ∧ (1 < k → yesT.isPrefixOf l = false) ∧ (2 < k → noT.isPrefixOf l = false)
theorem pfx_len {u l : List UInt8} (h : u.isPrefixOf l = true) : u.length ≤ l.length := by
  obtain ⟨t, rfl⟩ := List.isPrefixOf_iff_prefix.1 h
  simp
def wordCells : Array Value := #[.string ⟨#[110, 117, 108, 108]⟩, .int .u8 0, .bool false, .bool false, .string ⟨#[]⟩, .string ⟨#[]⟩, .slice none 0 0, .string ⟨#[121, 101, 115]⟩, .int .u8 1, .bool true, .bool false, .string ⟨#[]⟩, .string ⟨#[]⟩, .slice none 0 0,
  .string ⟨#[110, 111]⟩, .int .u8 1, .bool false, .bool false, .string ⟨#[]⟩, .string ⟨#[]⟩, .slice none 0 0]
/-- What the byte that comes must not be. -/
structure NoHead (x d : Int) : Prop where
  n45 : (x == 45) = false
  dig : decide ((48 : Int) ≤ x) = false ∨ (decide ((48 : Int) ≤ x) = true ∧ decide (x ≤ 57) = false)
  n120 : (x == 120) = false
  n35 : (x == 35) = false
  n39 : (x == 39) = false
  n34 : (x == 34) = false
  n40 : (x == 40) = false ∨ ((x == 40) = true ∧ decide (d < 16) = false)

set_option maxRecDepth 100000 in
set_option maxHeartbeats 8000000 in
theorem rpart_word (d : Int) (b : Nat) (s : ByteArray) (a : Nat) (w : World) (hr : Lr w b s a) (ha : a ≤ s.size) (hs : s.size ≤ 65536) (hn : NoHead (nx s a : Int) d) :
    Calls Tryd.prog 80 #[.pointer (some ⟨b, 0, none⟩), .int .i64 d] w (PPost b s (wordF (s.toList.drop a)) w) := by
  have hbl : b < w.heap.size := Blk.lt hr
  have HD := Lib.hid (len_drop s ha)
  obtain ⟨x, hx⟩ : ∃ x : Int, (nx s a : Int) = x := ⟨_, rfl⟩
  have HX := Lib.hid hx
  rw [hx] at hn
  clear hx
  obtain ⟨q1, q2, q3, q4, q5, q6, q7⟩ := hn
  rcases q2 with q2 | ⟨q2, q2'⟩
  all_goals
    rcases q7 with q7 | ⟨q7, q7'⟩
  all_goals
    go_enter Tryd.func80, Tryd.ntmps80
    have c1 := (hr.alloc (.cells #[.int .u8 0, .bool false, .bool false, .string ⟨#[]⟩, .string ⟨#[]⟩, .slice none 0 0] 27)).c1
    go_wp2_with fail
    refine (next_any b s a _ (hr.alloc _) ha hs).mono ?_
    rintro e w1 ⟨rfl, hb1⟩
    rw [HX.out]
    have hE := (e27_new w).later hb1
    have hr1 := (hr.alloc _).later hb1
    have hg1 := ((Gv.refl b w).alloc (.cells #[.int .u8 0, .bool false, .bool false, .string ⟨#[]⟩, .string ⟨#[]⟩, .slice none 0 0] 27)).trans (Gv.of_below (b := b) hb1)
    clear hr hb1 c1
    go_wp2_with fail
    have hG := Blk.new w1 177 wordCells
    unfold wordCells at hG
    have hE2 : Empty27 (w1.alloc (.cells wordCells 177)) w.heap.size := hE.later ((Below.refl _ _).alloc (Nat.le_refl _) _)
    have hr2 := hr1.alloc (.cells wordCells 177)
    have hg2 := hg1.alloc (.cells wordCells 177)
    have hs1 : w.heap.size < w1.heap.size := Blk.lt hE
    unfold wordCells at hE2 hr2 hg2
    obtain ⟨W2, hW2⟩ : ∃ W2, W2 = w1.alloc (.cells #[.string ⟨#[110, 117, 108, 108]⟩, .int .u8 0, .bool false, .bool false, .string ⟨#[]⟩, .string ⟨#[]⟩, .slice none 0 0, .string ⟨#[121, 101, 115]⟩, .int .u8 1, .bool true, .bool false, .string ⟨#[]⟩, .string ⟨#[]⟩, .slice none 0 0,
      .string ⟨#[110, 111]⟩, .int .u8 1, .bool false, .bool false, .string ⟨#[]⟩, .string ⟨#[]⟩, .slice none 0 0] 177) := ⟨_, rfl⟩
    rw [← hW2] at hG hE2 hr2 hg2 ⊢
    clear hW2 hE hr1 hg1
    obtain ⟨G, hGe⟩ : ∃ G, w1.heap.size = G := ⟨_, rfl⟩
    rw [hGe] at hG hs1 ⊢
    clear hGe
    go_loopw [109] (fun i wr => ∃ k : Nat, k ≤ 3 ∧ i = .int .i64 k ∧ RowKit.Hid (Pfx k (s.toList.drop a)) ∧ Lr wr b s a ∧ Empty27 wr w.heap.size ∧ Blk wr G 177 wordCells ∧ Gv b w wr) (fun i _ => 3 - (intOf i).toNat)
    case atStart => exact ⟨0, by omega, rfl, Lib.hid ⟨fun h => by omega, fun h => by omega, fun h => by omega⟩, hr2, hE2, hG, hg2⟩
    case round =>
      clear hG hE2 hr2 hg2
      obtain ⟨k, hk, rfl, HP, hr, hE, hG, hg⟩ := hrel
      have c0 := hr.c0
      have c1 := hr.c1
      have z1 := hr.z1
      have hbw : b < wr.heap.size := Blk.lt hr
      have hGw : G < wr.heap.size := Blk.lt hG
      have hEw : w.heap.size < wr.heap.size := Blk.lt hE
      rcases (show k = 0 ∨ k = 1 ∨ k = 2 ∨ k = 3 by omega) with rfl | rfl | rfl | rfl
      · have g0 : wr.cell? ⟨G, 0, none⟩ = _ := hG.cell 0
        have g1 : wr.cell? ⟨G, 1, none⟩ = _ := hG.cell 1
        have g2 : wr.cell? ⟨G, 2, none⟩ = _ := hG.cell 2
        have g3 : wr.cell? ⟨G, 3, none⟩ = _ := hG.cell 3
        have g4 : wr.cell? ⟨G, 4, none⟩ = _ := hG.cell 4
        have g5 : wr.cell? ⟨G, 5, none⟩ = _ := hG.cell 5
        have g6 : wr.cell? ⟨G, 6, none⟩ = _ := hG.cell 6
        simp [wordCells] at g0 g1 g2 g3 g4 g5 g6
        cases hp : nullT.isPrefixOf (s.toList.drop a) with
        | false =>
          have HPF := Lib.hid hp
          have HP2 := Lib.hid (show Pfx 1 (s.toList.drop a) from ⟨fun _ => HPF.out, fun h => by omega, fun h => by omega⟩)
          clear hp
          go_wp2_with (go_quiet (exact Calls.quiet_of_same (prefix_c s a nullS false (by rw [nullS_text]; exact HPF.out) ha _)))
          refine ⟨⟨1, by omega, rfl, HP2, (hr.alloc _).drewN _, hE.later (((Below.refl _ _).alloc (Nat.le_refl _) _).trans (below_drewN _ _ _)), Blk.below hG (((Below.refl _ _).alloc (Nat.le_refl _) _).trans (below_drewN _ _ _)) hGw, (hg.alloc _).drewN _⟩, by simp [intOf]⟩
        | true =>
          have HPF := Lib.hid hp
          have hpl := pfx_len hp
          rw [List.length_drop, size_of] at hpl
          have hpl2 : 4 ≤ s.size - a := hpl
          have HN := Lib.hid (show wordF (s.toList.drop a) = .ok (mkP 0 false []) (s.toList.drop (a + 4)) by unfold wordF; rw [if_pos hp, List.drop_drop])
          clear hp hpl
          go_wp2_with (go_quiet (exact Calls.quiet_of_same (prefix_c s a nullS true (by rw [nullS_text]; exact HPF.out) ha _)))
          go_region
          all_goals
            obtain ⟨w5, hw5⟩ : ∃ w5, w5 = (((wr.alloc (.cells #[.string ⟨#[110, 117, 108, 108]⟩, .int .u8 0, .bool false, .bool false, .string ⟨#[]⟩, .string ⟨#[]⟩, .slice none 0 0] 177)).drewN (nq + 1)).setCell ⟨b, 1, none⟩ (.int .i64 ((a : Int) + 4))) := ⟨_, rfl⟩
            have hr5 : Lr w5 b s (a + 4) := by rw [hw5]; exact Lr.setTo ((hr.alloc _).drewN _) (by omega)
            have hE5 : Empty27 w5 w.heap.size := by rw [hw5]; exact Empty27.set (hE.later (((Below.refl _ _).alloc (Nat.le_refl _) _).trans (below_drewN _ _ _))) (by omega)
            have hg5 : Gv b w w5 := by rw [hw5]; exact ((hg.alloc _).drewN _).set_ 1 _
            have hB5 : Blk w5 wr.heap.size 177 #[.string ⟨#[110, 117, 108, 108]⟩, .int .u8 0, .bool false, .bool false, .string ⟨#[]⟩, .string ⟨#[]⟩, .slice none 0 0] := by rw [hw5]; exact (Below.heap_setCell _ _ _ _ (show wr.heap.size ≠ b by omega)).trans (Blk.new wr 177 _)
            have hne5 : wr.heap.size ≠ w.heap.size := by omega
            rw [← hw5]
            clear hw5 hr hE hg c0 c1 z1 g0 g1 g2 g3 g4 g5 g6
            have v1 : w5.cell? ⟨wr.heap.size, 1, none⟩ = _ := hB5.cell 1
            have v2 : w5.cell? ⟨wr.heap.size, 2, none⟩ = _ := hB5.cell 2
            have v3 : w5.cell? ⟨wr.heap.size, 3, none⟩ = _ := hB5.cell 3
            have v4 : w5.cell? ⟨wr.heap.size, 4, none⟩ = _ := hB5.cell 4
            have v5 : w5.cell? ⟨wr.heap.size, 5, none⟩ = _ := hB5.cell 5
            have v6 : w5.cell? ⟨wr.heap.size, 6, none⟩ = _ := hB5.cell 6
            simp at v1 v2 v3 v4 v5 v6
            obtain ⟨c0, c1, c2, c3, c4, c5, z0, z1, z2, z3, z4, z5, hlt⟩ := hE5.cells
            go_wp2_with fail
            exact bodyPost_ret (v := .agg #[.int .u8 0, .bool false, .bool false, .string ⟨#[]⟩, .string ⟨#[]⟩, .slice none 0 0]) (by simp [results, Tryd.results80, go_sem, c0, c1, c2, c3, c4, c5]) rfl
              (ppost_flat HN.out rfl (six_gv hg5 (Nat.le_refl _) _ _ _ _ _ _) (by omega) rfl (six_lr hr5 (by omega) _ _ _ _ _ _))
      · have g0 : wr.cell? ⟨G, 7, none⟩ = _ := hG.cell 7
        have g1 : wr.cell? ⟨G, 8, none⟩ = _ := hG.cell 8
        have g2 : wr.cell? ⟨G, 9, none⟩ = _ := hG.cell 9
        have g3 : wr.cell? ⟨G, 10, none⟩ = _ := hG.cell 10
        have g4 : wr.cell? ⟨G, 11, none⟩ = _ := hG.cell 11
        have g5 : wr.cell? ⟨G, 12, none⟩ = _ := hG.cell 12
        have g6 : wr.cell? ⟨G, 13, none⟩ = _ := hG.cell 13
        simp [wordCells] at g0 g1 g2 g3 g4 g5 g6
        cases hp : yesT.isPrefixOf (s.toList.drop a) with
        | false =>
          have HPF := Lib.hid hp
          have HP2 := Lib.hid (show Pfx 2 (s.toList.drop a) from ⟨fun _ => HP.out.1 (by decide), fun _ => HPF.out, fun h => by omega⟩)
          clear hp
          go_wp2_with (go_quiet (exact Calls.quiet_of_same (prefix_c s a yesS false (by rw [yesS_text]; exact HPF.out) ha _)))
          refine ⟨⟨2, by omega, rfl, HP2, (hr.alloc _).drewN _, hE.later (((Below.refl _ _).alloc (Nat.le_refl _) _).trans (below_drewN _ _ _)), Blk.below hG (((Below.refl _ _).alloc (Nat.le_refl _) _).trans (below_drewN _ _ _)) hGw, (hg.alloc _).drewN _⟩, by simp [intOf]⟩
        | true =>
          have HPF := Lib.hid hp
          have hpl := pfx_len hp
          rw [List.length_drop, size_of] at hpl
          have hpl2 : 3 ≤ s.size - a := hpl
          have HN := Lib.hid (show wordF (s.toList.drop a) = .ok (mkP 1 true []) (s.toList.drop (a + 3)) by unfold wordF; rw [if_neg (by rw [HP.out.1 (by decide)]; decide), if_pos hp, List.drop_drop])
          clear hp hpl
          go_wp2_with (go_quiet (exact Calls.quiet_of_same (prefix_c s a yesS true (by rw [yesS_text]; exact HPF.out) ha _)))
          go_region
          all_goals
            obtain ⟨w5, hw5⟩ : ∃ w5, w5 = (((wr.alloc (.cells #[.string ⟨#[121, 101, 115]⟩, .int .u8 1, .bool true, .bool false, .string ⟨#[]⟩, .string ⟨#[]⟩, .slice none 0 0] 177)).drewN (nq + 1)).setCell ⟨b, 1, none⟩ (.int .i64 ((a : Int) + 3))) := ⟨_, rfl⟩
            have hr5 : Lr w5 b s (a + 3) := by rw [hw5]; exact Lr.setTo ((hr.alloc _).drewN _) (by omega)
            have hE5 : Empty27 w5 w.heap.size := by rw [hw5]; exact Empty27.set (hE.later (((Below.refl _ _).alloc (Nat.le_refl _) _).trans (below_drewN _ _ _))) (by omega)
            have hg5 : Gv b w w5 := by rw [hw5]; exact ((hg.alloc _).drewN _).set_ 1 _
            have hB5 : Blk w5 wr.heap.size 177 #[.string ⟨#[121, 101, 115]⟩, .int .u8 1, .bool true, .bool false, .string ⟨#[]⟩, .string ⟨#[]⟩, .slice none 0 0] := by rw [hw5]; exact (Below.heap_setCell _ _ _ _ (show wr.heap.size ≠ b by omega)).trans (Blk.new wr 177 _)
            have hne5 : wr.heap.size ≠ w.heap.size := by omega
            rw [← hw5]
            clear hw5 hr hE hg c0 c1 z1 g0 g1 g2 g3 g4 g5 g6
            have v1 : w5.cell? ⟨wr.heap.size, 1, none⟩ = _ := hB5.cell 1
            have v2 : w5.cell? ⟨wr.heap.size, 2, none⟩ = _ := hB5.cell 2
            have v3 : w5.cell? ⟨wr.heap.size, 3, none⟩ = _ := hB5.cell 3
            have v4 : w5.cell? ⟨wr.heap.size, 4, none⟩ = _ := hB5.cell 4
            have v5 : w5.cell? ⟨wr.heap.size, 5, none⟩ = _ := hB5.cell 5
            have v6 : w5.cell? ⟨wr.heap.size, 6, none⟩ = _ := hB5.cell 6
            simp at v1 v2 v3 v4 v5 v6
            obtain ⟨c0, c1, c2, c3, c4, c5, z0, z1, z2, z3, z4, z5, hlt⟩ := hE5.cells
            go_wp2_with fail
            exact bodyPost_ret (v := .agg #[.int .u8 1, .bool true, .bool false, .string ⟨#[]⟩, .string ⟨#[]⟩, .slice none 0 0]) (by simp [results, Tryd.results80, go_sem, c0, c1, c2, c3, c4, c5]) rfl
              (ppost_flat HN.out rfl (six_gv hg5 (Nat.le_refl _) _ _ _ _ _ _) (by omega) rfl (six_lr hr5 (by omega) _ _ _ _ _ _))
      · have g0 : wr.cell? ⟨G, 14, none⟩ = _ := hG.cell 14
        have g1 : wr.cell? ⟨G, 15, none⟩ = _ := hG.cell 15
        have g2 : wr.cell? ⟨G, 16, none⟩ = _ := hG.cell 16
        have g3 : wr.cell? ⟨G, 17, none⟩ = _ := hG.cell 17
        have g4 : wr.cell? ⟨G, 18, none⟩ = _ := hG.cell 18
        have g5 : wr.cell? ⟨G, 19, none⟩ = _ := hG.cell 19
        have g6 : wr.cell? ⟨G, 20, none⟩ = _ := hG.cell 20
        simp [wordCells] at g0 g1 g2 g3 g4 g5 g6
        cases hp : noT.isPrefixOf (s.toList.drop a) with
        | false =>
          have HPF := Lib.hid hp
          have HP2 := Lib.hid (show Pfx 3 (s.toList.drop a) from ⟨fun _ => HP.out.1 (by decide), fun _ => HP.out.2.1 (by decide), fun _ => HPF.out⟩)
          clear hp
          go_wp2_with (go_quiet (exact Calls.quiet_of_same (prefix_c s a noS false (by rw [noS_text]; exact HPF.out) ha _)))
          refine ⟨⟨3, by omega, rfl, HP2, (hr.alloc _).drewN _, hE.later (((Below.refl _ _).alloc (Nat.le_refl _) _).trans (below_drewN _ _ _)), Blk.below hG (((Below.refl _ _).alloc (Nat.le_refl _) _).trans (below_drewN _ _ _)) hGw, (hg.alloc _).drewN _⟩, by simp [intOf]⟩
        | true =>
          have HPF := Lib.hid hp
          have hpl := pfx_len hp
          rw [List.length_drop, size_of] at hpl
          have hpl2 : 2 ≤ s.size - a := hpl
          have HN := Lib.hid (show wordF (s.toList.drop a) = .ok (mkP 1 false []) (s.toList.drop (a + 2)) by unfold wordF; rw [if_neg (by rw [HP.out.1 (by decide)]; decide), if_neg (by rw [HP.out.2.1 (by decide)]; decide), if_pos hp, List.drop_drop])
          clear hp hpl
          go_wp2_with (go_quiet (exact Calls.quiet_of_same (prefix_c s a noS true (by rw [noS_text]; exact HPF.out) ha _)))
          go_region
          all_goals
            obtain ⟨w5, hw5⟩ : ∃ w5, w5 = (((wr.alloc (.cells #[.string ⟨#[110, 111]⟩, .int .u8 1, .bool false, .bool false, .string ⟨#[]⟩, .string ⟨#[]⟩, .slice none 0 0] 177)).drewN (nq + 1)).setCell ⟨b, 1, none⟩ (.int .i64 ((a : Int) + 2))) := ⟨_, rfl⟩
            have hr5 : Lr w5 b s (a + 2) := by rw [hw5]; exact Lr.setTo ((hr.alloc _).drewN _) (by omega)
            have hE5 : Empty27 w5 w.heap.size := by rw [hw5]; exact Empty27.set (hE.later (((Below.refl _ _).alloc (Nat.le_refl _) _).trans (below_drewN _ _ _))) (by omega)
            have hg5 : Gv b w w5 := by rw [hw5]; exact ((hg.alloc _).drewN _).set_ 1 _
            have hB5 : Blk w5 wr.heap.size 177 #[.string ⟨#[110, 111]⟩, .int .u8 1, .bool false, .bool false, .string ⟨#[]⟩, .string ⟨#[]⟩, .slice none 0 0] := by rw [hw5]; exact (Below.heap_setCell _ _ _ _ (show wr.heap.size ≠ b by omega)).trans (Blk.new wr 177 _)
            have hne5 : wr.heap.size ≠ w.heap.size := by omega
            rw [← hw5]
            clear hw5 hr hE hg c0 c1 z1 g0 g1 g2 g3 g4 g5 g6
            have v1 : w5.cell? ⟨wr.heap.size, 1, none⟩ = _ := hB5.cell 1
            have v2 : w5.cell? ⟨wr.heap.size, 2, none⟩ = _ := hB5.cell 2
            have v3 : w5.cell? ⟨wr.heap.size, 3, none⟩ = _ := hB5.cell 3
            have v4 : w5.cell? ⟨wr.heap.size, 4, none⟩ = _ := hB5.cell 4
            have v5 : w5.cell? ⟨wr.heap.size, 5, none⟩ = _ := hB5.cell 5
            have v6 : w5.cell? ⟨wr.heap.size, 6, none⟩ = _ := hB5.cell 6
            simp at v1 v2 v3 v4 v5 v6
            obtain ⟨c0, c1, c2, c3, c4, c5, z0, z1, z2, z3, z4, z5, hlt⟩ := hE5.cells
            go_wp2_with fail
            exact bodyPost_ret (v := .agg #[.int .u8 1, .bool false, .bool false, .string ⟨#[]⟩, .string ⟨#[]⟩, .slice none 0 0]) (by simp [results, Tryd.results80, go_sem, c0, c1, c2, c3, c4, c5]) rfl
              (ppost_flat HN.out rfl (six_gv hg5 (Nat.le_refl _) _ _ _ _ _ _) (by omega) rfl (six_lr hr5 (by omega) _ _ _ _ _ _))
      · have HN := Lib.hid (show wordF (s.toList.drop a) = .bad (s.toList.drop a).length by unfold wordF; rw [if_neg (by rw [HP.out.1 (by decide)]; decide), if_neg (by rw [HP.out.2.1 (by decide)]; decide), if_neg (by rw [HP.out.2.2 (by decide)]; decide)])
        go_wp2_with fail
        exact ⟨rfl, ppost_bad HN.out hg HD.out⟩
end Go.Proofs.YtcgphlilijeifaaDoor.L
end
section
/-
  The reader of a text: a part that is a tuple.
-/
namespace Go.Proofs.YtcgphlilijeifaaDoor.L
open Go.RowKit
open V (Pt)

set_option maxRecDepth 100000 in
set_option maxHeartbeats 4000000 in
theorem rpart_open (d : Int) (hd0 : 0 ≤ d) (hd : d < 16) (R : Res Pt) (b : Nat) (s : ByteArray) (a : Nat) (w : World) (hr : Lr w b s a) (ha : a < s.size) (hs : s.size ≤ 65536) (hc : s[a] = 40)
    (H : ∀ w : World, Lr w b s a → Calls Tryd.prog 111 #[.pointer (some ⟨b, 0, none⟩), .int .i64 (d + 1)] w (PPost b s R w)) :
    Calls Tryd.prog 80 #[.pointer (some ⟨b, 0, none⟩), .int .i64 d] w (PPost b s R w) := by
  have HC := Lib.hid hc
  have HH := Lib.hid H
  have hbl : b < w.heap.size := Blk.lt hr
  have q1 : decide (d < 16) = true := by simpa using hd
  clear hc H
  go_enter Tryd.func80, Tryd.ntmps80
  have c1 := (hr.alloc (.cells #[.int .u8 0, .bool false, .bool false, .string ⟨#[]⟩, .string ⟨#[]⟩, .slice none 0 0] 27)).c1
  go_wp2_with fail
  refine (next_at b s a _ (hr.alloc _) ha hs 40 HC.out).mono ?_
  rintro e w1 ⟨rfl, hb1⟩
  have hE := (e27_new w).later hb1
  have hr1 := (hr.alloc _).later hb1
  have hg1 := ((Gv.refl b w).alloc (.cells #[.int .u8 0, .bool false, .bool false, .string ⟨#[]⟩, .string ⟨#[]⟩, .slice none 0 0] 27)).trans (Gv.of_below (b := b) hb1)
  have hs1 : w.heap.size < w1.heap.size := Blk.lt hE
  clear hr hb1 c1
  go_wp2_with fail
  refine (HH.out _ hr1).mono ?_
  rintro e w3 ⟨hg3, ⟨n, hn, he⟩ | ⟨p, r, v, k, hR, rfl, hO, hk, hrk, hr3⟩⟩
  · unfold wrongAt at he
    subst he
    exact ⟨rfl, hg1.trans hg3, .inl ⟨n, hn, rfl⟩⟩
  · have hE3 := hE.gv (by omega) hg3
    have hg := hg1.trans hg3
    obtain ⟨ad, cap, rfl⟩ := hO.form
    have HR := Lib.hid hR
    have HK := Lib.hid hrk
    have HO := Lib.hid hO
    clear hE hg1 hg3 hr1 hR hrk hO
    obtain ⟨c0, c1, c2, c3, c4, c5, z0, z1, z2, z3, z4, z5, hlt⟩ := hE3.cells
    go_wp2_with fail
    refine bodyPost_ret (v := .agg #[.int .u8 p.kind, .bool p.yes, .bool p.neg, .string p.mag, .string p.raw, .slice ad p.items.length cap]) (by simp [results, Tryd.results80, go_sem, c0, c1, c2, c3, c4, c5]) rfl
      ⟨six_gv hg (Nat.le_refl _) _ _ _ _ _ _, .inr ⟨p, r, _, k, HR.out, rfl, ?_, hk, HK.out, six_lr hr3 (by omega) _ _ _ _ _ _⟩⟩
    refine (HO.out.same ?_).wide (Nat.le_of_lt hs1) (by simp [World.setCell])
    exact (((((V.Same.setCell (by omega)).trans (V.Same.setCell (by omega))).trans (V.Same.setCell (by omega))).trans (V.Same.setCell (by omega))).trans (V.Same.setCell (by omega))).trans (V.Same.setCell (by omega))
end Go.Proofs.YtcgphlilijeifaaDoor.L
end
section
/-
  A list of parts that is being read: what has been appended so far, while the reader's own block turns.
-/
namespace Go.Proofs.YtcgphlilijeifaaDoor.L
open Go.RowKit
open V (Pt)

theorem fit_may {p : Pt} (h : V.mayB p = true) : V.Fit p := by
  have h1 := V.mayB_ok h
  obtain ⟨k0, k1, k2, k3, k4, k5, k6, k7⟩ := canonP h
  refine ⟨by omega, ?_, by have := raw_le h; omega, ?_⟩
  · by_cases h2 : p.kind = 2
    · have := (chk_zero_iff.1 (k5 h2)).1
      rw [size_of] at this
      omega
    · rw [(k2 h2).2]; exact Nat.zero_le _
  · by_cases h7 : p.kind = 7
    · have := k7 h7; omega
    · rw [k3 h7]; exact Nat.zero_le _
theorem fitA_may (p : Pt) : V.mayB p = true → V.FitA p := by
  induction p using Pt.ind with
  | h p ih => exact fun h => .mk p (fit_may h) (fun q hq => ih q hq (V.mayB_item h hq))

theorem Gv.grown6 {b : Nat} {W w w' : World} {v : Value} (h : Gv b W w) (hown : ∀ k, v.ownBlock = some k → W.heap.size ≤ k) (hg : w.grownBy w' v.ownBlock) : Gv b W w' :=
  ⟨hg.os.trans h.os, hg.tape.trans h.tape, hg.output.trans h.output, Nat.le_trans h.size hg.size, fun k hk hb2 => (hg.block k (Nat.lt_of_lt_of_le hk h.size) (fun e => by have := hown k e.symm; omega)).trans (h.block k hk hb2)⟩
theorem kids_snoc {w0 w w' : World} {base g lo hi : Nat} {v : Value} {ps : List (Pt × Value)} {p : Pt} {u : Value} (hu : V.OwnI w false lo hi p.items u) (hf : V.Fit p) (h1 : base ≤ lo) (h2 : hi ≤ w.heap.size) (hlh : lo ≤ hi)
    (hv : ∀ k, v.ownBlock = some k → k < lo) (k0 : V.Kids w0 base v.ownBlock ps) (hw0 : w0.heap.size ≤ lo) (hs0 : w0.heap.size ≤ w.heap.size) (hsm : ∀ lo hi, base ≤ lo → hi ≤ w0.heap.size → V.Same lo hi w0 w)
    (hg : w.grownBy w' v.ownBlock) (hw : v.ownBlock = some g ∨ w.heap.size ≤ g) : V.Kids w' base (some g) (ps ++ [(p, u)]) := by
  obtain ⟨L, H, k1, k2⟩ := k0
  have same : ∀ lo hi, hi ≤ w.heap.size → (∀ k, v.ownBlock = some k → ¬ (lo ≤ k ∧ k < hi)) → V.Same lo hi w w' := fun lo hi a b k c d => hg.block k (by omega) (fun e => b k e.symm ⟨c, d⟩)
  have out : ∀ lo hi, hi ≤ w.heap.size → (∀ k, v.ownBlock = some k → ¬ (lo ≤ k ∧ k < hi)) → ∀ k, some g = some k → ¬ (lo ≤ k ∧ k < hi) := fun lo hi a b k e => by
    have e := Option.some.inj e
    subst e
    rcases hw with e | e
    · exact b _ e
    · omega
  refine ⟨fun j => if j < ps.length then L j else lo, fun j => if j < ps.length then H j else hi, fun j hj => ?_, fun i j hij hj => ?_⟩
  · by_cases hjl : j < ps.length
    · obtain ⟨a, b, c, d, e, f⟩ := k1 j hjl
      have hd : H j ≤ w.heap.size := Nat.le_trans d hs0
      simp only [hjl, if_true]
      rw [List.getElem_append_left hjl]
      exact ⟨(a.same (hsm _ _ b d)).same (same _ _ hd e), b, c, Nat.le_trans hd hg.size, out _ _ hd e, f⟩
    · have hje : j = ps.length := by simp at hj; omega
      subst hje
      have hv2 : ∀ k, v.ownBlock = some k → ¬ (lo ≤ k ∧ k < hi) := fun k hk => by have := hv k hk; omega
      simp only [Nat.lt_irrefl, if_false]
      rw [List.getElem_append_right (Nat.le_refl _)]
      simp only [Nat.sub_self, List.getElem_cons_zero]
      exact ⟨hu.same (same _ _ h2 hv2), h1, hlh, Nat.le_trans h2 hg.size, out _ _ h2 hv2, hf⟩
  · have hj2 : j ≤ ps.length := by simp at hj; omega
    have hi2 : i < ps.length := by omega
    by_cases hjl : j < ps.length
    · simp only [hi2, hjl, if_true]
      exact k2 i j hij hjl
    · simp only [hi2, if_true, hjl, if_false]
      have := (k1 i hi2).2.2.2.1
      omega
theorem own_gv6 {b : Nat} {w w' : World} {base : Nat} {e : TypeId} {v : Value} {n : Nat} {us : List Value} (h : w.ownsRow base e 6 v n us) (hb : b < base) (hm : Gv b w w') : w'.ownsRow base e 6 v n us := by
  refine ⟨h.1, ?_⟩
  rcases h.2 with hn | ⟨g, cap, cur, rfl, hg, hgg, rest⟩
  · exact .inl hn
  · exact .inr ⟨g, cap, cur, rfl, hg, (hm.block g (Array.getElem?_eq_some_iff.1 hgg).1 (by omega)).trans hgg, rest⟩
theorem kids_gv {b base : Nat} {w w' : World} {g : Option Nat} {ps : List (Pt × Value)} (h : V.Kids w base g ps) (hb : b < base) (hm : Gv b w w') : V.Kids w' base g ps := by
  obtain ⟨L, H, h1, h2⟩ := h
  refine ⟨L, H, fun j hj => ?_, h2⟩
  obtain ⟨a, c, d, e, f, i⟩ := h1 j hj
  exact ⟨a.same (hm.same (by omega) e), c, d, Nat.le_trans e hm.size, f, i⟩
/-- What a round leaves. -/
theorem kids_gstep {b : Nat} {w W1 w2 w3 : World} {s : Value} {x : ByteArray} {T g cap k c a : Nat} {iv y : Value} {q : Pt} {ps : List (Pt × Value)} (ob : Obj) (hO1 : W1.ownsRow (T + 1) 27 6 s k (V.flat ps)) (hK1 : V.Kids W1 (T + 1) s.ownBlock ps)
    (hx : V.OwnI w2 false W1.heap.size w2.heap.size q.items iv) (hf : V.Fit q) (hb2 : Gv b W1 w2) (hbT : b < T) (hg : (w2.alloc ob).grownBy w3 s.ownBlock) (hl : s.ownBlock = some g ∨ g = (w2.alloc ob).heap.size)
    (hO3 : w3.ownsRow (T + 1) 27 6 (.slice (some ⟨g, 0, none⟩) (k + 1) cap) (k + 1) (V.flat ps ++ (V.cellsOf q iv).toList)) (hT : T + 1 ≤ W1.heap.size) (hw : w.heap.size ≤ T) (hgw : Gv b w W1) (hr : Lr w2 b x a) :
    (w3.setCell ⟨T, c, none⟩ y).ownsRow (T + 1) 27 6 (.slice (some ⟨g, 0, none⟩) (k + 1) cap) (k + 1) (V.flat (ps ++ [(q, iv)])) ∧ V.Kids (w3.setCell ⟨T, c, none⟩ y) (T + 1) (some g) (ps ++ [(q, iv)]) ∧
      Gv b w (w3.setCell ⟨T, c, none⟩ y) ∧ T + 1 ≤ (w3.setCell ⟨T, c, none⟩ y).heap.size ∧ Lr (w3.setCell ⟨T, c, none⟩ y) b x a := by
  have hba : Gv b W1 (w2.alloc ob) := hb2.alloc ob
  have hown : ∀ k, s.ownBlock = some k → T + 1 ≤ k ∧ k < W1.heap.size := World.ownsRow.lt hO1
  have hsz2 : (w2.alloc ob).heap.size = w2.heap.size + 1 := by simp
  have hxa : V.OwnI (w2.alloc ob) false W1.heap.size w2.heap.size q.items iv := hx.same (V.Same.of_below ((Below.refl w2.heap.size w2).alloc (Nat.le_refl _) ob) (Nat.le_refl _))
  have hsl := hb2.size
  have hK3 := kids_snoc (v := s) (g := g) hxa hf hT (by omega) hsl (fun k hk => (hown k hk).2) hK1 (Nat.le_refl _) (by omega) (fun lo hi h1 h2 k h3 h4 => hba.block k (by omega) (by omega)) hg (by rcases hl with h | h; exact .inl h; exact .inr (Nat.le_of_eq h.symm))
  have hbl : b < w2.heap.size := Blk.lt hr
  refine ⟨?_, ?_, ?_, ?_, ?_⟩
  · rw [V.flat_snoc]
    exact ownsRow_setCell_below hO3 (by simp) y
  · obtain ⟨L, H, k1, k2⟩ := hK3
    refine ⟨L, H, fun j hj => ?_, k2⟩
    obtain ⟨a, b, c2, d, e, f⟩ := k1 j hj
    exact ⟨a.same (fun k x y => Below.heap_setCell _ _ _ _ (by simp; omega)), b, c2, by simpa [World.setCell] using d, e, f⟩
  · exact ((hgw.trans hba).grown6 (fun k hk => by have := hown k hk; omega) hg).setNew hw c y
  · have h1 := hg.size
    have h4 : (w3.setCell ⟨T, c, none⟩ y).heap.size = w3.heap.size := by simp [World.setCell]
    omega
  · exact (Below.heap_setCell _ _ _ _ (by simp; omega)).trans ((hg.block b (by omega) (fun e => by have := hown b e.symm; omega)).trans (hr.alloc ob))
end Go.Proofs.YtcgphlilijeifaaDoor.L
end
section
/-
  The reader of a text: a tuple.
-/
namespace Go.Proofs.YtcgphlilijeifaaDoor.L
open Go.RowKit
open V (Pt)

/-- The tuple that is being made: its place. -/
def Tp (w : World) (T : Nat) (s : Value) : Prop := Blk w T 27 #[.int .u8 7, .bool false, .bool false, .string ⟨#[]⟩, .string ⟨#[]⟩, s]
theorem Tp.cells {w : World} {T : Nat} {s : Value} (h : Tp w T s) : w.cell? ⟨T, 0, none⟩ = some (.int .u8 7) ∧ w.cell? ⟨T, 1, none⟩ = some (.bool false) ∧ w.cell? ⟨T, 2, none⟩ = some (.bool false) ∧ w.cell? ⟨T, 3, none⟩ = some (.string ⟨#[]⟩) ∧ w.cell? ⟨T, 4, none⟩ = some (.string ⟨#[]⟩) ∧
    w.cell? ⟨T, 5, none⟩ = some s ∧ w.frozen? ⟨T, 5, none⟩ = false ∧ T < w.heap.size := ⟨Blk.cell h 0, Blk.cell h 1, Blk.cell h 2, Blk.cell h 3, Blk.cell h 4, Blk.cell h 5, Blk.frozen h 5, Blk.lt h⟩
theorem Tp.set {w : World} {T : Nat} {s : Value} (h : Tp w T s) (u : Value) : Tp (w.setCell ⟨T, 5, none⟩ u) T u := Blk.set_ h 5 u
theorem Tp.later {w w' : World} {T : Nat} {s : Value} (h : Tp w T s) (hb : Below w.heap.size w w') : Tp w' T s := Blk.below h hb (Blk.lt h)
theorem Tp.gv {w w' : World} {T b : Nat} {s : Value} (h : Tp w T s) (hne : T ≠ b) (hb : Gv b w w') : Tp w' T s := hb.blk hne h
theorem Tp.other {w : World} {T b i : Nat} {s v : Value} (h : Tp w T s) (hne : T ≠ b) : Tp (w.setCell ⟨b, i, none⟩ v) T s := (Below.heap_setCell _ _ _ _ hne).trans h

/-- A part that is read. -/
theorem calls_ok {b : Nat} {s : ByteArray} {R : Res Pt} {d : Int} {w : World} {p : Pt} {r : List UInt8} (h : Calls Tryd.prog 80 #[.pointer (some ⟨b, 0, none⟩), .int .i64 d] w (PPost b s R w)) (hR : R = .ok p r) :
    Calls Tryd.prog 80 #[.pointer (some ⟨b, 0, none⟩), .int .i64 d] w fun e w' => Gv b w w' ∧ ∃ a cap k, e = .returned (.agg #[.int .u8 p.kind, .bool p.yes, .bool p.neg, .string p.mag, .string p.raw, .slice a p.items.length cap]) ∧ V.OwnI w' false w.heap.size w'.heap.size p.items (.slice a p.items.length cap) ∧ k ≤ s.size ∧ r = s.toList.drop k ∧ Lr w' b s k := by
  refine h.mono ?_
  rintro e w' ⟨hg, ⟨n, hn, _⟩ | ⟨q, t, v, k, hq, rfl, hO, hk, ht, hL⟩⟩
  · rw [hR] at hn; cases hn
  · rw [hR] at hq
    cases hq
    obtain ⟨a, cap, rfl⟩ := hO.form
    exact ⟨hg, a, cap, k, rfl, hO, hk, ht, hL⟩
theorem calls_bad {b : Nat} {s : ByteArray} {R : Res Pt} {d : Int} {w : World} {n : Nat} (h : Calls Tryd.prog 80 #[.pointer (some ⟨b, 0, none⟩), .int .i64 d] w (PPost b s R w)) (hR : R = .bad n) :
    Calls Tryd.prog 80 #[.pointer (some ⟨b, 0, none⟩), .int .i64 d] w fun e w' => Gv b w w' ∧ e = wrongAt ((s.size - n : Nat) : Int) := by
  refine h.mono ?_
  rintro e w' ⟨hg, ⟨m, hn, rfl⟩ | ⟨q, t, v, k, hq, _⟩⟩
  · rw [hR] at hn; cases hn; exact ⟨hg, rfl⟩
  · rw [hR] at hq; cases hq

/-- A block that stays where a list of the call's own grows. -/
theorem blk_grown {w2 w3 : World} {ob : Obj} {B T k : Nat} {t : TypeId} {cs : Array Value} {v : Value} {us : List Value} (h : Blk w2 B t cs) (hB : B < T) (hO : w2.ownsRow T 27 6 v k us) (hg : (w2.alloc ob).grownBy w3 v.ownBlock) : Blk w3 B t cs :=
  (hg.block B (by have := Blk.lt h; simp; omega) (fun e => by have := (World.ownsRow.lt hO B e.symm).1; omega)).trans ((Below.heap_alloc w2 ob B (Blk.lt h)).trans h)
theorem part_on {m p k : Nat} {s : ByteArray} {q : Pt} {r : List UInt8} (h : partF m (s.toList.drop p) = .ok q r) (hp : p ≤ s.size) (hk : k ≤ s.size) (hr : r = s.toList.drop k) : p ≤ k ∧ (s.size ≤ 65536 → V.mayB q = true) := by
  obtain ⟨h1, _, h3⟩ := part_back m _ _ _ h
  have hl := congrArg List.length h1
  rw [List.length_append, hr, List.length_drop, List.length_drop, size_of] at hl
  exact ⟨by omega, fun hs => h3 (by rw [List.length_drop, size_of]; omega)⟩
theorem map_snoc {ps : List (Pt × Value)} {q : Pt} {v : Value} : (ps ++ [(q, v)]).map Prod.fst = ps.map Prod.fst ++ [q] := by simp

set_option maxRecDepth 100000 in
set_option maxHeartbeats 8000000 in
theorem rtuple_any (m : Nat) (d : Int) (s : ByteArray) (hs : s.size ≤ 65536)
    (ih : ∀ (b a : Nat) (w : World), Lr w b s a → a ≤ s.size → Calls Tryd.prog 80 #[.pointer (some ⟨b, 0, none⟩), .int .i64 d] w (PPost b s (partF m (s.toList.drop a)) w))
    (b a : Nat) (w : World) (hr : Lr w b s a) (ha : a < s.size) :
    Calls Tryd.prog 111 #[.pointer (some ⟨b, 0, none⟩), .int .i64 d] w (PPost b s (openF (partF m) (s.toList.drop (a + 1))) w) := by
  have IH := Lib.hid ih
  have hbl : b < w.heap.size := Blk.lt hr
  clear ih
  have hr0 := (hr.alloc (.cells #[.int .u8 0, .bool false, .bool false, .string ⟨#[]⟩, .string ⟨#[]⟩, .slice none 0 0] 27)).alloc (.cells #[.int .u8 7, .bool false, .bool false, .string ⟨#[]⟩, .string ⟨#[]⟩, .slice none 0 0] 27)
  have c1 := hr0.c1
  have z1 := hr0.z1
  go_enter Tryd.func111, Tryd.ntmps111
  go_wp2_with fail
  clear c1 z1 hr0
  obtain ⟨W0, hW0⟩ : ∃ W0, W0 = ((w.setCell ⟨b, 1, none⟩ (.int .i64 ((a : Int) + 1))).alloc (.cells #[.int .u8 0, .bool false, .bool false, .string ⟨#[]⟩, .string ⟨#[]⟩, .slice none 0 0] 27)).alloc (.cells #[.int .u8 7, .bool false, .bool false, .string ⟨#[]⟩, .string ⟨#[]⟩, .slice none 0 0] 27) := ⟨_, rfl⟩
  obtain ⟨T, hT⟩ : ∃ T, w.heap.size + 1 = T := ⟨_, rfl⟩
  have hr1 : Lr W0 b s (a + 1) := by rw [hW0]; exact ((Lr.setTo hr (by omega)).alloc _).alloc _
  have hg1 : Gv b w W0 := by rw [hW0]; exact (((Gv.refl b w).set_ 1 _).alloc _).alloc _
  have hE1 : Empty27 W0 w.heap.size := by
    have h := (e27_new (w.setCell ⟨b, 1, none⟩ (.int .i64 ((a : Int) + 1)))).later ((Below.refl _ _).alloc (Nat.le_refl _) (.cells #[.int .u8 7, .bool false, .bool false, .string ⟨#[]⟩, .string ⟨#[]⟩, .slice none 0 0] 27))
    rw [hW0]
    simpa [World.setCell] using h
  have hT1 : Tp W0 T (.slice none 0 0) := by
    have h := Blk.new ((w.setCell ⟨b, 1, none⟩ (.int .i64 ((a : Int) + 1))).alloc (.cells #[.int .u8 0, .bool false, .bool false, .string ⟨#[]⟩, .string ⟨#[]⟩, .slice none 0 0] 27)) 27 #[.int .u8 7, .bool false, .bool false, .string ⟨#[]⟩, .string ⟨#[]⟩, .slice none 0 0]
    rw [hW0, ← hT]
    simpa [World.setCell, Tp] using h
  have hs0 : T + 1 ≤ W0.heap.size := Blk.lt hT1
  rw [← hW0, hT]
  clear hW0 hr
  have n1 : b ≠ w.heap.size := by omega
  have n2 : b ≠ T := by omega
  have n3 : w.heap.size ≠ T := by omega
  have n4 : T ≠ w.heap.size := by omega
  have n5 : T ≠ b := by omega
  have n6 : w.heap.size ≠ b := by omega
  by_cases h41 : (s.toList.drop (a + 1)).head? = some 41
  · have hlt : a + 1 < s.size := by
      by_cases h : a + 1 < s.size
      · exact h
      · rw [drop_end s h] at h41; cases h41
    obtain ⟨a1, ha1⟩ : ∃ a1, a + 1 = a1 := ⟨_, rfl⟩
    rw [ha1] at hlt h41 hr1
    have hc : s[a1] = 41 := by rw [drop_cons s hlt] at h41; simpa using h41
    have HR := Lib.hid (show openF (partF m) (s.toList.drop (a + 1)) = .ok (.mk 7 false false ⟨#[]⟩ ⟨#[]⟩ []) (s.toList.drop (a1 + 1)) by rw [ha1, drop2 hlt hc]; exact open_shut _ _)
    have HC := Lib.hid hc
    clear h41 hc
    refine (next_at b s a1 W0 hr1 hlt hs 41 HC.out).mono ?_
    rintro e w1 ⟨rfl, hb1⟩
    have hr2 := hr1.later hb1
    have hE2 := hE1.later hb1
    have hT2 := hT1.later hb1
    have hg2 := hg1.trans (Gv.of_below (b := b) hb1)
    clear hr1 hE1 hT1 hg1 hb1
    have c1 := hr2.c1
    have z1 := hr2.z1
    obtain ⟨t0, t1, t2, t3, t4, t5, tf, tl⟩ := hT2.cells
    obtain ⟨c0', c1', c2', c3', c4', c5', z0', z1', z2', z3', z4', z5', hlt'⟩ := hE2.cells
    have hr3 := Lr.setTo hr2 (a' := a1 + 1) (x := (a1 : Int) + 1) (by omega)
    have hg3 := hg2.set_ 1 (.int .i64 ((a1 : Int) + 1))
    go_wp2_with fail
    exact bodyPost_ret (v := .agg #[.int .u8 7, .bool false, .bool false, .string ⟨#[]⟩, .string ⟨#[]⟩, .slice none 0 0]) (by simp [results, Tryd.results111, go_sem, c0', c1', c2', c3', c4', c5', n1, n6]) rfl
      (ppost_flat HR.out rfl (six_gv hg3 (Nat.le_refl _) _ _ _ _ _ _) (by omega) rfl (six_lr hr3 (by omega) _ _ _ _ _ _))
  · have HH := Lib.hid h41
    clear h41
    have HX : RowKit.Hid ((((nx s (a + 1) : Nat) : Int) == 41) = false) := Lib.hid (by
      by_cases h : a + 1 < s.size
      · rw [nx_lt h]
        have := HH.out
        rw [drop_cons s h] at this
        exact u8_nat (d := 41) rfl (by simpa using this)
      · rw [nx_ge h]; decide)
    refine (next_any b s (a + 1) W0 hr1 (by omega) hs).mono ?_
    rintro e w1 ⟨rfl, hb1⟩
    have q1 := HX.out
    obtain ⟨x, hx⟩ : ∃ x : Int, ((nx s (a + 1) : Nat) : Int) = x := ⟨_, rfl⟩
    rw [hx] at q1 ⊢
    have hr2 := hr1.later hb1
    have hE2 := hE1.later hb1
    have hT2 := hT1.later hb1
    have hg2 := hg1.trans (Gv.of_below (b := b) hb1)
    have hs2 : T + 1 ≤ w1.heap.size := Blk.lt hT2
    clear hr1 hE1 hT1 hg1 hb1 HX hx
    go_wp2_with fail
    go_loopw [6] (fun _ wr => ∃ (k p : Nat) (sv : Value) (ps : List (Pt × Value)), p ≤ s.size ∧ k ≤ 1023 ∧ Lr wr b s p ∧ Gv b w wr ∧ Empty27 wr w.heap.size ∧ Tp wr T sv ∧ wr.ownsRow (T + 1) 27 6 sv k (V.flat ps) ∧
      RowKit.Hid (V.Kids wr (T + 1) sv.ownBlock ps ∧ IS (partF m) (s.toList.drop (a + 1)) (ps.map Prod.fst) (1023 - k) (s.toList.drop p) ∧ ps.length = k)) (fun _ wr => s.size - posOf wr b)
    case atStart => exact ⟨0, a + 1, .slice none 0 0, [], by omega, by omega, hr2, hg2, hE2, hT2, World.ownsRow_nil _ _ _ _, Lib.hid ⟨V.Kids.nil _ _ _, IS.start _ _, rfl⟩⟩
    case round =>
      clear hr2 hE2 hT2 hg2 hs2
      obtain ⟨k, p, sv, ps, hp, hk, hr, hg, hE, hTp, hO, HK⟩ := hrel
      have PR := Lib.hid (posOf_lr hr)
      have hsT : T + 1 ≤ wr.heap.size := Blk.lt hTp
      obtain ⟨R, hR⟩ : ∃ R, partF m (s.toList.drop p) = R := ⟨_, rfl⟩
      obtain ⟨t0, t1, t2, t3, t4, t5, tf, tl⟩ := hTp.cells
      cases R with
      | bad n =>
        have HB := Lib.hid (show ∀ w : World, Lr w b s p → Calls Tryd.prog 80 #[.pointer (some ⟨b, 0, none⟩), .int .i64 d] w fun e w' => Gv b w w' ∧ e = wrongAt ((s.size - n : Nat) : Int) from fun w h => calls_bad (IH.out b p w h hp) hR)
        have HN := Lib.hid (show openF (partF m) (s.toList.drop (a + 1)) = .bad n from open_bad HH.out (HK.out.2.1.bad hR))
        clear hR
        go_wp2_with fail
        refine wp_region_any (by kernel_rfl) ?_
        try (change wpAny _ _ _ _ _ _ _ (World.drew _))
        refine wpAny_take (i := 0) (v := ?v0) rfl (by kernel_rfl) (by kernel_rfl) (by kernel_rfl) (fun _ _ _ h => h) (Or.inl ⟨by rfl, ?hy0⟩) ?rest0
        case hy0 => (intro w; go_simp; try with_reducible rfl)
        refine wpAny_take (i := 2) (v := ?v2) rfl (by kernel_rfl) (by kernel_rfl) (by kernel_rfl) (fun _ _ _ h => h) (Or.inl ⟨by rfl, ?hy2⟩) ?rest2
        case hy2 => (intro w; go_simp; try with_reducible rfl)
        refine wpAny_take (i := 3) (v := ?v3) rfl (by kernel_rfl) (by kernel_rfl) (by kernel_rfl) (fun _ _ _ h => h) (Or.inl ⟨by rfl, ?hy3⟩) ?rest3
        case hy3 => (intro w; go_simp; try with_reducible rfl)
        refine wpAny_ready (rs := [1, 4]) (by kernel_rfl) (by simp) ?_
        refine AllReady.cons rfl (fun K hK => ?_) ?_
        · go_simp
          refine hK _ _ ?_
          clear hK K
          refine wpAny_ready (rs := [4]) (by kernel_rfl) (by simp) ?_
          refine AllReady.cons rfl (fun K hK => ?_) AllReady.nil
          go_simp
          refine (HB.out _ (by exact hr)).mono ?_
          rintro e w2 ⟨hg2, he⟩
          unfold wrongAt at he
          subst he
          exact ⟨rfl, hg.trans hg2.undrew, .inl ⟨n, HN.out, rfl⟩⟩
        · refine AllReady.cons rfl (fun K hK => ?_) AllReady.nil
          go_simp
          refine (HB.out _ (by exact hr)).mono ?_
          rintro e w2 ⟨hg2, he⟩
          unfold wrongAt at he
          subst he
          exact ⟨rfl, hg.trans hg2.undrew, .inl ⟨n, HN.out, rfl⟩⟩
      | ok q r =>
        have HB := Lib.hid (fun (w : World) (h : Lr w b s p) => calls_ok (IH.out b p w h hp) hR)
        have HRq := Lib.hid hR
        have hWa : T < T + 1 := Nat.lt_succ_self T
        clear hR
        go_wp2_with fail
        obtain ⟨i0, hi, hz0, hz1, hz2⟩ := info_parts V.infoP
        go_region_law (first
          | (go_simp; go_at_call 80; refine (HB.out _ (by exact hr)).mono ?_; rintro e w2 ⟨hg0, a2, cap2, p2, rfl, hx, hp2, hrr, hL2⟩; have hg2 := hg0.undrew; have hx2 := Lib.hid hx; have hL3 := Lib.hid hL2; have hp3 := Lib.hid (And.intro hp2 hrr); have hO2 := own_gv6 hO (by omega) hg2; have hT2 := hTp.gv n5 hg2; have s5 : w2.cell? ⟨T, 5, none⟩ = some sv := hT2.cell 5; have f5 : w2.frozen? ⟨T, 5, none⟩ = false := hT2.frozen 5; have hWm : T < w2.heap.size := Blk.lt hT2; clear hx hL2 hp2 hrr hg0)
          | (refine step_append_lies _ rfl (.tmp 27) (.tmp 31) 25 rfl (T + 1) 27 i0 _ 6 72 Tryd.underlying25 hi hz0 hz1 hz2 rfl (by decide) sv k (V.flat ps) (by simp [Act.eval, Act.put]) (hO2.alloc _) ⟨w2.heap.size, 0, none⟩ 1 1 (V.cellsOf q (.slice a2 q.items.length cap2)).toList (by simp [Act.eval, Act.put]) rfl (V.six_cells w2 _ _ rfl) (by intro y hy; simp [V.cellsOf] at hy; rcases hy with rfl | rfl | rfl | rfl | rfl | rfl <;> rfl) (by decide) (by unfold maxLen; omega) (by omega) (by simp; omega) _ rfl ?_; intro g cap3 w3 hO3 hg3 hlies hgl; have s3 := V.own_cell6 hO2 hg3 hWa s5; have f3 := V.own_frozen6 hO2 hg3 hWa hWm f5))
        all_goals
          have hpo := part_on HRq.out hp hp3.out.1 hp3.out.2
          have hfq := fit_may (hpo.2 hs)
          have hpp := hpo.1
          have hp2 := hp3.out.1
          have HRr := Lib.hid (HRq.out.trans (by rw [hp3.out.2]))
          clear hpo
          go_wp2_with fail
          have ST := kids_gstep (b := b) (c := 5) (w := w) (x := s) (a := p2) (T := T) _ hO HK.out.1 hx2.out hfq hg2 (by omega) hg3 hlies hO3 hsT (by omega) hg hL3.out (y := .slice (some ⟨g, 0, none⟩) (k + 1) cap3)
          have hE3 := blk_grown (T := T + 1) (hE.gv n6 hg2) (by omega) hO2 hg3
          have hT3 := blk_grown (T := T + 1) hT2 (by omega) hO2 hg3
          obtain ⟨W4, hW4⟩ : ∃ W4, W4 = w3.setCell ⟨T, 5, none⟩ (.slice (some ⟨g, 0, none⟩) (k + 1) cap3) := ⟨_, rfl⟩
          have hE4 : Empty27 W4 w.heap.size := by rw [hW4]; exact Empty27.set hE3 n3
          have hT4 : Tp W4 T (.slice (some ⟨g, 0, none⟩) (k + 1) cap3) := by rw [hW4]; exact Tp.set hT3 _
          rw [← hW4] at ST ⊢
          obtain ⟨hO4, hK4', hg4, hs4, hr4⟩ := ST
          have hK4 := Lib.hid hK4'
          have HI := Lib.hid HK.out.2.1
          have HL := Lib.hid HK.out.2.2
          clear hW4 hE3 hT3 hK4' hO3 hg3 hlies hgl s3 f3 s5 f5 hWm hT2 hO2 hL3 hx2 hg2 HK hO hr hg hE hTp t0 t1 t2 t3 t4 t5 tf tl hi hz0 hz1 hz2 hfq HRq hp3 hsT
          by_cases hlt : p2 < s.size
          · obtain ⟨c, hc⟩ : ∃ c, s[p2] = c := ⟨_, rfl⟩
            have HC := Lib.hid hc
            have HRc := Lib.hid (HRr.out.trans (by rw [drop2 hlt hc]))
            clear hc
            by_cases h1 : c = 41
            · subst h1
              have HN := Lib.hid (open_ok HH.out (HI.out.close HRc.out))
              clear HRr HRc
              refine (next_at b s p2 W4 hr4 hlt hs 41 HC.out).mono ?_
              rintro e w5 ⟨rfl, hb5⟩
              have hr5 := hr4.later hb5
              have hE5 := hE4.later hb5
              have hT5 := hT4.later hb5
              have hO5 := V.own_below6 hO4 hb5
              have hK5 := Lib.hid (hK4.out.below hb5)
              have hg5 := hg4.trans (Gv.of_below (b := b) hb5)
              clear hr4 hE4 hT4 hO4 hK4 hg4 hb5
              have c1 := hr5.c1
              have z1 := hr5.z1
              obtain ⟨t0, t1, t2, t3, t4, t5, tf, tl⟩ := hT5.cells
              obtain ⟨c0', c1', c2', c3', c4', c5', z0', z1', z2', z3', z4', z5', hlt'⟩ := hE5.cells
              have hr6 := Lr.setTo hr5 (a' := p2 + 1) (x := (p2 : Int) + 1) (by omega)
              have hg6 := hg5.set_ 1 (.int .i64 ((p2 : Int) + 1))
              have hlen : ((ps ++ [(q, Value.slice a2 q.items.length cap2)]).map Prod.fst).length = k + 1 := by simp [HL.out]
              have hown := Lib.hid (V.kids_own rfl (by rw [hlen]; exact hO5) hK5.out)
              clear hr5 hg5 hO5 hK5
              go_wp2_with fail
              refine bodyPost_ret (v := .agg #[.int .u8 7, .bool false, .bool false, .string ⟨#[]⟩, .string ⟨#[]⟩, .slice (some ⟨g, 0, none⟩) (k + 1) cap3]) (by simp [results, Tryd.results111, go_sem, c0', c1', c2', c3', c4', c5', n1, n6]) rfl
                ⟨six_gv hg6 (Nat.le_refl _) _ _ _ _ _ _, .inr ⟨.mk 7 false false ⟨#[]⟩ ⟨#[]⟩ (ps.map Prod.fst ++ [q]), s.toList.drop (p2 + 1), .slice (some ⟨g, 0, none⟩) (k + 1) cap3, p2 + 1, HN.out, rfl, ?_, by omega, rfl, six_lr hr6 n1 _ _ _ _ _ _⟩⟩
              have h := hown.out
              rw [map_snoc] at h
              exact (h.same (((((((V.Same.setCell (by omega)).trans (V.Same.setCell (by omega))).trans (V.Same.setCell (by omega))).trans (V.Same.setCell (by omega))).trans (V.Same.setCell (by omega))).trans (V.Same.setCell (by omega))).trans (V.Same.setCell (by omega)))).wide (by omega) (by simp [World.setCell])
            by_cases h2 : c = 32
            · subst h2
              have e1 : (((32 : UInt8).toNat : Int) == 41) = false := by decide
              have e2 : (((32 : UInt8).toNat : Int) != 32) = false := by decide
              by_cases hk2 : k < 1023
              · have e3 : ((k : Int) + 1 == 1024) = false := by simp; omega
                have HN := Lib.hid (show IS (partF m) (s.toList.drop (a + 1)) ((ps ++ [(q, Value.slice a2 q.items.length cap2)]).map Prod.fst) (1023 - (k + 1)) (s.toList.drop (p2 + 1)) by
                  have h := HI.out
                  rw [show 1023 - k = (1023 - (k + 1)) + 1 by omega] at h
                  rw [map_snoc]
                  exact h.next HRc.out)
                clear HRr HRc HI
                refine (next_at b s p2 W4 hr4 hlt hs 32 HC.out).mono ?_
                rintro e w5 ⟨rfl, hb5⟩
                have hr5 := hr4.later hb5
                have hE5 := hE4.later hb5
                have hT5 := hT4.later hb5
                have hO5 := V.own_below6 hO4 hb5
                have hK5 := Lib.hid (hK4.out.below hb5)
                have hg5 := hg4.trans (Gv.of_below (b := b) hb5)
                clear hr4 hE4 hT4 hO4 hK4 hg4 hb5
                have c1 := hr5.c1
                have z1 := hr5.z1
                obtain ⟨t0, t1, t2, t3, t4, t5, tf, tl⟩ := hT5.cells
                have hr6 := Lr.setTo hr5 (a' := p2 + 1) (x := (p2 : Int) + 1) (by omega)
                have hg6 := hg5.set_ 1 (.int .i64 ((p2 : Int) + 1))
                go_wp2_with (at_builtin; refine wpList_len rfl (.tmp 52) 25 rfl slice25 rfl ?_)
                refine ⟨⟨k + 1, p2 + 1, _, ps ++ [(q, Value.slice a2 q.items.length cap2)], by omega, by omega, hr6, hg6, Empty27.set hE5 n6, Tp.other hT5 n5, own_gv6 hO5 (by omega) ((Gv.refl b w5).set_ 1 _), Lib.hid ⟨kids_gv hK5.out (by omega) ((Gv.refl b w5).set_ 1 _), HN.out, by simp [HL.out]⟩⟩, ?_⟩
                rw [posOf_lr hr6, PR.out]
                omega
              · have e3 : ((k : Int) + 1 == 1024) = true := by simp; omega
                have HN := Lib.hid (open_bad HH.out (IS.full (by have h := HI.out; rw [show 1023 - k = 0 by omega] at h; exact h) HRc.out))
                clear HRr HRc HI
                refine (next_at b s p2 W4 hr4 hlt hs 32 HC.out).mono ?_
                rintro e w5 ⟨rfl, hb5⟩
                have hr5 := hr4.later hb5
                have hE5 := hE4.later hb5
                have hT5 := hT4.later hb5
                have hO5 := V.own_below6 hO4 hb5
                have hK5 := Lib.hid (hK4.out.below hb5)
                have hg5 := hg4.trans (Gv.of_below (b := b) hb5)
                clear hr4 hE4 hT4 hO4 hK4 hg4 hb5
                have c1 := hr5.c1
                have z1 := hr5.z1
                obtain ⟨t0, t1, t2, t3, t4, t5, tf, tl⟩ := hT5.cells
                go_wp2_with (at_builtin; refine wpList_len rfl (.tmp 52) 25 rfl slice25 rfl ?_)
                exact ⟨rfl, ppost_bad HN.out hg5 (by rw [List.length_drop, size_of]; omega)⟩
            · have e1 : ((c.toNat : Int) == 41) = false := u8_nat (d := 41) rfl h1
              have e2 : ((c.toNat : Int) != 32) = true := by have h := u8_nat (d := 32) rfl h2; simpa using h
              have HN := Lib.hid (open_bad HH.out (HI.out.odd HRc.out h1 h2))
              clear HRr HRc HI h1 h2
              refine (next_at b s p2 W4 hr4 hlt hs c HC.out).mono ?_
              rintro e w5 ⟨rfl, hb5⟩
              have hr5 := hr4.later hb5
              have hE5 := hE4.later hb5
              have hT5 := hT4.later hb5
              have hO5 := V.own_below6 hO4 hb5
              have hK5 := Lib.hid (hK4.out.below hb5)
              have hg5 := hg4.trans (Gv.of_below (b := b) hb5)
              clear hr4 hE4 hT4 hO4 hK4 hg4 hb5
              have c1 := hr5.c1
              have z1 := hr5.z1
              obtain ⟨t0, t1, t2, t3, t4, t5, tf, tl⟩ := hT5.cells
              go_wp2_with fail
              exact ⟨rfl, ppost_bad HN.out hg5 (by rw [List.length_drop, size_of]; omega)⟩
          · have HN := Lib.hid (open_bad HH.out (HI.out.stop (HRr.out.trans (by rw [drop_end s hlt]))))
            clear HRr HI
            refine (next_end b s p2 W4 hr4 (by omega) hs).mono ?_
            rintro e w5 ⟨rfl, hb5⟩
            have hr5 := hr4.later hb5
            have hE5 := hE4.later hb5
            have hT5 := hT4.later hb5
            have hO5 := V.own_below6 hO4 hb5
            have hK5 := Lib.hid (hK4.out.below hb5)
            have hg5 := hg4.trans (Gv.of_below (b := b) hb5)
            clear hr4 hE4 hT4 hO4 hK4 hg4 hb5
            have c1 := hr5.c1
            have z1 := hr5.z1
            obtain ⟨t0, t1, t2, t3, t4, t5, tf, tl⟩ := hT5.cells
            go_wp2_with fail
            exact ⟨rfl, ppost_bad HN.out hg5 (by omega)⟩
end Go.Proofs.YtcgphlilijeifaaDoor.L
end
