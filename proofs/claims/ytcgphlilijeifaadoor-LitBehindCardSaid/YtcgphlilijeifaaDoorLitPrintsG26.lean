import Derived.BigQuiet
import Derived.BigRegion
import Derived.Deep.RegionHeld3
import Derived.Test.YtcgphlilijeifaaDoorLitPrintsG23
import Derived.Test.YtcgphlilijeifaaDoorLitPrintsG0
section
/-
  The reader's contracts: must, next.
-/
namespace Go.Proofs.YtcgphlilijeifaaDoor
open Go.RowKit

/-- The panic at a place. -/
def badAt (a : Int) : Ending := .panicked [{ v := .iface 116 (.agg #[.int .i64 a]), recovered := false }]

theorem must_yes (a : Int) (w : World) : Calls Tryd.prog 61 #[.bool true, .int .i64 a] w fun e w' => e = .returned (.tuple #[]) ∧ w = w' := by
  have hnot : ∀ (x : Bool) (w : World), (Op.unary .not (.bool x)).run Tryd.prog w = .ok (.bool (!x)) w := fun _ _ => rfl
  go_enter Tryd.func61, Tryd.ntmps61
  go_wp2
  go_end0
  exact ⟨rfl, rfl⟩
theorem must_no (a : Int) (w : World) : Calls Tryd.prog 61 #[.bool false, .int .i64 a] w fun e w' => e = badAt a ∧ w = w' := by
  have hnot : ∀ (x : Bool) (w : World), (Op.unary .not (.bool x)).run Tryd.prog w = .ok (.bool (!x)) w := fun _ _ => rfl
  go_enter Tryd.func61, Tryd.ntmps61
  go_wp2
  exact ⟨rfl, rfl, rfl⟩

/-- Nothing but one block may differ. -/
structure Mv (b : Nat) (w w' : World) : Prop where
  os : w'.os = w.os
  tape : w'.tape = w.tape
  output : w'.output = w.output
  size : w.heap.size ≤ w'.heap.size
  block : ∀ k, k ≠ b → w'.heap[k]? = w.heap[k]?
theorem Mv.refl (b : Nat) (w : World) : Mv b w w := ⟨rfl, rfl, rfl, Nat.le_refl _, fun _ _ => rfl⟩
theorem Mv.drew {b : Nat} {w w' : World} (h : Mv b w w') : Mv b w w'.drew := ⟨h.os, h.tape, h.output, h.size, h.block⟩
theorem Mv.drewN {b : Nat} {w w' : World} (h : Mv b w w') (n : Nat) : Mv b w (w'.drewN n) := ⟨h.os, h.tape, h.output, h.size, h.block⟩
theorem Mv.trans {b : Nat} {w w' w'' : World} (h : Mv b w w') (k : Mv b w' w'') : Mv b w w'' :=
  ⟨k.os.trans h.os, k.tape.trans h.tape, k.output.trans h.output, Nat.le_trans h.size k.size, fun q hq => (k.block q hq).trans (h.block q hq)⟩
theorem Mv.set_ {b : Nat} {w w' : World} (h : Mv b w w') (i : Nat) (v : Value) : Mv b w (w'.setCell ⟨b, i, none⟩ v) :=
  ⟨h.os, h.tape, h.output, by simpa [World.setCell] using h.size, fun q hq => by rw [Below.heap_setCell _ _ _ _ hq]; exact h.block q hq⟩
theorem Mv.below {b B : Nat} {w w' : World} (h : Mv b w w') (hB : B ≤ b) : Below B w w' := ⟨h.os, h.tape, h.output, h.size, fun k hk => h.block k (by omega)⟩
theorem OwnB.mv {w w' : World} {base b : Nat} {v : Value} {l : List UInt8} (h : OwnB w base v l) (hb : b < base) (hm : Mv b w w') : OwnB w' base v l := by
  refine ⟨h.1, ?_⟩
  rcases h.2 with hn | ⟨g, cap, cur, rfl, hg, hgg, rest⟩
  · exact .inl hn
  · exact .inr ⟨g, cap, cur, rfl, hg, (hm.block g (by omega)).trans hgg, rest⟩

/-- The reader: its text and place. -/
def Rd (w : World) (b : Nat) (s : ByteArray) (a : Nat) : Prop := Blk w b 120 #[.string s, .int .i64 a]
theorem Rd.step {w : World} {b : Nat} {s : ByteArray} {a : Nat} (h : Rd w b s a) (x : Int) (hx : x = ((a + 1 : Nat) : Int)) :
    Rd (w.setCell ⟨b, 1, none⟩ (.int .i64 x)) b s (a + 1) := by
  subst hx
  exact Blk.set_ h 1 _
theorem Rd.drew {w : World} {b : Nat} {s : ByteArray} {a : Nat} (h : Rd w b s a) : Rd w.drew b s a := h

theorem next_ok (b : Nat) (s : ByteArray) (a : Nat) (w : World) (hr : Rd w b s a) (ha : a < s.size) (hs : s.size ≤ 9223372036854775807) :
    Calls Tryd.prog 60 #[.pointer (some ⟨b, 0, none⟩)] w fun e w' => e = .returned (.int .u8 (s[a].toNat : Int)) ∧ Rd w' b s (a + 1) ∧ Mv b w w' := by
  have c0 : w.cell? ⟨b, 0, none⟩ = some (.string s) := hr.cell 0
  have c1 : w.cell? ⟨b, 1, none⟩ = some (.int .i64 (a : Int)) := hr.cell 1
  have z1 : w.frozen? ⟨b, 1, none⟩ = false := hr.frozen 1
  have hlt : decide ((a : Int) < (s.size : Int)) = true := by simpa using ha
  go_enter Tryd.func60, Tryd.ntmps60
  go_wp2_with (go_quiet (exact (must_yes _ _).mono fun _ _ ⟨h1, h2⟩ => ⟨h1, _, h2.symm⟩))
  go_ret
  exact ⟨rfl, Rd.step (show Rd (w.drewN _) b s a from hr) _ (by omega), (((Mv.refl b w).drewN _).set_ 1 _).drewN _⟩

theorem next_no (b : Nat) (s : ByteArray) (w : World) (hr : Rd w b s s.size) (_hs : s.size ≤ 9223372036854775807) :
    Calls Tryd.prog 60 #[.pointer (some ⟨b, 0, none⟩)] w fun e w' => e = badAt s.size ∧ Mv b w w' := by
  have c0 : w.cell? ⟨b, 0, none⟩ = some (.string s) := hr.cell 0
  have c1 : w.cell? ⟨b, 1, none⟩ = some (.int .i64 (s.size : Int)) := hr.cell 1
  have hlt : decide ((s.size : Int) < (s.size : Int)) = false := by simp
  go_enter Tryd.func60, Tryd.ntmps60
  go_wp2_with fail
  refine wp_region_held_drew (S := fun w' => w'.cell? ⟨b, 0, none⟩ = some (.string s) ∧ w'.cell? ⟨b, 1, none⟩ = some (.int .i64 (s.size : Int)) ∧ w'.heap = w.heap) (by kernel_rfl) ⟨c0, c1, rfl⟩ (fun hHeld => ?_)
  refine wpAnyH_take (i := 0) (v := ?v0) rfl (by kernel_rfl) (by kernel_rfl) (by kernel_rfl) (fun _ _ _ h => h) (Or.inl ⟨by rfl, ?hy0⟩) (by assumption) ?rest0
  case hy0 => (intro w hSw; obtain ⟨hc0, hc1, hh⟩ := hSw; go_simp; try with_reducible rfl)
  simp [Act.put]
  refine wpAnyH_take (i := 1) (v := ?v1) rfl (by kernel_rfl) (by kernel_rfl) (by kernel_rfl) (fun _ _ _ h => h) (Or.inl ⟨by rfl, ?hy1⟩) (by assumption) ?rest1
  case hy1 => (intro w hSw; obtain ⟨hc0, hc1, hh⟩ := hSw; go_simp; try with_reducible rfl)
  simp [Act.put]
  refine wpAnyH_take (i := 2) (v := ?v2) rfl (by kernel_rfl) (by kernel_rfl) (by kernel_rfl) (fun _ _ _ h => h) (Or.inl ⟨by rfl, ?hy2⟩) (by assumption) ?rest2
  case hy2 => (intro w hSw; obtain ⟨hc0, hc1, hh⟩ := hSw; go_simp; try with_reducible rfl)
  simp [Act.put]
  refine wpAnyH_take (i := 3) (v := ?v3) rfl (by kernel_rfl) (by kernel_rfl) (by kernel_rfl) (fun _ _ _ h => h) (Or.inl ⟨by rfl, ?hy3⟩) (by assumption) ?rest3
  case hy3 => (intro w hSw; obtain ⟨hc0, hc1, hh⟩ := hSw; go_simp; try with_reducible rfl)
  simp [Act.put]
  refine wpAnyH_take (i := 4) (v := ?v4) rfl (by kernel_rfl) (by kernel_rfl) (by kernel_rfl) (fun _ _ _ h => h) (Or.inl ⟨by rfl, ?hy4⟩) (by assumption) ?rest4
  case hy4 => (intro w hSw; obtain ⟨hc0, hc1, hh⟩ := hSw; go_simp; try with_reducible rfl)
  simp [Act.put]
  refine wpAnyH_take (i := 5) (v := ?v5) rfl (by kernel_rfl) (by kernel_rfl) (by kernel_rfl) (fun _ _ _ h => h) (Or.inl ⟨by rfl, ?hy5⟩) (by assumption) ?rest5
  case hy5 => (intro w hSw; obtain ⟨hc0, hc1, hh⟩ := hSw; go_simp; try with_reducible rfl)
  simp [Act.put]
  refine wpAnyH_take (i := 6) (v := ?v6) rfl (by kernel_rfl) (by kernel_rfl) (by kernel_rfl) (fun _ _ _ h => h) (Or.inl ⟨by rfl, ?hy6⟩) (by assumption) ?rest6
  case hy6 => (intro w hSw; obtain ⟨hc0, hc1, hh⟩ := hSw; go_simp; try with_reducible rfl)
  simp [Act.put]
  refine wpAnyH_take (i := 7) (v := ?v7) rfl (by kernel_rfl) (by kernel_rfl) (by kernel_rfl) (fun _ _ _ h => h) (Or.inl ⟨by rfl, ?hy7⟩) (by assumption) ?rest7
  case hy7 => (intro w hSw; obtain ⟨hc0, hc1, hh⟩ := hSw; go_simp; try with_reducible rfl)
  simp [Act.put]
  refine wpAnyH_take (i := 8) (v := ?v8) rfl (by kernel_rfl) (by kernel_rfl) (by kernel_rfl) (fun _ _ _ h => h) (Or.inl ⟨by rfl, ?hy8⟩) (by assumption) ?rest8
  case hy8 => (intro w hSw; obtain ⟨hc0, hc1, hh⟩ := hSw; go_simp; try with_reducible rfl)
  simp [Act.put]
  refine wpAnyH_take (i := 9) (v := ?v9) rfl (by kernel_rfl) (by kernel_rfl) (by kernel_rfl) (fun _ _ _ h => h) (Or.inl ⟨by rfl, ?hy9⟩) (by assumption) ?rest9
  case hy9 => (intro w hSw; obtain ⟨hc0, hc1, hh⟩ := hSw; go_simp; try with_reducible rfl)
  simp [Act.put]
  refine wpAnyH_take (i := 10) (v := ?v10) rfl (by kernel_rfl) (by kernel_rfl) (by kernel_rfl) (fun _ _ _ h => h) (Or.inl ⟨by rfl, ?hy10⟩) (by assumption) ?rest10
  case hy10 => (intro w hSw; obtain ⟨hc0, hc1, hh⟩ := hSw; go_simp; try with_reducible rfl)
  simp [Act.put]
  refine wpAnyH_take (i := 11) (v := ?v11) rfl (by kernel_rfl) (by kernel_rfl) (by kernel_rfl) (fun _ _ _ h => h) (Or.inl ⟨by rfl, ?hy11⟩) (by assumption) ?rest11
  case hy11 => (intro w hSw; obtain ⟨hc0, hc1, hh⟩ := hSw; go_simp; try with_reducible rfl)
  simp [Act.put]
  refine wpAnyH_take (i := 12) (v := ?v12) rfl (by kernel_rfl) (by kernel_rfl) (by kernel_rfl) (fun _ _ _ h => h) (Or.inl ⟨by rfl, ?hy12⟩) (by assumption) ?rest12
  case hy12 => (intro w hSw; obtain ⟨hc0, hc1, hh⟩ := hSw; go_simp; try with_reducible rfl)
  simp [Act.put]
  refine wpAnyH_take (i := 13) (v := ?v13) rfl (by kernel_rfl) (by kernel_rfl) (by kernel_rfl) (fun _ _ _ h => h) (Or.inl ⟨by rfl, ?hy13⟩) (by assumption) ?rest13
  case hy13 => (intro w hSw; obtain ⟨hc0, hc1, hh⟩ := hSw; go_simp; try with_reducible rfl)
  simp [Act.put]
  refine wpAnyH_take (i := 14) (v := ?v14) rfl (by kernel_rfl) (by kernel_rfl) (by kernel_rfl) (fun _ _ _ h => h) (Or.inl ⟨by rfl, ?hy14⟩) (by assumption) ?rest14
  case hy14 => (intro w hSw; obtain ⟨hc0, hc1, hh⟩ := hSw; go_simp; try with_reducible rfl)
  simp [Act.put]
  refine wpAnyH_ready (rs := [15]) (by kernel_rfl) (by simp) ?_
  refine AllReadyH.cons rfl (fun K hK => ?_) AllReadyH.nil
  go_simp
  refine (must_no _ _).mono ?_
  rintro e w1 ⟨rfl, rfl⟩
  exact ⟨rfl, rfl, (Mv.refl b w).drew⟩
end Go.Proofs.YtcgphlilijeifaaDoor
end
section
/-
  The contract of the reader's size: how many bytes the magnitude has, and the sign.
-/
namespace Go.Proofs.YtcgphlilijeifaaDoor
open Go.RowKit

/-- What size tells. -/
def SizePost (b : Nat) (s : ByteArray) (a : Nat) (w : World) (e : Ending) (w' : World) : Prop :=
  match sizeE s.toList a with
  | .error p => e = badAt p ∧ Mv b w w'
  | .ok (k, below, f) => e = .returned (.tuple #[.int .i64 k, .bool below]) ∧ Rd w' b s f ∧ Mv b w w'

theorem at_some (s : ByteArray) (a : Nat) (h : a < s.size) : s.toList[a]? = some s[a] := by
  rw [Lib.toList_data, List.getElem?_eq_getElem (by simpa using h)]
  rfl
theorem at_none (s : ByteArray) (a : Nat) (h : ¬ a < s.size) : s.toList[a]? = none :=
  List.getElem?_eq_none (by rw [size_of]; omega)
theorem post_bad {b : Nat} {s : ByteArray} {a : Nat} {w w' : World} {p : Nat} {x : Int} (h : sizeE s.toList a = .error p) (hx : x = p) (hm : Mv b w w') : SizePost b s a w (badAt x) w' := by
  unfold SizePost
  rw [h, hx]
  exact ⟨rfl, hm⟩
theorem post_good {b : Nat} {s : ByteArray} {a : Nat} {w w' : World} {k f : Nat} {below : Bool} {x : Int} (h : sizeE s.toList a = .ok (k, below, f)) (hx : x = k) (hr : Rd w' b s f) (hm : Mv b w w') :
    SizePost b s a w (.returned (.tuple #[.int .i64 x, .bool below])) w' := by
  unfold SizePost
  rw [h, hx]
  exact ⟨rfl, hr, hm⟩

set_option maxHeartbeats 1000000 in
theorem size_any (b : Nat) (s : ByteArray) (a : Nat) (w : World) (hr : Rd w b s a) (ha : a ≤ s.size) (hs : s.size ≤ 9223372036854775807) :
    Calls Tryd.prog 59 #[.pointer (some ⟨b, 0, none⟩)] w (SizePost b s a w) := by
  by_cases h0 : a < s.size
  · have E0 := at_some s a h0
    have hb := s[a].toNat_lt
    by_cases hff : s[a].toNat = 255
    · have q1 : ((s[a].toNat : Int) == 255) = true := by simp [hff]
      by_cases h1 : a + 1 < s.size
      · have E1 := at_some s (a + 1) h1
        have hn := s[a + 1].toNat_lt
        by_cases hg : 126 < s[a + 1].toNat
        · have q2 : decide ((126 : Int) < (s[a + 1].toNat : Int)) = true := by simp; omega
          have hE := Lib.hid (show sizeE s.toList a = .ok (s[a + 1].toNat, false, a + 2) by simp [sizeE, E0, E1, hff, hg])
          clear E0 E1 hff hg
          go_enter Tryd.func59, Tryd.ntmps59
          go_wp2_with fail
          refine (next_ok b s a _ hr h0 hs).mono ?_
          rintro e w1 ⟨rfl, hr1, hm1⟩
          go_wp2_with fail
          refine (next_ok b s (a + 1) _ hr1 h1 hs).mono ?_
          rintro e w2 ⟨rfl, hr2, hm2⟩
          have c1 : w2.cell? ⟨b, 1, none⟩ = some (.int .i64 ((a + 1 + 1 : Nat) : Int)) := hr2.cell 1
          go_wp2_with fail
          refine (must_yes _ _).mono ?_
          rintro e w3 ⟨rfl, rfl⟩
          go_wp2
          go_ret2
          exact post_good hE.out rfl hr2 (hm1.trans hm2)
        · have q2 : decide ((126 : Int) < (s[a + 1].toNat : Int)) = false := by simp; omega
          have hE := Lib.hid (show sizeE s.toList a = .error (a + 1) by simp [sizeE, E0, E1, hff, hg])
          clear E0 E1 hff hg
          go_enter Tryd.func59, Tryd.ntmps59
          go_wp2_with fail
          refine (next_ok b s a _ hr h0 hs).mono ?_
          rintro e w1 ⟨rfl, hr1, hm1⟩
          go_wp2_with fail
          refine (next_ok b s (a + 1) _ hr1 h1 hs).mono ?_
          rintro e w2 ⟨rfl, hr2, hm2⟩
          have c1 : w2.cell? ⟨b, 1, none⟩ = some (.int .i64 ((a + 1 + 1 : Nat) : Int)) := hr2.cell 1
          go_wp2_with fail
          refine (must_no _ _).mono ?_
          rintro e w3 ⟨rfl, rfl⟩
          exact ⟨rfl, post_bad hE.out (by omega) (hm1.trans hm2)⟩
      · have hE := Lib.hid (show sizeE s.toList a = .error s.toList.length by simp [sizeE, E0, at_none s (a + 1) h1, hff])
        have hsz : s.size = a + 1 := by omega
        clear E0 hff
        go_enter Tryd.func59, Tryd.ntmps59
        go_wp2_with fail
        refine (next_ok b s a _ hr h0 hs).mono ?_
        rintro e w1 ⟨rfl, hr1, hm1⟩
        rw [← hsz] at hr1
        go_wp2_with fail
        refine (next_no b s _ hr1 hs).mono ?_
        rintro e w2 ⟨rfl, hm2⟩
        exact ⟨rfl, post_bad hE.out (by rw [size_of]) (hm1.trans hm2)⟩
    · have q1 : ((s[a].toNat : Int) == 255) = false := by simp; omega
      by_cases h128 : 128 ≤ s[a].toNat
      · have q2 : decide ((128 : Int) ≤ (s[a].toNat : Int)) = true := by simp; omega
        have hE := Lib.hid (show sizeE s.toList a = .ok (s[a].toNat - 128, false, a + 1) by simp [sizeE, E0, hff, h128])
        have hge : (128 : Int) ≤ (s[a].toNat : Int) := by omega
        clear E0 hff h128
        go_enter Tryd.func59, Tryd.ntmps59
        go_wp2_with fail
        refine (next_ok b s a _ hr h0 hs).mono ?_
        rintro e w1 ⟨rfl, hr1, hm1⟩
        go_wp2
        go_ret2
        exact post_good hE.out (by omega) hr1 hm1
      · have q2 : decide ((128 : Int) ≤ (s[a].toNat : Int)) = false := by simp; omega
        by_cases h2 : 2 ≤ s[a].toNat
        · have q3 : decide ((2 : Int) ≤ (s[a].toNat : Int)) = true := by simp; omega
          have hE := Lib.hid (show sizeE s.toList a = .ok (128 - s[a].toNat, true, a + 1) by simp [sizeE, E0, hff, h128, h2])
          have hge : ¬ (128 : Int) ≤ (s[a].toNat : Int) := by omega
          clear E0 hff h128 h2
          go_enter Tryd.func59, Tryd.ntmps59
          go_wp2_with fail
          refine (next_ok b s a _ hr h0 hs).mono ?_
          rintro e w1 ⟨rfl, hr1, hm1⟩
          go_wp2
          go_ret2
          exact post_good hE.out (by omega) hr1 hm1
        · have q3 : decide ((2 : Int) ≤ (s[a].toNat : Int)) = false := by simp; omega
          by_cases h1b : s[a].toNat = 1
          · have q4 : ((s[a].toNat : Int) == 1) = true := by simp [h1b]
            by_cases h1 : a + 1 < s.size
            · have E1 := at_some s (a + 1) h1
              have hn := s[a + 1].toNat_lt
              by_cases hg : 126 < 255 - s[a + 1].toNat
              · have q5 : decide ((126 : Int) < 255 - (s[a + 1].toNat : Int)) = true := by simp; omega
                have hE := Lib.hid (show sizeE s.toList a = .ok (255 - s[a + 1].toNat, true, a + 2) by simp [sizeE, E0, E1, h1b, hg])
                have hgt : (126 : Int) < 255 - (s[a + 1].toNat : Int) := by omega
                clear E0 E1 hff hg h128 h2 h1b
                go_enter Tryd.func59, Tryd.ntmps59
                go_wp2_with fail
                refine (next_ok b s a _ hr h0 hs).mono ?_
                rintro e w1 ⟨rfl, hr1, hm1⟩
                have d1 : w1.cell? ⟨b, 1, none⟩ = some (.int .i64 ((a + 1 : Nat) : Int)) := hr1.cell 1
                go_wp2_with fail
                refine (must_yes _ _).mono ?_
                rintro e w2 ⟨rfl, rfl⟩
                go_wp2_with fail
                refine (next_ok b s (a + 1) _ hr1 h1 hs).mono ?_
                rintro e w2 ⟨rfl, hr2, hm2⟩
                have c1 : w2.cell? ⟨b, 1, none⟩ = some (.int .i64 ((a + 1 + 1 : Nat) : Int)) := hr2.cell 1
                go_wp2_with fail
                refine (must_yes _ _).mono ?_
                rintro e w3 ⟨rfl, rfl⟩
                go_wp2
                go_ret2
                exact post_good hE.out (by omega) hr2 (hm1.trans hm2)
              · have q5 : decide ((126 : Int) < 255 - (s[a + 1].toNat : Int)) = false := by simp; omega
                have hE := Lib.hid (show sizeE s.toList a = .error (a + 1) by simp [sizeE, E0, E1, h1b, hg])
                clear E0 E1 hff hg h128 h2 h1b
                go_enter Tryd.func59, Tryd.ntmps59
                go_wp2_with fail
                refine (next_ok b s a _ hr h0 hs).mono ?_
                rintro e w1 ⟨rfl, hr1, hm1⟩
                have d1 : w1.cell? ⟨b, 1, none⟩ = some (.int .i64 ((a + 1 : Nat) : Int)) := hr1.cell 1
                go_wp2_with fail
                refine (must_yes _ _).mono ?_
                rintro e w2 ⟨rfl, rfl⟩
                go_wp2_with fail
                refine (next_ok b s (a + 1) _ hr1 h1 hs).mono ?_
                rintro e w2 ⟨rfl, hr2, hm2⟩
                have c1 : w2.cell? ⟨b, 1, none⟩ = some (.int .i64 ((a + 1 + 1 : Nat) : Int)) := hr2.cell 1
                go_wp2_with fail
                refine (must_no _ _).mono ?_
                rintro e w3 ⟨rfl, rfl⟩
                exact ⟨rfl, post_bad hE.out (by omega) (hm1.trans hm2)⟩
            · have hE := Lib.hid (show sizeE s.toList a = .error s.toList.length by simp [sizeE, E0, at_none s (a + 1) h1, h1b])
              have hsz : s.size = a + 1 := by omega
              clear E0 hff h128 h2 h1b
              go_enter Tryd.func59, Tryd.ntmps59
              go_wp2_with fail
              refine (next_ok b s a _ hr h0 hs).mono ?_
              rintro e w1 ⟨rfl, hr1, hm1⟩
              have d1 : w1.cell? ⟨b, 1, none⟩ = some (.int .i64 ((a + 1 : Nat) : Int)) := hr1.cell 1
              go_wp2_with fail
              refine (must_yes _ _).mono ?_
              rintro e w2 ⟨rfl, rfl⟩
              rw [← hsz] at hr1
              go_wp2_with fail
              refine (next_no b s _ hr1 hs).mono ?_
              rintro e w2 ⟨rfl, hm2⟩
              exact ⟨rfl, post_bad hE.out (by rw [size_of]) (hm1.trans hm2)⟩
          · have q4 : ((s[a].toNat : Int) == 1) = false := by simp; omega
            have hE := Lib.hid (show sizeE s.toList a = .error a by simp [sizeE, E0, hff, h128, h2, h1b])
            clear E0 hff h128 h2 h1b
            go_enter Tryd.func59, Tryd.ntmps59
            go_wp2_with fail
            refine (next_ok b s a _ hr h0 hs).mono ?_
            rintro e w1 ⟨rfl, hr1, hm1⟩
            have d1 : w1.cell? ⟨b, 1, none⟩ = some (.int .i64 ((a + 1 : Nat) : Int)) := hr1.cell 1
            go_wp2_with fail
            refine (must_no _ _).mono ?_
            rintro e w2 ⟨rfl, rfl⟩
            exact ⟨rfl, post_bad hE.out (by omega) hm1⟩
  · have hE := Lib.hid (show sizeE s.toList a = .error s.toList.length by simp [sizeE, at_none s a h0])
    have hsz : s.size = a := by omega
    rw [← hsz] at hr
    go_enter Tryd.func59, Tryd.ntmps59
    go_wp2_with fail
    refine (next_no b s _ hr hs).mono ?_
    rintro e w2 ⟨rfl, hm2⟩
    exact ⟨rfl, post_bad hE.out (by rw [size_of]) hm2⟩
end Go.Proofs.YtcgphlilijeifaaDoor
end
