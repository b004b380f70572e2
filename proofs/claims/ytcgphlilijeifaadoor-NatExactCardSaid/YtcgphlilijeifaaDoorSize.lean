/-
  The contract of the reader's size: how many bytes the magnitude has, and the sign.
-/
import Derived.Test.YtcgphlilijeifaaDoorRead
import Derived.Test.YtcgphlilijeifaaDoorTakeV
namespace Go.Proofs.YtcgphlilijeifaaDoor
open Go.RowKit

/-- What size tells. -/
def SizePost (b : Nat) (s : ByteArray) (a : Nat) (w : World) (e : Ending) (w' : World) : Prop :=
  match sizeE s.toList a with
  | .error p => e = badAt p ∧ Mv b w w'
  | .ok (k, below, f) => e = .returned (.tuple #[.int .i64 k, .bool below]) ∧ Rd w' b s f ∧ Mv b w w'

theorem at_some (s : ByteArray) (a : Nat) (h : a < s.size) : s.toList[a]? = some s[a] := by
  rw [Lib.toList_data, List.getElem?_eq_getElem (by simpa using h)]
  rfl
theorem at_none (s : ByteArray) (a : Nat) (h : ¬ a < s.size) : s.toList[a]? = none :=
  List.getElem?_eq_none (by rw [size_of]; omega)
theorem post_bad {b : Nat} {s : ByteArray} {a : Nat} {w w' : World} {p : Nat} {x : Int} (h : sizeE s.toList a = .error p) (hx : x = p) (hm : Mv b w w') : SizePost b s a w (badAt x) w' := by
  unfold SizePost
  rw [h, hx]
  exact ⟨rfl, hm⟩
theorem post_good {b : Nat} {s : ByteArray} {a : Nat} {w w' : World} {k f : Nat} {below : Bool} {x : Int} (h : sizeE s.toList a = .ok (k, below, f)) (hx : x = k) (hr : Rd w' b s f) (hm : Mv b w w') :
    SizePost b s a w (.returned (.tuple #[.int .i64 x, .bool below])) w' := by
  unfold SizePost
  rw [h, hx]
  exact ⟨rfl, hr, hm⟩

set_option maxHeartbeats 1000000 in
theorem size_any (b : Nat) (s : ByteArray) (a : Nat) (w : World) (hr : Rd w b s a) (ha : a ≤ s.size) (hs : s.size ≤ 9223372036854775807) :
    Calls Tryd.prog 59 #[.pointer (some ⟨b, 0, none⟩)] w (SizePost b s a w) := by
  by_cases h0 : a < s.size
  · have E0 := at_some s a h0
    have hb := s[a].toNat_lt
    by_cases hff : s[a].toNat = 255
    · have q1 : ((s[a].toNat : Int) == 255) = true := by simp [hff]
      by_cases h1 : a + 1 < s.size
      · have E1 := at_some s (a + 1) h1
        have hn := s[a + 1].toNat_lt
        by_cases hg : 126 < s[a + 1].toNat
        · have q2 : decide ((126 : Int) < (s[a + 1].toNat : Int)) = true := by simp; omega
          have hE := Lib.hid (show sizeE s.toList a = .ok (s[a + 1].toNat, false, a + 2) by simp [sizeE, E0, E1, hff, hg])
          clear E0 E1 hff hg
          go_enter Tryd.func59, Tryd.ntmps59
          go_wp2_with fail
          refine (next_ok b s a _ hr h0 hs).mono ?_
          rintro e w1 ⟨rfl, hr1, hm1⟩
          go_wp2_with fail
          refine (next_ok b s (a + 1) _ hr1 h1 hs).mono ?_
          rintro e w2 ⟨rfl, hr2, hm2⟩
          have c1 : w2.cell? ⟨b, 1, none⟩ = some (.int .i64 ((a + 1 + 1 : Nat) : Int)) := hr2.cell 1
          go_wp2_with fail
          refine (must_yes _ _).mono ?_
          rintro e w3 ⟨rfl, rfl⟩
          go_wp2
          go_ret2
          exact post_good hE.out rfl hr2 (hm1.trans hm2)
        · have q2 : decide ((126 : Int) < (s[a + 1].toNat : Int)) = false := by simp; omega
          have hE := Lib.hid (show sizeE s.toList a = .error (a + 1) by simp [sizeE, E0, E1, hff, hg])
          clear E0 E1 hff hg
          go_enter Tryd.func59, Tryd.ntmps59
          go_wp2_with fail
          refine (next_ok b s a _ hr h0 hs).mono ?_
          rintro e w1 ⟨rfl, hr1, hm1⟩
          go_wp2_with fail
          refine (next_ok b s (a + 1) _ hr1 h1 hs).mono ?_
          rintro e w2 ⟨rfl, hr2, hm2⟩
          have c1 : w2.cell? ⟨b, 1, none⟩ = some (.int .i64 ((a + 1 + 1 : Nat) : Int)) := hr2.cell 1
          go_wp2_with fail
          refine (must_no _ _).mono ?_
          rintro e w3 ⟨rfl, rfl⟩
          exact ⟨rfl, post_bad hE.out (by omega) (hm1.trans hm2)⟩
      · have hE := Lib.hid (show sizeE s.toList a = .error s.toList.length by simp [sizeE, E0, at_none s (a + 1) h1, hff])
        have hsz : s.size = a + 1 := by omega
        clear E0 hff
        go_enter Tryd.func59, Tryd.ntmps59
        go_wp2_with fail
        refine (next_ok b s a _ hr h0 hs).mono ?_
        rintro e w1 ⟨rfl, hr1, hm1⟩
        rw [← hsz] at hr1
        go_wp2_with fail
        refine (next_no b s _ hr1 hs).mono ?_
        rintro e w2 ⟨rfl, hm2⟩
        exact ⟨rfl, post_bad hE.out (by rw [size_of]) (hm1.trans hm2)⟩
    · have q1 : ((s[a].toNat : Int) == 255) = false := by simp; omega
      by_cases h128 : 128 ≤ s[a].toNat
      · have q2 : decide ((128 : Int) ≤ (s[a].toNat : Int)) = true := by simp; omega
        have hE := Lib.hid (show sizeE s.toList a = .ok (s[a].toNat - 128, false, a + 1) by simp [sizeE, E0, hff, h128])
        have hge : (128 : Int) ≤ (s[a].toNat : Int) := by omega
        clear E0 hff h128
        go_enter Tryd.func59, Tryd.ntmps59
        go_wp2_with fail
        refine (next_ok b s a _ hr h0 hs).mono ?_
        rintro e w1 ⟨rfl, hr1, hm1⟩
        go_wp2
        go_ret2
        exact post_good hE.out (by omega) hr1 hm1
      · have q2 : decide ((128 : Int) ≤ (s[a].toNat : Int)) = false := by simp; omega
        by_cases h2 : 2 ≤ s[a].toNat
        · have q3 : decide ((2 : Int) ≤ (s[a].toNat : Int)) = true := by simp; omega
          have hE := Lib.hid (show sizeE s.toList a = .ok (128 - s[a].toNat, true, a + 1) by simp [sizeE, E0, hff, h128, h2])
          have hge : ¬ (128 : Int) ≤ (s[a].toNat : Int) := by omega
          clear E0 hff h128 h2
          go_enter Tryd.func59, Tryd.ntmps59
          go_wp2_with fail
          refine (next_ok b s a _ hr h0 hs).mono ?_
          rintro e w1 ⟨rfl, hr1, hm1⟩
          go_wp2
          go_ret2
          exact post_good hE.out (by omega) hr1 hm1
        · have q3 : decide ((2 : Int) ≤ (s[a].toNat : Int)) = false := by simp; omega
          by_cases h1b : s[a].toNat = 1
          · have q4 : ((s[a].toNat : Int) == 1) = true := by simp [h1b]
            by_cases h1 : a + 1 < s.size
            · have E1 := at_some s (a + 1) h1
              have hn := s[a + 1].toNat_lt
              by_cases hg : 126 < 255 - s[a + 1].toNat
              · have q5 : decide ((126 : Int) < 255 - (s[a + 1].toNat : Int)) = true := by simp; omega
                have hE := Lib.hid (show sizeE s.toList a = .ok (255 - s[a + 1].toNat, true, a + 2) by simp [sizeE, E0, E1, h1b, hg])
                have hgt : (126 : Int) < 255 - (s[a + 1].toNat : Int) := by omega
                clear E0 E1 hff hg h128 h2 h1b
                go_enter Tryd.func59, Tryd.ntmps59
                go_wp2_with fail
                refine (next_ok b s a _ hr h0 hs).mono ?_
                rintro e w1 ⟨rfl, hr1, hm1⟩
                have d1 : w1.cell? ⟨b, 1, none⟩ = some (.int .i64 ((a + 1 : Nat) : Int)) := hr1.cell 1
                go_wp2_with fail
                refine (must_yes _ _).mono ?_
                rintro e w2 ⟨rfl, rfl⟩
                go_wp2_with fail
                refine (next_ok b s (a + 1) _ hr1 h1 hs).mono ?_
                rintro e w2 ⟨rfl, hr2, hm2⟩
                have c1 : w2.cell? ⟨b, 1, none⟩ = some (.int .i64 ((a + 1 + 1 : Nat) : Int)) := hr2.cell 1
                go_wp2_with fail
                refine (must_yes _ _).mono ?_
                rintro e w3 ⟨rfl, rfl⟩
                go_wp2
                go_ret2
                exact post_good hE.out (by omega) hr2 (hm1.trans hm2)
              · have q5 : decide ((126 : Int) < 255 - (s[a + 1].toNat : Int)) = false := by simp; omega
                have hE := Lib.hid (show sizeE s.toList a = .error (a + 1) by simp [sizeE, E0, E1, h1b, hg])
                clear E0 E1 hff hg h128 h2 h1b
                go_enter Tryd.func59, Tryd.ntmps59
                go_wp2_with fail
                refine (next_ok b s a _ hr h0 hs).mono ?_
                rintro e w1 ⟨rfl, hr1, hm1⟩
                have d1 : w1.cell? ⟨b, 1, none⟩ = some (.int .i64 ((a + 1 : Nat) : Int)) := hr1.cell 1
                go_wp2_with fail
                refine (must_yes _ _).mono ?_
                rintro e w2 ⟨rfl, rfl⟩
                go_wp2_with fail
                refine (next_ok b s (a + 1) _ hr1 h1 hs).mono ?_
                rintro e w2 ⟨rfl, hr2, hm2⟩
                have c1 : w2.cell? ⟨b, 1, none⟩ = some (.int .i64 ((a + 1 + 1 : Nat) : Int)) := hr2.cell 1
                go_wp2_with fail
                refine (must_no _ _).mono ?_
                rintro e w3 ⟨rfl, rfl⟩
                exact ⟨rfl, post_bad hE.out (by omega) (hm1.trans hm2)⟩
            · have hE := Lib.hid (show sizeE s.toList a = .error s.toList.length by simp [sizeE, E0, at_none s (a + 1) h1, h1b])
              have hsz : s.size = a + 1 := by omega
              clear E0 hff h128 h2 h1b
              go_enter Tryd.func59, Tryd.ntmps59
              go_wp2_with fail
              refine (next_ok b s a _ hr h0 hs).mono ?_
              rintro e w1 ⟨rfl, hr1, hm1⟩
              have d1 : w1.cell? ⟨b, 1, none⟩ = some (.int .i64 ((a + 1 : Nat) : Int)) := hr1.cell 1
              go_wp2_with fail
              refine (must_yes _ _).mono ?_
              rintro e w2 ⟨rfl, rfl⟩
              rw [← hsz] at hr1
              go_wp2_with fail
              refine (next_no b s _ hr1 hs).mono ?_
              rintro e w2 ⟨rfl, hm2⟩
              exact ⟨rfl, post_bad hE.out (by rw [size_of]) (hm1.trans hm2)⟩
          · have q4 : ((s[a].toNat : Int) == 1) = false := by simp; omega
            have hE := Lib.hid (show sizeE s.toList a = .error a by simp [sizeE, E0, hff, h128, h2, h1b])
            clear E0 hff h128 h2 h1b
            go_enter Tryd.func59, Tryd.ntmps59
            go_wp2_with fail
            refine (next_ok b s a _ hr h0 hs).mono ?_
            rintro e w1 ⟨rfl, hr1, hm1⟩
            have d1 : w1.cell? ⟨b, 1, none⟩ = some (.int .i64 ((a + 1 : Nat) : Int)) := hr1.cell 1
            go_wp2_with fail
            refine (must_no _ _).mono ?_
            rintro e w2 ⟨rfl, rfl⟩
            exact ⟨rfl, post_bad hE.out (by omega) hm1⟩
  · have hE := Lib.hid (show sizeE s.toList a = .error s.toList.length by simp [sizeE, at_none s a h0])
    have hsz : s.size = a := by omega
    rw [← hsz] at hr
    go_enter Tryd.func59, Tryd.ntmps59
    go_wp2_with fail
    refine (next_no b s _ hr hs).mono ?_
    rintro e w2 ⟨rfl, hm2⟩
    exact ⟨rfl, post_bad hE.out (by rw [size_of]) hm2⟩
end Go.Proofs.YtcgphlilijeifaaDoor
