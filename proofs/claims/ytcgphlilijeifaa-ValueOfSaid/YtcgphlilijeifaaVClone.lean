/-
  slices.Clone of values, and the program's Of: their contracts.
-/
import Derived.Test.YtcgphlilijeifaaVOf
import Derived.Deep.AppendLies
import Derived.Laws.OwnMore
namespace Go.Proofs.Ytcgphlilijeifaa.V
open Go.RowKit

theorem VI.one {w : World} {lo hi : Nat} {p : Pt} {v : Value} (h : VI w lo hi p v) : v.oneCell' = true := by cases h <;> rfl
theorem eql_nil (w : World) : (binOp .eql 38 (.slice none 0 0) (.slice none 0 0)).run Try.prog w = .ok (.bool true) w := by kernel_rfl
theorem eql_some (a : Addr) (n cap : Nat) (w : World) : (binOp .eql 38 (.slice (some a) n cap) (.slice none 0 0)).run Try.prog w = .ok (.bool false) w := by kernel_rfl
/-- What a row of values that is not nil holds. -/
theorem own_at {w : World} {B g n cap : Nat} {us : List Value} (h : w.ownsRow B 31 1 (.slice (some ⟨g, 0, none⟩) n cap) n us) :
    n ≤ cap ∧ B ≤ g ∧ g < w.heap.size ∧ ∀ j, j < n → ∃ u, us[j]? = some u ∧ w.cell? ⟨g, j, none⟩ = some u := by
  have hlen := h.1
  rcases h.2 with ⟨h', _⟩ | ⟨g', cap', cur, he, hg, hgg, hnc, _⟩
  · simp at h'
  · simp only [Value.slice.injEq, Option.some.injEq, Addr.mk.injEq, and_true, true_and] at he
    obtain ⟨rfl, rfl⟩ := he
    refine ⟨hnc, hg, (Array.getElem?_eq_some_iff.1 hgg).1, fun j hj => ⟨us[j]'(by omega), List.getElem?_eq_getElem _, ?_⟩⟩
    rw [World.ownsRow.cellAt h j (by omega)]
    exact List.getElem?_eq_getElem _
theorem clone_nil (w : World) : Calls Try.prog 34 #[.slice none 0 0] w fun e w' => e = .returned (.slice none 0 0) ∧ Below w.heap.size w w' := by
  have f1 := eql_nil
  go_enter Try.func34, Try.ntmps34
  go_wp2_with fail
  go_ret
  exact ⟨rfl, Below.refl _ _⟩
set_option maxHeartbeats 1000000 in
theorem clone_row (g n cap : Nat) (us : List Value) (w : World) (B : Nat) (h0 : 0 < n) (hn : n ≤ 1024) (hO : w.ownsRow B 31 1 (.slice (some ⟨g, 0, none⟩) n cap) n us) (h1 : ∀ u ∈ us, u.oneCell' = true) :
    Calls Try.prog 34 #[.slice (some ⟨g, 0, none⟩) n cap] w fun e w' =>
      ∃ g' cap', e = .returned (.slice (some ⟨g', 0, none⟩) n cap') ∧ w'.ownsRow w.heap.size 31 1 (.slice (some ⟨g', 0, none⟩) n cap') n us ∧ Below w.heap.size w w' := by
  have hlen : us.length = n := by have := hO.1; omega
  have HO := Lib.hid hO
  have H1 := Lib.hid h1
  obtain ⟨i0, hinf, hz0, hz1, hz2⟩ := info_parts infoV
  have f1 := eql_some
  clear hO h1
  go_enter Try.func34, Try.ntmps34
  go_wp2_with (at_builtin; refine wpList_append_lies _ rfl (.tmp 5) (.tmp 6) 38 rfl w.heap.size 31 i0 .nilIface 1 16 Try.underlying38 hinf hz0 hz1 hz2 rfl (by decide) (.slice (some ⟨w.heap.size, 0, none⟩) 0 0) 0 [] (by simp [Act.eval, Act.put]) (World.ownsRow_lit w #[] 0 (Nat.le_refl _) (by decide) rfl) ⟨g, 0, none⟩ n cap us (by simp [Act.eval, Act.put]) (by omega) (World.ownsRow.cells (HO.out.alloc _) rfl) H1.out h0 (by unfold maxLen; omega) (by omega) (by simp) _ rfl ?_; intro g3 cap3 w3 hO3 hg3 hlies hgl)
  have hB : Below w.heap.size w w3 := ((Below.refl w.heap.size w).alloc (Nat.le_refl _) _).grown hg3 (by simp) (fun k hk => by have e : w.heap.size = k := Option.some.inj hk; omega)
  go_ret
  exact ⟨g3, cap3, by simp, by simpa using hO3, hB⟩

def OfPost (l : List Pt) (us : List Value) (w : World) (e : Ending) (w' : World) : Prop := ∃ t, e = .returned (.tuple #[t, .int .i64 (ofE l)]) ∧ (ofE l ≠ 0 → t = .nilIface) ∧
  (ofE l = 0 → ∃ (a : Option Addr) (cap : Nat), t = .iface 76 (.agg #[.slice a l.length cap]) ∧ l.length ≤ cap ∧ ∀ j, j < l.length → ∃ g u, a = some ⟨g, 0, none⟩ ∧ w.heap.size ≤ g ∧ g < w'.heap.size ∧ us[j]? = some u ∧ w'.cell? ⟨g, j, none⟩ = some u) ∧ Below w.heap.size w w'

set_option maxRecDepth 100000 in
set_option maxHeartbeats 2000000 in
theorem of_any (l : List Pt) (us : List Value) (s : Value) (w : World) (B : Nat) (hO : w.ownsRow B 31 1 s l.length us) (hl : l.length * 72 ≤ 140737488351232) (hne : l = [] → s = .slice none 0 0)
    (hv : ∀ j (h : j < l.length), ∃ u, us[j]? = some u ∧ VI w 0 w.heap.size l[j] u ∧ mayB l[j] = true ∧ depthP l[j] ≤ 16) :
    Calls Try.prog 14 #[s] w (OfPost l us w) := by
  obtain ⟨a, cap, rfl⟩ := own_form hO
  have HV := Lib.hid hv
  have HO := Lib.hid hO
  have hE3 := Lib.hid (ofE_three l)
  have HN := Lib.hid hne
  clear hv hO hne
  by_cases hbig : 1024 < l.length
  · have q1 : decide ((1024 : Int) < (l.length : Int)) = true := decide_eq_true (by omega)
    have HE := Lib.hid (show ofE l = 2 by rcases hE3.out with ⟨_, h⟩ | ⟨h, _⟩ | ⟨h, _⟩ <;> first | exact h | exact absurd hbig h)
    clear hbig
    go_enter Try.func14, Try.ntmps14
    go_wp2_with fail
    go_ret2
    exact ⟨.nilIface, by rw [HE.out]; rfl, fun _ => rfl, fun h => by (rw [HE.out] at h; cases h), Below.refl _ _⟩
  have q1 : decide ((1024 : Int) < (l.length : Int)) = false := decide_eq_false (by omega)
  go_enter Try.func14, Try.ntmps14
  go_wp2_with fail
  go_loopw [11] (fun i wr => ∃ k : Nat, k ≤ l.length ∧ i = .int .i64 k ∧ RowKit.Hid (∀ j (h : j < l.length), j < k → depthP l[j] < 16) ∧ Below w.heap.size w wr) (fun i _ => l.length - (intOf i).toNat)
  case atStart => exact ⟨0, Nat.zero_le _, rfl, Lib.hid fun j _ h => by omega, Below.refl _ _⟩
  case round =>
    obtain ⟨k, hkl, rfl, HK, hB⟩ := hrel
    by_cases hlt : k < l.length
    · have q3 : decide (k < l.length) = true := by simpa using hlt
      obtain ⟨u, hu, hvi, hm, hd⟩ := HV.out k hlt
      rcases HO.out.2 with ⟨_, hn⟩ | ⟨g, cap', cur, he, _, _⟩
      · omega
      simp only [Value.slice.injEq, true_and] at he
      obtain ⟨rfl, rfl⟩ := he
      have hcell : w.cell? ⟨g, k, none⟩ = some u := by
        have := World.ownsRow.cells HO.out (g := g) rfl k u hu
        have e : (⟨g, 0, none⟩ : Addr).add k = ⟨g, k, none⟩ := by unfold Addr.add; split <;> simp_all
        rw [e] at this
        exact this
      have hcell2 := keeps hB hcell
      obtain ⟨q, hq⟩ : ∃ q, l[k] = q := ⟨_, rfl⟩
      rw [hq] at hvi hm hd
      have HQ := Lib.hid hq
      have HM := Lib.hid hm
      have HVI := Lib.hid (hvi.later hB)
      clear hq hvi hm hcell hu
      go_wp2_with fail
      refine (Depth_any q u _ HM.out (by omega) HVI.out).mono ?_
      rintro e w1 ⟨rfl, hb1⟩
      have hB1 := hB.trans (hb1.mono hB.size)
      by_cases hdp : 16 ≤ depthP q
      · have q4 : decide ((16 : Int) ≤ (depthP q : Int)) = true := decide_eq_true (by omega)
        have HE := Lib.hid (show ofE l = 91 by
          rcases hE3.out with ⟨h, _⟩ | ⟨_, _, h⟩ | ⟨_, h, _⟩
          · exact absurd h hbig
          · exact h
          · have := deepT.2 ⟨l[k], List.getElem_mem hlt, by rw [HQ.out]; exact hdp⟩
            rw [h] at this; cases this)
        clear hdp
        go_wp2_with fail
        go_ret2
        exact ⟨.nilIface, by rw [HE.out]; rfl, fun _ => rfl, fun h => by (rw [HE.out] at h; cases h), hB1⟩
      · have q4 : decide ((16 : Int) ≤ (depthP q : Int)) = false := decide_eq_false (by omega)
        have hdq : depthP q < 16 := by omega
        have HK2 : RowKit.Hid (∀ j (h : j < l.length), j < k + 1 → depthP l[j] < 16) := Lib.hid fun j hj hjk => by
          by_cases e : j = k
          · subst e; rw [HQ.out]; exact hdq
          · exact HK.out j hj (by omega)
        clear hdp hdq
        go_wp2_with fail
        refine ⟨?_, by simp [intOf]; omega⟩
        first
          | exact ⟨k + 1, by omega, rfl, HK2, hB1⟩
          | ((repeat apply Exists.intro); exact ⟨⟨k + 1, by omega, rfl, HK2, hB1⟩, rfl⟩)
    · have q3 : decide (k < l.length) = false := by simpa using hlt
      have HE := Lib.hid (show ofE l = 0 by
        rcases hE3.out with ⟨h, _⟩ | ⟨_, h, _⟩ | ⟨_, _, h⟩
        · exact absurd h hbig
        · obtain ⟨q, hq, hd⟩ := deepT.1 h
          obtain ⟨j, hj, rfl⟩ := List.getElem_of_mem hq
          have := HK.out j hj (by omega)
          omega
        · exact h)
      rcases HO.out.2 with ⟨hs, hn⟩ | ⟨g, cap', cur, he, _, hgg, _⟩
      · obtain ⟨rfl, _, rfl⟩ : a = none ∧ l.length = 0 ∧ cap = 0 := by simpa using hs
        obtain rfl : l = [] := List.eq_nil_of_length_eq_zero hn
        clear hn hs
        go_wp2_with fail
        refine (clone_nil _).mono ?_
        rintro e w1 ⟨rfl, hb1⟩
        go_wp2_with fail
        go_ret2
        exact ⟨_, by rw [HE.out]; rfl, fun h => absurd HE.out h, fun _ => ⟨none, 0, rfl, Nat.le_refl _, fun j hj => by cases hj⟩, two hB hb1⟩
      · simp only [Value.slice.injEq, true_and] at he
        obtain ⟨rfl, rfl⟩ := he
        have h1 : ∀ u ∈ us, u.oneCell' = true := fun u hu => by
          obtain ⟨j, hj, rfl⟩ := List.getElem_of_mem hu
          have hl1 := HO.out.1
          obtain ⟨u', hu', hvi, _, _⟩ := HV.out j (by omega)
          rw [List.getElem?_eq_getElem hj] at hu'
          rw [Option.some.inj hu']
          exact hvi.one
        by_cases h0 : 0 < l.length
        · have hO1 := own_below HO.out hB
          clear hgg
          have q5 : decide (k < l.length) = false := q3
          go_wp2_with fail
          refine (clone_row g l.length cap us _ B h0 (by omega) hO1 h1).mono ?_
          rintro e w1 ⟨g2, cap2, rfl, hO2, hb1⟩
          obtain ⟨k1, k2, k3, k4⟩ := own_at hO2
          have hsz : w.heap.size ≤ wr.heap.size := hB.size
          have K4 := Lib.hid k4
          clear k4 hO2 hO1 h1
          go_wp2_with fail
          go_ret2
          exact ⟨_, by rw [HE.out]; rfl, fun h => absurd HE.out h, fun _ => ⟨some ⟨g2, 0, none⟩, cap2, rfl, k1, fun j hj => by
            obtain ⟨u, hu, hc⟩ := K4.out j hj
            exact ⟨g2, u, rfl, by omega, k3, hu, hc⟩⟩, hB.trans (hb1.mono hsz)⟩
        · obtain rfl : l = [] := List.eq_nil_of_length_eq_zero (by omega)
          have := HN.out rfl
          simp at this
end Go.Proofs.Ytcgphlilijeifaa.V
