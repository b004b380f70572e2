import Derived.StillTailTactics
import Derived.Test.YtcgphlilijeifaaDoorLitPrintsG11
/-
  The document's Same: its contract.
-/
namespace Go.Proofs.YtcgphlilijeifaaDoor.V
open Go.RowKit

theorem sameL_drop {l m : List Pt} {k : Nat} (hl : l.length = m.length) (h : k < l.length) : sameL (l.drop k) (m.drop k) = (sameP l[k] (m[k]'(by omega)) && sameL (l.drop (k + 1)) (m.drop (k + 1))) := by
  rw [List.drop_eq_getElem_cons h, List.drop_eq_getElem_cons (show k < m.length by omega), sameL_cons]

set_option maxRecDepth 100000 in
set_option maxHeartbeats 4000000 in
theorem same_any (p : Pt) : ∀ (q : Pt) (v u : Value) (w : World), Fit p → Fit q → PI w 0 w.heap.size p.items v → PI w 0 w.heap.size q.items u →
    Calls Tryd.prog 38 #[.agg #[.int .u8 p.kind, .bool p.yes, .bool p.neg, .string p.mag, .string p.raw, v], .agg #[.int .u8 q.kind, .bool q.yes, .bool q.neg, .string q.mag, .string q.raw, u]] w
      fun e w' => e = .returned (.bool (sameP p q)) ∧ Below w.heap.size w w' := by
  induction p using Pt.ind with
  | h p ih =>
  intro q v u w hf hfq hp hq
  obtain ⟨a, cap, rfl, _, hat⟩ := hp.open
  obtain ⟨b, capb, rfl, _, hbt⟩ := hq.open
  have HA := Lib.hid hat
  have HB := Lib.hid hbt
  have IH := Lib.hid ih
  have hl := hf.l
  have hlq := hfq.l
  have hne := sameP_eq p q
  clear hp hq hat hbt ih
  have hbel : ∀ x y : Obj, Below w.heap.size w ((w.alloc x).alloc y) := fun x y => ((Below.refl _ _).alloc (Nat.le_refl _) _).alloc (by simp) _
  by_cases h1 : p.kind = q.kind
  · have g1 : ((q.kind : Int) != (q.kind : Int)) = false := by simp
    by_cases h2 : p.yes = q.yes
    · have g2 : (q.yes != q.yes) = false := by simp
      obtain ⟨E, hE⟩ : ∃ E, (p.neg == q.neg && p.mag.toList == q.mag.toList) = E := ⟨_, rfl⟩
      have g3 := neq_num p.neg q.neg p.mag q.mag E hE
      obtain ⟨R, hR⟩ : ∃ R, (p.raw.toList == q.raw.toList) = R := ⟨_, rfl⟩
      have hone : oneB p q = (E && R) := by
        unfold oneB
        rw [h1, h2, hR, ← hE]
        simp
      rw [h1, h2]
      cases E with
      | false =>
        have HN := Lib.hid (show sameP p q = false by rw [hne, hone]; rfl)
        clear hne hone hE h1 h2
        go_enter Tryd.func38, Tryd.ntmps38
        go_wp2_with fail
        go_ret
        exact ⟨by rw [HN.out]; rfl, hbel _ _⟩
      | true =>
        cases R with
        | false =>
          have HN := Lib.hid (show sameP p q = false by rw [hne, hone]; rfl)
          clear hne hone hE h1 h2
          go_enter Tryd.func38, Tryd.ntmps38
          go_wp2_with fail
          go_ret
          exact ⟨by rw [HN.out]; rfl, hbel _ _⟩
        | true =>
          by_cases h5 : p.items.length = q.items.length
          · have g5 : ((p.items.length : Int) != (q.items.length : Int)) = false := by simp; omega
            have HN := Lib.hid (show sameP p q = sameL (p.items.drop 0) (q.items.drop 0) by rw [hne, hone]; rfl)
            have H5 := Lib.hid h5
            have h5a := Nat.le_of_eq h5
            have h5b := Nat.le_of_eq h5.symm
            clear hne hone hE h1 h2 h5
            go_enter Tryd.func38, Tryd.ntmps38
            go_wp2_with fail
            go_loopw [5] (fun i wr => ∃ k : Nat, k ≤ p.items.length ∧ i = .int .i64 k ∧ RowKit.Hid (sameP p q = sameL (p.items.drop k) (q.items.drop k)) ∧ Below w.heap.size w wr ∧ w.heap.size + 1 < wr.heap.size ∧
              wr.cell? ⟨w.heap.size, 5, none⟩ = some (.slice a p.items.length cap) ∧ wr.cell? ⟨w.heap.size + 1, 5, none⟩ = some (.slice b q.items.length capb)) (fun i _ => p.items.length - (intOf i).toNat)
            case atStart => exact ⟨0, Nat.zero_le _, rfl, HN, hbel _ _, by simp, by simp [go_sem], by simp [go_sem]⟩
            case round =>
              obtain ⟨k, hkl, rfl, HK, hB, hsz, f5, f6⟩ := hrel
              by_cases hlt : k < p.items.length
              · have q3 : decide (k < p.items.length) = true := by simpa using hlt
                have hltq : k < q.items.length := by omega
                obtain ⟨g, off, x, rfl, _, hg, hc, hfit, hpi⟩ := HA.out k hlt
                obtain ⟨g', off', x', rfl, _, hg', hc', hfit', hpi'⟩ := HB.out k hltq
                obtain ⟨d0, d1, d2, d3, d4, d5⟩ := hc.same (Same.of_below hB (Nat.le_refl _)) (Nat.zero_le _) hg
                obtain ⟨e0, e1, e2, e3, e4, e5⟩ := hc'.same (Same.of_below hB (Nat.le_refl _)) (Nat.zero_le _) hg'
                have HE := Lib.hid (sameL_drop H5.out hlt)
                have hmem : p.items[k] ∈ p.items := List.getElem_mem _
                obtain ⟨y, hy⟩ : ∃ y, p.items[k] = y := ⟨_, rfl⟩
                obtain ⟨z, hz⟩ : ∃ z, q.items[k] = z := ⟨_, rfl⟩
                rw [hy] at d0 d1 d2 d3 d4 hfit hpi HE hmem
                rw [hz] at e0 e1 e2 e3 e4 hfit' hpi' HE
                obtain ⟨a2, cap2, rfl, _, _⟩ := hpi.open
                obtain ⟨b2, capb2, rfl, _, _⟩ := hpi'.open
                have hpi2 := Lib.hid hpi
                have hpi2' := Lib.hid hpi'
                clear hc hc' hpi hpi' hy hz
                go_wp2_with fail
                go_still_tail 10, (by kernel_rfl)
                go_wp2_with fail
                refine (IH.out y hmem z _ _ _ hfit hfit' (hpi2.out.later hB.drew) (hpi2'.out.later hB.drew)).mono ?_
                rintro e w1 ⟨rfl, hb0⟩
                have hb1 := undrew hb0
                have hB1 : Below w.heap.size w w1 := hB.trans (hb1.mono (by omega))
                have hz1 : w.heap.size + 1 < w1.heap.size := by have := hb1.size; omega
                have F5 := Lib.hid (keep hb1 (by omega) f5)
                have F6 := Lib.hid (keep hb1 hsz f6)
                clear d0 d1 d2 d3 d4 d5 e0 e1 e2 e3 e4 e5 f5 f6 hB hb1 hb0 hsz
                cases hd : sameP y z with
                | true =>
                  have HD := Lib.hid (show sameP p q = sameL (p.items.drop (k + 1)) (q.items.drop (k + 1)) by rw [HK.out, HE.out, hd]; rfl)
                  clear hd
                  go_wp2_with fail
                  refine ⟨?_, by simp [intOf]; omega⟩
                  first
                    | exact ⟨k + 1, by omega, rfl, HD, hB1, hz1, F5.out, F6.out⟩
                    | ((repeat apply Exists.intro); exact ⟨⟨k + 1, by omega, rfl, HD, hB1, hz1, F5.out, F6.out⟩, rfl⟩)
                | false =>
                  have HD := Lib.hid (show sameP p q = false by rw [HK.out, HE.out, hd]; rfl)
                  clear hd
                  go_wp2_with fail
                  go_ret
                  exact ⟨by rw [HD.out]; rfl, hB1⟩
              · have q3 : decide (k < p.items.length) = false := by simpa using hlt
                have HD := Lib.hid (show sameP p q = true by rw [HK.out, List.drop_of_length_le (by omega), List.drop_of_length_le (by omega), sameL_nil])
                go_wp2_with fail
                go_ret
                exact ⟨by rw [HD.out]; rfl, hB⟩
          · have g5 : ((p.items.length : Int) != (q.items.length : Int)) = true := by simp; omega
            have HN := Lib.hid (show sameP p q = false by rw [hne, hone, sameL_false h5]; rfl)
            clear hne hone hE h1 h2 h5
            go_enter Tryd.func38, Tryd.ntmps38
            go_wp2_with fail
            go_ret
            exact ⟨by rw [HN.out]; rfl, hbel _ _⟩
    · have HN := Lib.hid (show sameP p q = false by rw [hne]; unfold oneB; rw [show (p.yes == q.yes) = false by simpa using h2]; simp)
      rw [h1]
      clear hne h1
      have g1 : ((q.kind : Int) != (q.kind : Int)) = false := by simp
      obtain ⟨y1, hy1⟩ : ∃ y, p.yes = y := ⟨_, rfl⟩
      obtain ⟨y2, hy2⟩ : ∃ y, q.yes = y := ⟨_, rfl⟩
      rw [hy1, hy2] at h2 ⊢
      have h3 : y2 = !y1 := by cases y1 <;> cases y2 <;> simp_all
      clear h2 hy1 hy2
      subst h3
      cases y1 with
      | true =>
        go_enter Tryd.func38, Tryd.ntmps38
        go_wp2_with fail
        go_ret
        exact ⟨by rw [HN.out]; rfl, hbel _ _⟩
      | false =>
        go_enter Tryd.func38, Tryd.ntmps38
        go_wp2_with fail
        go_ret
        exact ⟨by rw [HN.out]; rfl, hbel _ _⟩
  · have HN := Lib.hid (show sameP p q = false by rw [hne]; unfold oneB; rw [show (p.kind == q.kind) = false by simpa using h1]; simp)
    have g1 : ((p.kind : Int) != (q.kind : Int)) = true := by simp; omega
    clear hne h1
    go_enter Tryd.func38, Tryd.ntmps38
    go_wp2_with fail
    go_ret
    exact ⟨by rw [HN.out]; rfl, hbel _ _⟩
end Go.Proofs.YtcgphlilijeifaaDoor.V
