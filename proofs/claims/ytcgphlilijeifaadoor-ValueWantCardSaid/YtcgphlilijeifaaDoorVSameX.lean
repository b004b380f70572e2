/-
  The program's Same, of any two values.
-/
import Derived.Test.YtcgphlilijeifaaDoorVSameW
namespace Go.Proofs.YtcgphlilijeifaaDoor.V
open Go.RowKit

theorem VI.tupleOf {w : World} {lo hi : Nat} {p : Pt} {v : Value} (hv : VI w lo hi p v) (h7 : p.kind = 7) :
    ∃ (a : Option Addr) (cap : Nat) (F : Nat → Value), v = .iface 145 (.agg #[.slice a p.items.length cap]) ∧ (∀ j, j < p.items.length → ∃ g, a = some ⟨g, 0, none⟩ ∧ lo ≤ g ∧ g < hi ∧ w.cell? ⟨g, j, none⟩ = some (F j)) ∧ ∀ j (h : j < p.items.length), VI w lo hi p.items[j] (F j) := by
  cases hv with
  | null _ h => omega
  | truth _ h => omega
  | whole _ h => omega
  | row _ _ _ _ h => omega
  | tuple _ _ a cap F hc cells deep => exact ⟨a, cap, F, rfl, cells, deep⟩
theorem VI.truthOf {w : World} {lo hi : Nat} {p : Pt} {v : Value} (hv : VI w lo hi p v) (h : p.kind = 1) : v = .iface 140 (.agg #[.bool p.yes]) := by
  cases hv with
  | null _ h => omega
  | truth _ h => rfl
  | whole _ h => omega
  | row _ _ h _ _ => omega
  | tuple _ h a cap F hc cells deep => omega
theorem VI.wholeOf {w : World} {lo hi : Nat} {p : Pt} {v : Value} (hv : VI w lo hi p v) (h : p.kind = 2) : v = .iface 142 (.agg #[.bool p.neg, .string p.mag]) := by
  cases hv with
  | null _ h => omega
  | truth _ h => omega
  | whole _ h => rfl
  | row _ _ _ h _ => omega
  | tuple _ h a cap F hc cells deep => omega
theorem VI.rowOf {w : World} {lo hi : Nat} {p : Pt} {v : Value} (hv : VI w lo hi p v) (h0 : p.kind ≠ 0) (h1 : p.kind ≠ 1) (h2 : p.kind ≠ 2) (h7 : p.kind ≠ 7) : v = .iface 147 (.agg #[.int .u8 p.kind, .string p.raw]) := by
  cases hv with
  | null _ h => omega
  | truth _ h => omega
  | whole _ h => omega
  | row _ _ _ _ _ => rfl
  | tuple _ h a cap F hc cells deep => omega

set_option maxRecDepth 100000 in
set_option maxHeartbeats 4000000 in
theorem samev_any (p : Pt) : ∀ (q : Pt) (v u : Value) (w : World), mayB p = true → mayB q = true → VI w 0 w.heap.size p v → VI w 0 w.heap.size q u →
    Calls Tryd.prog 78 #[v, u] w fun e w' => e = .returned (.bool (sameP p q)) ∧ Below w.heap.size w w' := by
  induction p using Pt.ind with
  | h p ih =>
  intro q v u w hp hq hv hu
  by_cases h0 : p.kind = 0 ∨ q.kind = 0
  · exact samev_null p q v u w hp hq hv hu h0
  · by_cases hk : p.kind = q.kind
    · obtain ⟨s0, s1, s2, s3, s4⟩ := same_one hp hq hk
      by_cases h7 : p.kind = 7
      · have hq7 : q.kind = 7 := by omega
        have hlen := may_len hp h7
        have hlenq := may_len hq hq7
        have hS := s4 h7
        obtain ⟨a, cap, F, rfl, hcells, hdeep⟩ := hv.tupleOf h7
        obtain ⟨b, capb, G, rfl, hcells', hdeep'⟩ := hu.tupleOf hq7
        have f1 := is_truth_tuple
        have f2 := has_Number_tuple
        have f3 := has_Raw_tuple
        have f4 := has_List_tuple
        have m1 : ∀ w : World, (method 338 145 (.agg #[.slice a p.items.length cap]) "Kind").run Tryd.prog w = .ok (162, .agg #[.slice a p.items.length cap]) w := fun _ => by kernel_rfl
        have m2 : ∀ w : World, (method 338 145 (.agg #[.slice b q.items.length capb]) "Kind").run Tryd.prog w = .ok (162, .agg #[.slice b q.items.length capb]) w := fun _ => by kernel_rfl
        have m3 : ∀ w : World, (method 338 145 (.agg #[.slice a p.items.length cap]) "Len").run Tryd.prog w = .ok (163, .agg #[.slice a p.items.length cap]) w := fun _ => by kernel_rfl
        have m4 : ∀ w : World, (method 338 145 (.agg #[.slice b q.items.length capb]) "Len").run Tryd.prog w = .ok (163, .agg #[.slice b q.items.length capb]) w := fun _ => by kernel_rfl
        have m5 : ∀ w : World, (method 338 145 (.agg #[.slice a p.items.length cap]) "At").run Tryd.prog w = .ok (161, .agg #[.slice a p.items.length cap]) w := fun _ => by kernel_rfl
        have m6 : ∀ w : World, (method 338 145 (.agg #[.slice b q.items.length capb]) "At").run Tryd.prog w = .ok (161, .agg #[.slice b q.items.length capb]) w := fun _ => by kernel_rfl
        have HC := Lib.hid hcells
        have HD := Lib.hid hdeep
        have HC' := Lib.hid hcells'
        have HD' := Lib.hid hdeep'
        have HP := Lib.hid hp
        have HQ := Lib.hid hq
        have IH := Lib.hid ih
        clear hv hu hcells hdeep hcells' hdeep' hp hq ih s0 s1 s2 s3 s4 h0 hk h7 hq7
        by_cases hl : p.items.length = q.items.length
        · have g5 : ((p.items.length : Int) != (q.items.length : Int)) = false := by simp; omega
          have HN := Lib.hid (show sameP p q = sameL (p.items.drop 0) (q.items.drop 0) by rw [hS]; rfl)
          have HL := Lib.hid hl
          have hla := Nat.le_of_eq hl
          have hlb := Nat.le_of_eq hl.symm
          clear hl hS
          go_enter Tryd.func78, Tryd.ntmps78
          go_wp2_with fail
          refine (kind_tuple _ _ _ _).mono ?_
          rintro e w1 ⟨rfl, hb1⟩
          go_wp2_with fail
          refine (kind_tuple _ _ _ _).mono ?_
          rintro e w2 ⟨rfl, hb2⟩
          go_wp2_with fail
          refine (len_tuple _ _ _ _).mono ?_
          rintro e w3 ⟨rfl, hb3⟩
          go_wp2_with fail
          refine (len_tuple _ _ _ _).mono ?_
          rintro e w4 ⟨rfl, hb4⟩
          go_wp2_with fail
          refine (len_tuple _ _ _ _).mono ?_
          rintro e w5 ⟨rfl, hb5⟩
          have hB5 := two (two (two (two hb1 hb2) hb3) hb4) hb5
          clear hb1 hb2 hb3 hb4 hb5
          go_wp2_with fail
          go_loopw [94] (fun i wr => ∃ k : Nat, k ≤ p.items.length ∧ i = .int .i64 k ∧ RowKit.Hid (sameP p q = sameL (p.items.drop k) (q.items.drop k)) ∧ Below w.heap.size w wr) (fun i _ => p.items.length - (intOf i).toNat)
          case atStart => exact ⟨0, Nat.zero_le _, rfl, HN, hB5⟩
          case round =>
            clear hB5
            obtain ⟨k, hkl, rfl, HK, hB⟩ := hrel
            by_cases hlt : k < p.items.length
            · have q3 : decide (k < p.items.length) = true := by simpa using hlt
              have hltq : k < q.items.length := by omega
              obtain ⟨g, rfl, _, hg, hc⟩ := HC.out k hlt
              obtain ⟨g', rfl, _, hg', hc'⟩ := HC'.out k hltq
              have HE := Lib.hid (sameL_drop HL.out hlt)
              have hmem : p.items[k] ∈ p.items := List.getElem_mem _
              have hmemq : q.items[k] ∈ q.items := List.getElem_mem _
              have hvi := Lib.hid (HD.out k hlt)
              have hvi' := Lib.hid (HD'.out k hltq)
              obtain ⟨y, hy⟩ : ∃ y, p.items[k] = y := ⟨_, rfl⟩
              obtain ⟨z, hz⟩ : ∃ z, q.items[k] = z := ⟨_, rfl⟩
              rw [hy] at HE hmem hvi
              rw [hz] at HE hmemq hvi'
              have hmy := Lib.hid (mayB_item HP.out hmem)
              have hmz := Lib.hid (mayB_item HQ.out hmemq)
              have HCk := Lib.hid (keep hB hg hc)
              have hc1 := Lib.hid hc'
              clear hy hz hc hc'
              go_wp2_with fail
              refine (at_in g _ cap k (F k) _ (by omega) hlt HCk.out).mono ?_
              rintro e w6 ⟨rfl, hb6⟩
              have hB6 := hB.trans (hb6.mono hB.size)
              go_wp2_with fail
              refine (at_in g' _ capb k (G k) _ (by omega) hltq (keep hB6 hg' hc1.out)).mono ?_
              rintro e w7 ⟨rfl, hb7⟩
              have hB7 := hB6.trans (hb7.mono hB6.size)
              go_wp2_with fail
              refine (IH.out y hmem z (F k) (G k) _ hmy.out hmz.out (hvi.out.later hB7) (hvi'.out.later hB7)).mono ?_
              rintro e w8 ⟨rfl, hb8⟩
              have hB8 := hB7.trans (hb8.mono hB7.size)
              clear hB hB6 hB7 hb6 hb7 hb8
              cases hd : sameP y z with
              | true =>
                have HR := Lib.hid (show sameP p q = sameL (p.items.drop (k + 1)) (q.items.drop (k + 1)) by rw [HK.out, HE.out, hd]; rfl)
                clear hd
                go_wp2_with fail
                refine ⟨?_, by simp [intOf]; omega⟩
                first
                  | exact ⟨k + 1, by omega, rfl, HR, hB8⟩
                  | ((repeat apply Exists.intro); exact ⟨⟨k + 1, by omega, rfl, HR, hB8⟩, rfl⟩)
              | false =>
                have HR := Lib.hid (show sameP p q = false by rw [HK.out, HE.out, hd]; rfl)
                clear hd
                go_wp2_with fail
                go_ret
                exact ⟨by rw [HR.out]; rfl, hB8⟩
            · have q3 : decide (k < p.items.length) = false := by simpa using hlt
              have HR := Lib.hid (show sameP p q = true by rw [HK.out, List.drop_of_length_le (by omega), List.drop_of_length_le (by omega), sameL_nil])
              go_wp2_with fail
              go_ret
              exact ⟨by rw [HR.out]; rfl, hB⟩
        · have g5 : ((p.items.length : Int) != (q.items.length : Int)) = true := by simp; omega
          have HN := Lib.hid (show sameP p q = false by rw [hS, sameL_false hl])
          clear hl hS
          go_enter Tryd.func78, Tryd.ntmps78
          go_wp2_with fail
          refine (kind_tuple _ _ _ _).mono ?_
          rintro e w1 ⟨rfl, hb1⟩
          go_wp2_with fail
          refine (kind_tuple _ _ _ _).mono ?_
          rintro e w2 ⟨rfl, hb2⟩
          go_wp2_with fail
          refine (len_tuple _ _ _ _).mono ?_
          rintro e w3 ⟨rfl, hb3⟩
          go_wp2_with fail
          refine (len_tuple _ _ _ _).mono ?_
          rintro e w4 ⟨rfl, hb4⟩
          go_wp2_with fail
          go_ret
          exact ⟨by rw [HN.out]; rfl, two (two (two hb1 hb2) hb3) hb4⟩
      · by_cases h1 : p.kind = 1
        · rw [hv.truthOf h1, hu.truthOf (by omega), s1 h1]
          exact samev_truth _ _ w
        · by_cases h2 : p.kind = 2
          · rw [hv.wholeOf h2, hu.wholeOf (by omega), s2 h2]
            exact samev_whole _ _ _ _ w _ rfl
          · rw [hv.rowOf (by omega) h1 h2 h7, hu.rowOf (by omega) (by omega) (by omega) (by omega), s3 (by omega) h1 h2 h7, ← hk]
            exact samev_row _ _ _ w _ rfl
    · exact samev_kinds p q v u w hv hu (by omega) (by omega) hk

theorem Same_any (p q : Pt) (v u : Value) (w : World) (hp : mayB p = true) (hq : mayB q = true) (hv : VI w 0 w.heap.size p v) (hu : VI w 0 w.heap.size q u) :
    Calls Tryd.prog 39 #[v, u] w fun e w' => e = .returned (.bool (sameP p q)) ∧ Below w.heap.size w w' := by
  have HP := Lib.hid hp
  have HQ := Lib.hid hq
  have HV := Lib.hid hv
  have HU := Lib.hid hu
  clear hp hq hv hu
  go_enter Tryd.func39, Tryd.ntmps39
  go_wp2_with fail
  refine (samev_any p q v u _ HP.out HQ.out HV.out HU.out).mono ?_
  rintro e w1 ⟨rfl, hb1⟩
  go_wp2_with fail
  go_ret
  exact ⟨rfl, hb1⟩
end Go.Proofs.YtcgphlilijeifaaDoor.V
