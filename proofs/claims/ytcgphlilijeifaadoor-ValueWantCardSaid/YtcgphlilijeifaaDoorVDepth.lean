/-
  The program's Depth: its contract.
-/
import Derived.Test.YtcgphlilijeifaaDoorVAs
namespace Go.Proofs.YtcgphlilijeifaaDoor.V
open Go.RowKit

set_option maxRecDepth 100000 in
set_option maxHeartbeats 2000000 in
theorem depth_any (p : Pt) : ∀ (v : Value) (w : World), mayB p = true → depthP p ≤ 1000 → VI w 0 w.heap.size p v →
    Calls Tryd.prog 81 #[v] w fun e w' => e = .returned (.int .i64 (depthP p)) ∧ Below w.heap.size w w' := by
  induction p using Pt.ind with
  | h p ih =>
  intro v w hmay hdp hv
  have f1 := has_List_truth
  have f2 := has_List_whole
  have f3 := has_List_row
  have f4 := has_List_tuple
  have f5 := has_List_nil
  by_cases h7 : p.kind = 7
  · have hlen := may_len hmay h7
    have hD : depthP p = depthL p.items + 1 := by rw [depthP_eq, if_pos h7]
    have hdl : depthL p.items ≤ 999 := by omega
    have HD := Lib.hid hD
    obtain ⟨a, cap, F, rfl, hcells, hdeep⟩ : ∃ (a : Option Addr) (cap : Nat) (F : Nat → Value), v = .iface 145 (.agg #[.slice a p.items.length cap]) ∧ (∀ j, j < p.items.length → ∃ g, a = some ⟨g, 0, none⟩ ∧ 0 ≤ g ∧ g < w.heap.size ∧ w.cell? ⟨g, j, none⟩ = some (F j)) ∧ ∀ j (h : j < p.items.length), VI w 0 w.heap.size p.items[j] (F j) := by
      cases hv with
      | null _ h => omega
      | truth _ h => omega
      | whole _ h => omega
      | row _ _ _ _ h => omega
      | tuple _ _ a cap F hc cells deep => exact ⟨a, cap, F, rfl, cells, deep⟩
    have m1 : ∀ w : World, (method 338 145 (.agg #[.slice a p.items.length cap]) "Len").run Tryd.prog w = .ok (163, .agg #[.slice a p.items.length cap]) w := fun _ => by kernel_rfl
    have m2 : ∀ w : World, (method 338 145 (.agg #[.slice a p.items.length cap]) "At").run Tryd.prog w = .ok (161, .agg #[.slice a p.items.length cap]) w := fun _ => by kernel_rfl
    have HC := Lib.hid hcells
    have HDp := Lib.hid hdeep
    have IH := Lib.hid ih
    have HM := Lib.hid hmay
    clear hv hcells hdeep ih hmay h7 hD hdp
    go_enter Tryd.func81, Tryd.ntmps81
    go_wp2_with fail
    refine (len_tuple _ _ _ _).mono ?_
    rintro e w1 ⟨rfl, hb1⟩
    go_wp2_with fail
    go_loopw [5, 16] (fun m i wr => ∃ k : Nat, k ≤ p.items.length ∧ i = .int .i64 k ∧ m = .int .i64 (depthL (p.items.take k)) ∧ Below w.heap.size w wr) (fun _ i _ => p.items.length - (intOf i).toNat)
    case atStart => exact ⟨0, Nat.zero_le _, rfl, by rw [List.take_zero, depthL_nil]; rfl, hb1⟩
    case round =>
      clear hb1
      obtain ⟨k, hkl, rfl, rfl, hB⟩ := hrel
      have hdk := depthL_take_le p.items k
      by_cases hlt : k < p.items.length
      · have q3 : decide (k < p.items.length) = true := by simpa using hlt
        obtain ⟨g0, rfl, _, hg0, hcell⟩ := HC.out k hlt
        have HE := Lib.hid (depthL_take hlt)
        have hmem : p.items[k] ∈ p.items := List.getElem_mem _
        have hdq := depthL_mem hmem
        have hvi := Lib.hid (HDp.out k hlt)
        obtain ⟨q, hq⟩ : ∃ q, p.items[k] = q := ⟨_, rfl⟩
        rw [hq] at HE hmem hdq hvi
        have hmq := Lib.hid (mayB_item HM.out hmem)
        have hcell2 := Lib.hid (keep hB hg0 hcell)
        obtain ⟨M, hM⟩ : ∃ M, depthL (p.items.take k) = M := ⟨_, rfl⟩
        rw [hM] at hdk HE ⊢
        clear hM hq hcell
        go_wp2_with fail
        refine (at_in g0 _ cap k (F k) _ (by omega) hlt hcell2.out).mono ?_
        rintro e w2 ⟨rfl, hb2⟩
        have hB2 := hB.trans (hb2.mono hB.size)
        go_wp2_with fail
        refine (IH.out q hmem (F k) _ hmq.out (by omega) (hvi.out.later hB2)).mono ?_
        rintro e w3 ⟨rfl, hb3⟩
        have hB3 := hB2.trans (hb3.mono hB2.size)
        clear hB hB2 hb2 hb3
        go_wp2_with fail
        refine ⟨⟨k + 1, by omega, rfl, ?_, hB3⟩, by simp [intOf]; omega⟩
        rw [HE.out]
        exact congrArg (Value.int .i64) (by split <;> omega)
      · have q3 : decide (k < p.items.length) = false := by simpa using hlt
        have HT := Lib.hid (show p.items.take k = p.items from List.take_of_length_le (by omega))
        go_wp2_with fail
        go_ret
        exact ⟨by rw [HD.out, HT.out]; rfl, hB⟩
  · have HD := Lib.hid (show depthP p = 0 by rw [depthP_eq, if_neg h7])
    clear hmay hdp ih
    cases hv with
    | null _ h =>
      clear h h7
      go_enter Tryd.func81, Tryd.ntmps81
      go_wp2_with fail
      go_ret
      exact ⟨by rw [HD.out]; rfl, Below.refl _ _⟩
    | truth _ h =>
      clear h h7
      go_enter Tryd.func81, Tryd.ntmps81
      go_wp2_with fail
      go_ret
      exact ⟨by rw [HD.out]; rfl, Below.refl _ _⟩
    | whole _ h =>
      clear h h7
      go_enter Tryd.func81, Tryd.ntmps81
      go_wp2_with fail
      go_ret
      exact ⟨by rw [HD.out]; rfl, Below.refl _ _⟩
    | row _ h0 h1 h2 h =>
      clear h0 h1 h2 h h7
      go_enter Tryd.func81, Tryd.ntmps81
      go_wp2_with fail
      go_ret
      exact ⟨by rw [HD.out]; rfl, Below.refl _ _⟩
    | tuple _ h a cap F hc cells deep => exact absurd h h7
theorem Depth_any (p : Pt) (v : Value) (w : World) (hmay : mayB p = true) (hdp : depthP p ≤ 1000) (hv : VI w 0 w.heap.size p v) :
    Calls Tryd.prog 41 #[v] w fun e w' => e = .returned (.int .i64 (depthP p)) ∧ Below w.heap.size w w' := by
  have HM := Lib.hid hmay
  have HV := Lib.hid hv
  clear hmay hv
  go_enter Tryd.func41, Tryd.ntmps41
  go_wp2_with fail
  refine (depth_any p v _ HM.out hdp HV.out).mono ?_
  rintro e w1 ⟨rfl, hb1⟩
  go_wp2_with fail
  go_ret
  exact ⟨rfl, hb1⟩
end Go.Proofs.YtcgphlilijeifaaDoor.V
