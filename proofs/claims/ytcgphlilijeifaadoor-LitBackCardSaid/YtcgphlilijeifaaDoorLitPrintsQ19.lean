import Derived.ProofKit
import Derived.OpenShut
import Derived.ShutString
import Derived.WalkKit
import Derived.SizedLaws
import Derived.Deep.Slices
import Derived.Test.YtcgphlilijeifaaDoorLitPrintsQ18
import Derived.Test.YtcgphlilijeifaaDoorLitPrintsQ7
section
/-
  The program's Same, of any two values.
-/
namespace Go.Proofs.YtcgphlilijeifaaDoor.V
open Go.RowKit

theorem VI.tupleOf {w : World} {lo hi : Nat} {p : Pt} {v : Value} (hv : VI w lo hi p v) (h7 : p.kind = 7) :
    ∃ (a : Option Addr) (cap : Nat) (F : Nat → Value), v = .iface 145 (.agg #[.slice a p.items.length cap]) ∧ (∀ j, j < p.items.length → ∃ g, a = some ⟨g, 0, none⟩ ∧ lo ≤ g ∧ g < hi ∧ w.cell? ⟨g, j, none⟩ = some (F j)) ∧ ∀ j (h : j < p.items.length), VI w lo hi p.items[j] (F j) := by
  cases hv with
  | null _ h => omega
  | truth _ h => omega
  | whole _ h => omega
  | row _ _ _ _ h => omega
  | tuple _ _ a cap F hc cells deep => exact ⟨a, cap, F, rfl, cells, deep⟩
theorem VI.truthOf {w : World} {lo hi : Nat} {p : Pt} {v : Value} (hv : VI w lo hi p v) (h : p.kind = 1) : v = .iface 140 (.agg #[.bool p.yes]) := by
  cases hv with
  | null _ h => omega
  | truth _ h => rfl
  | whole _ h => omega
  | row _ _ h _ _ => omega
  | tuple _ h a cap F hc cells deep => omega
theorem VI.wholeOf {w : World} {lo hi : Nat} {p : Pt} {v : Value} (hv : VI w lo hi p v) (h : p.kind = 2) : v = .iface 142 (.agg #[.bool p.neg, .string p.mag]) := by
  cases hv with
  | null _ h => omega
  | truth _ h => omega
  | whole _ h => rfl
  | row _ _ _ h _ => omega
  | tuple _ h a cap F hc cells deep => omega
theorem VI.rowOf {w : World} {lo hi : Nat} {p : Pt} {v : Value} (hv : VI w lo hi p v) (h0 : p.kind ≠ 0) (h1 : p.kind ≠ 1) (h2 : p.kind ≠ 2) (h7 : p.kind ≠ 7) : v = .iface 147 (.agg #[.int .u8 p.kind, .string p.raw]) := by
  cases hv with
  | null _ h => omega
  | truth _ h => omega
  | whole _ h => omega
  | row _ _ _ _ _ => rfl
  | tuple _ h a cap F hc cells deep => omega

set_option maxRecDepth 100000 in
set_option maxHeartbeats 4000000 in
theorem samev_any (p : Pt) : ∀ (q : Pt) (v u : Value) (w : World), mayB p = true → mayB q = true → VI w 0 w.heap.size p v → VI w 0 w.heap.size q u →
    Calls Tryd.prog 78 #[v, u] w fun e w' => e = .returned (.bool (sameP p q)) ∧ Below w.heap.size w w' := by
  induction p using Pt.ind with
  | h p ih =>
  intro q v u w hp hq hv hu
  by_cases h0 : p.kind = 0 ∨ q.kind = 0
  · exact samev_null p q v u w hp hq hv hu h0
  · by_cases hk : p.kind = q.kind
    · obtain ⟨s0, s1, s2, s3, s4⟩ := same_one hp hq hk
      by_cases h7 : p.kind = 7
      · have hq7 : q.kind = 7 := by omega
        have hlen := may_len hp h7
        have hlenq := may_len hq hq7
        have hS := s4 h7
        obtain ⟨a, cap, F, rfl, hcells, hdeep⟩ := hv.tupleOf h7
        obtain ⟨b, capb, G, rfl, hcells', hdeep'⟩ := hu.tupleOf hq7
        have f1 := is_truth_tuple
        have f2 := has_Number_tuple
        have f3 := has_Raw_tuple
        have f4 := has_List_tuple
        have m1 : ∀ w : World, (method 338 145 (.agg #[.slice a p.items.length cap]) "Kind").run Tryd.prog w = .ok (162, .agg #[.slice a p.items.length cap]) w := fun _ => by kernel_rfl
        have m2 : ∀ w : World, (method 338 145 (.agg #[.slice b q.items.length capb]) "Kind").run Tryd.prog w = .ok (162, .agg #[.slice b q.items.length capb]) w := fun _ => by kernel_rfl
        have m3 : ∀ w : World, (method 338 145 (.agg #[.slice a p.items.length cap]) "Len").run Tryd.prog w = .ok (163, .agg #[.slice a p.items.length cap]) w := fun _ => by kernel_rfl
        have m4 : ∀ w : World, (method 338 145 (.agg #[.slice b q.items.length capb]) "Len").run Tryd.prog w = .ok (163, .agg #[.slice b q.items.length capb]) w := fun _ => by kernel_rfl
        have m5 : ∀ w : World, (method 338 145 (.agg #[.slice a p.items.length cap]) "At").run Tryd.prog w = .ok (161, .agg #[.slice a p.items.length cap]) w := fun _ => by kernel_rfl
        have m6 : ∀ w : World, (method 338 145 (.agg #[.slice b q.items.length capb]) "At").run Tryd.prog w = .ok (161, .agg #[.slice b q.items.length capb]) w := fun _ => by kernel_rfl
        have HC := Lib.hid hcells
        have HD := Lib.hid hdeep
        have HC' := Lib.hid hcells'
        have HD' := Lib.hid hdeep'
        have HP := Lib.hid hp
        have HQ := Lib.hid hq
        have IH := Lib.hid ih
        clear hv hu hcells hdeep hcells' hdeep' hp hq ih s0 s1 s2 s3 s4 h0 hk h7 hq7
        by_cases hl : p.items.length = q.items.length
        · have g5 : ((p.items.length : Int) != (q.items.length : Int)) = false := by simp; omega
          have HN := Lib.hid (show sameP p q = sameL (p.items.drop 0) (q.items.drop 0) by rw [hS]; rfl)
          have HL := Lib.hid hl
          have hla := Nat.le_of_eq hl
          have hlb := Nat.le_of_eq hl.symm
          clear hl hS
          go_enter Tryd.func78, Tryd.ntmps78
          go_wp2_with fail
          refine (kind_tuple _ _ _ _).mono ?_
          rintro e w1 ⟨rfl, hb1⟩
          go_wp2_with fail
          refine (kind_tuple _ _ _ _).mono ?_
          rintro e w2 ⟨rfl, hb2⟩
          go_wp2_with fail
          refine (len_tuple _ _ _ _).mono ?_
          rintro e w3 ⟨rfl, hb3⟩
          go_wp2_with fail
          refine (len_tuple _ _ _ _).mono ?_
          rintro e w4 ⟨rfl, hb4⟩
          go_wp2_with fail
          refine (len_tuple _ _ _ _).mono ?_
          rintro e w5 ⟨rfl, hb5⟩
          have hB5 := two (two (two (two hb1 hb2) hb3) hb4) hb5
          clear hb1 hb2 hb3 hb4 hb5
          go_wp2_with fail
          go_loopw [94] (fun i wr => ∃ k : Nat, k ≤ p.items.length ∧ i = .int .i64 k ∧ RowKit.Hid (sameP p q = sameL (p.items.drop k) (q.items.drop k)) ∧ Below w.heap.size w wr) (fun i _ => p.items.length - (intOf i).toNat)
          case atStart => exact ⟨0, Nat.zero_le _, rfl, HN, hB5⟩
          case round =>
            clear hB5
            obtain ⟨k, hkl, rfl, HK, hB⟩ := hrel
            by_cases hlt : k < p.items.length
            · have q3 : decide (k < p.items.length) = true := by simpa using hlt
              have hltq : k < q.items.length := by omega
              obtain ⟨g, rfl, _, hg, hc⟩ := HC.out k hlt
              obtain ⟨g', rfl, _, hg', hc'⟩ := HC'.out k hltq
              have HE := Lib.hid (sameL_drop HL.out hlt)
              have hmem : p.items[k] ∈ p.items := List.getElem_mem _
              have hmemq : q.items[k] ∈ q.items := List.getElem_mem _
              have hvi := Lib.hid (HD.out k hlt)
              have hvi' := Lib.hid (HD'.out k hltq)
              obtain ⟨y, hy⟩ : ∃ y, p.items[k] = y := ⟨_, rfl⟩
              obtain ⟨z, hz⟩ : ∃ z, q.items[k] = z := ⟨_, rfl⟩
              rw [hy] at HE hmem hvi
              rw [hz] at HE hmemq hvi'
              have hmy := Lib.hid (mayB_item HP.out hmem)
              have hmz := Lib.hid (mayB_item HQ.out hmemq)
              have HCk := Lib.hid (keep hB hg hc)
              have hc1 := Lib.hid hc'
              clear hy hz hc hc'
              go_wp2_with fail
              refine (at_in g _ cap k (F k) _ (by omega) hlt HCk.out).mono ?_
              rintro e w6 ⟨rfl, hb6⟩
              have hB6 := hB.trans (hb6.mono hB.size)
              go_wp2_with fail
              refine (at_in g' _ capb k (G k) _ (by omega) hltq (keep hB6 hg' hc1.out)).mono ?_
              rintro e w7 ⟨rfl, hb7⟩
              have hB7 := hB6.trans (hb7.mono hB6.size)
              go_wp2_with fail
              refine (IH.out y hmem z (F k) (G k) _ hmy.out hmz.out (hvi.out.later hB7) (hvi'.out.later hB7)).mono ?_
              rintro e w8 ⟨rfl, hb8⟩
              have hB8 := hB7.trans (hb8.mono hB7.size)
              clear hB hB6 hB7 hb6 hb7 hb8
              cases hd : sameP y z with
              | true =>
                have HR := Lib.hid (show sameP p q = sameL (p.items.drop (k + 1)) (q.items.drop (k + 1)) by rw [HK.out, HE.out, hd]; rfl)
                clear hd
                go_wp2_with fail
                refine ⟨?_, by simp [intOf]; omega⟩
                first
                  | exact ⟨k + 1, by omega, rfl, HR, hB8⟩
                  | ((repeat apply Exists.intro); exact ⟨⟨k + 1, by omega, rfl, HR, hB8⟩, rfl⟩)
              | false =>
                have HR := Lib.hid (show sameP p q = false by rw [HK.out, HE.out, hd]; rfl)
                clear hd
                go_wp2_with fail
                go_ret
                exact ⟨by rw [HR.out]; rfl, hB8⟩
            · have q3 : decide (k < p.items.length) = false := by simpa using hlt
              have HR := Lib.hid (show sameP p q = true by rw [HK.out, List.drop_of_length_le (by omega), List.drop_of_length_le (by omega), sameL_nil])
              go_wp2_with fail
              go_ret
              exact ⟨by rw [HR.out]; rfl, hB⟩
        · have g5 : ((p.items.length : Int) != (q.items.length : Int)) = true := by simp; omega
          have HN := Lib.hid (show sameP p q = false by rw [hS, sameL_false hl])
          clear hl hS
          go_enter Tryd.func78, Tryd.ntmps78
          go_wp2_with fail
          refine (kind_tuple _ _ _ _).mono ?_
          rintro e w1 ⟨rfl, hb1⟩
          go_wp2_with fail
          refine (kind_tuple _ _ _ _).mono ?_
          rintro e w2 ⟨rfl, hb2⟩
          go_wp2_with fail
          refine (len_tuple _ _ _ _).mono ?_
          rintro e w3 ⟨rfl, hb3⟩
          go_wp2_with fail
          refine (len_tuple _ _ _ _).mono ?_
          rintro e w4 ⟨rfl, hb4⟩
          go_wp2_with fail
          go_ret
          exact ⟨by rw [HN.out]; rfl, two (two (two hb1 hb2) hb3) hb4⟩
      · by_cases h1 : p.kind = 1
        · rw [hv.truthOf h1, hu.truthOf (by omega), s1 h1]
          exact samev_truth _ _ w
        · by_cases h2 : p.kind = 2
          · rw [hv.wholeOf h2, hu.wholeOf (by omega), s2 h2]
            exact samev_whole _ _ _ _ w _ rfl
          · rw [hv.rowOf (by omega) h1 h2 h7, hu.rowOf (by omega) (by omega) (by omega) (by omega), s3 (by omega) h1 h2 h7, ← hk]
            exact samev_row _ _ _ w _ rfl
    · exact samev_kinds p q v u w hv hu (by omega) (by omega) hk

theorem Same_any (p q : Pt) (v u : Value) (w : World) (hp : mayB p = true) (hq : mayB q = true) (hv : VI w 0 w.heap.size p v) (hu : VI w 0 w.heap.size q u) :
    Calls Tryd.prog 39 #[v, u] w fun e w' => e = .returned (.bool (sameP p q)) ∧ Below w.heap.size w w' := by
  have HP := Lib.hid hp
  have HQ := Lib.hid hq
  have HV := Lib.hid hv
  have HU := Lib.hid hu
  clear hp hq hv hu
  go_enter Tryd.func39, Tryd.ntmps39
  go_wp2_with fail
  refine (samev_any p q v u _ HP.out HQ.out HV.out HU.out).mono ?_
  rintro e w1 ⟨rfl, hb1⟩
  go_wp2_with fail
  go_ret
  exact ⟨rfl, hb1⟩
end Go.Proofs.YtcgphlilijeifaaDoor.V
end
section
/-
  The law's awake: its contract.
-/
namespace Go.Proofs.YtcgphlilijeifaaDoor.V
open Go.RowKit

def E0 : ByteArray := ⟨#[]⟩
def pTrue : Pt := .mk 1 true false E0 E0 []
def pNull : Pt := .mk 0 false false E0 E0 []
def pName : Pt := .mk 5 false false E0 ⟨#[97, 98]⟩ []
def pAll : Pt := .mk 7 false false E0 E0 [pTrue, pNull, pName]
theorem pAll_make : makeE pAll = 0 := by decide +kernel
theorem pAll_depth : depthP pAll = 1 := by decide +kernel
theorem fit0 (p : Pt) (hk : p.kind < 256) (hm : p.mag.size ≤ 2) (hr : p.raw.size ≤ 2) (hl : p.items.length ≤ 3) : Fit p := ⟨hk, by omega, by omega, by omega⟩
theorem fTrue : Fit pTrue := fit0 _ (by decide) (by decide) (by decide) (by decide)
theorem fNull : Fit pNull := fit0 _ (by decide) (by decide) (by decide) (by decide)
theorem fName : Fit pName := fit0 _ (by decide) (by decide) (by decide) (by decide)
theorem fAll : Fit pAll := fit0 _ (by decide) (by decide) (by decide) (by decide)
def cells18 : Array Value := #[.int .u8 1, .bool true, .bool false, .string ⟨#[]⟩, .string ⟨#[]⟩, .slice none 0 0, .int .u8 0, .bool false, .bool false, .string ⟨#[]⟩, .string ⟨#[]⟩, .slice none 0 0, .int .u8 5, .bool false, .bool false, .string ⟨#[]⟩, .string ⟨#[97, 98]⟩, .slice none 0 0]
theorem pi18 (w : World) (g : Nat) (hg : g < w.heap.size) (h : ∀ c, w.cell? ⟨g, c, none⟩ = cells18[c]?) : PI w 0 w.heap.size pAll.items (.slice (some ⟨g, 0, none⟩) 3 3) := by
  refine PI.mk [pTrue, pNull, pName] (some ⟨g, 0, none⟩) 3 (fun _ => .slice none 0 0) (by decide) (fun j hj => ⟨g, 0, rfl, Nat.zero_le _, hg, ?_⟩) (fun j hj => ?_) (fun j hj => ?_)
  · match j, hj with
    | 0, _ => exact ⟨h 0, h 1, h 2, h 3, h 4, h 5⟩
    | 1, _ => exact ⟨h 6, h 7, h 8, h 9, h 10, h 11⟩
    | 2, _ => exact ⟨h 12, h 13, h 14, h 15, h 16, h 17⟩
  · match j, hj with
    | 0, _ => exact fTrue
    | 1, _ => exact fNull
    | 2, _ => exact fName
  · match j, hj with
    | 0, _ => exact PI.nil _ _ _
    | 1, _ => exact PI.nil _ _ _
    | 2, _ => exact PI.nil _ _ _

theorem kc {w w' : World} (hb : Below w.heap.size w w') {a : Addr} {v : Value} (h : w.cell? a = some v) : w'.cell? a = some v := by
  rw [hb.cell (World.block_lt_of_cell? w _ h), h]

set_option maxRecDepth 100000 in
set_option maxHeartbeats 4000000 in
theorem awake_any (w : World) : Calls Tryd.prog 13 #[] w fun e w' => e = .returned (.bool true) ∧ Below w.heap.size w w' := by
  have m1 : ∀ (a : Option Addr) (n cap : Nat) (w : World), (method 338 145 (.agg #[.slice a n cap]) "Len").run Tryd.prog w = .ok (163, .agg #[.slice a n cap]) w := fun _ _ _ _ => by kernel_rfl
  have m2 : ∀ (a : Option Addr) (n cap : Nat) (w : World), (method 338 145 (.agg #[.slice a n cap]) "At").run Tryd.prog w = .ok (161, .agg #[.slice a n cap]) w := fun _ _ _ _ => by kernel_rfl
  have m3 : ∀ (k : Nat) (r : ByteArray) (w : World), (method 338 147 (.agg #[.int .u8 k, .string r]) "Bytes").run Tryd.prog w = .ok (165, .agg #[.int .u8 k, .string r]) w := fun _ _ _ => by kernel_rfl
  have m4 : ∀ (y : Bool) (w : World), (method 338 140 (.agg #[.bool y]) "Part").run Tryd.prog w = .ok (157, .agg #[.bool y]) w := fun _ _ => by kernel_rfl
  have fd : ∀ (y : Bool) (w : World), (Instr.field 27 (.agg #[.int .u8 1, .bool y, .bool false, .string ⟨#[]⟩, .string ⟨#[]⟩, .slice none 0 0]) 1).run Tryd.prog w = .ok (.bool y) w := fun _ _ => by kernel_rfl
  go_enter Tryd.func13, Tryd.ntmps13
  go_wp2_with fail
  refine (make_any pAll _ _ fAll (pi18 _ w.heap.size (by simp; omega) (fun c => ?_))).mono ?_
  · simp [go_sem, cells18]
  rintro e w1 ⟨u, rfl, _, hv, hb⟩
  have hB1 : Below w.heap.size w w1 := (((Below.refl _ _).alloc (Nat.le_refl _) _).alloc (by simp) _).trans (hb.mono (by simp; omega))
  have hv := (hv pAll_make).wide (Nat.zero_le _) (Nat.le_refl _)
  clear hb
  obtain ⟨a, cap, F, hu, hC, hF⟩ := hv.tupleOf rfl
  replace hu : u = .iface 145 (.agg #[.slice a 3 cap]) := hu
  subst hu
  obtain ⟨g, rfl, _, _, c0⟩ := hC 0 (by decide)
  obtain ⟨g1, ha1, _, _, c1⟩ := hC 1 (by decide)
  obtain ⟨g2, ha2, _, _, c2⟩ := hC 2 (by decide)
  obtain rfl : g = g1 := by simpa using ha1
  obtain rfl : g = g2 := by simpa using ha2
  have v2 : VI w1 0 w1.heap.size pName (F 2) := hF 2 (by decide)
  have f0 : F 0 = .iface 140 (.agg #[.bool true]) := VI.truthOf (hF 0 (by decide)) rfl
  have f1 : F 1 = _ := VI.nilOf (hF 1 (by decide)) rfl
  have f2 : F 2 = .iface 147 (.agg #[.int .u8 5, .string ⟨#[97, 98]⟩]) := VI.rowOf (hF 2 (by decide)) (by decide) (by decide) (by decide) (by decide)
  rw [f0] at c0
  rw [f1] at c1
  rw [f2] at c2 v2
  have HV := Lib.hid hv
  have H2 := Lib.hid v2
  clear hF hC f0 f1 f2 F ha1 ha2 hv v2
  rw [pAll_make]
  go_wp2_with fail
  refine (AsList_any pAll _ _ HV.out (by decide) true (by decide)).mono ?_
  rintro e w2 ⟨rfl, rfl⟩
  rw [show ∀ v, asked true v = v from fun _ => rfl]
  go_wp2_with fail
  refine (len_tuple _ _ _ _).mono ?_
  rintro e w3 ⟨rfl, hb3⟩
  go_wp2_with fail
  refine (at_in g 3 cap 1 _ _ (by decide) (by decide) (kc hb3 c1)).mono ?_
  rintro e w4 ⟨rfl, hb4⟩
  replace hb4 := two hb3 hb4
  go_wp2_with fail
  refine (at_in g 3 cap 0 _ _ (by decide) (by decide) (kc hb4 c0)).mono ?_
  rintro e w5 ⟨rfl, hb5⟩
  replace hb5 := two hb4 hb5
  go_wp2_with fail
  refine (at_in g 3 cap 2 _ _ (by decide) (by decide) (kc hb5 c2)).mono ?_
  rintro e w6 ⟨rfl, hb6⟩
  replace hb6 := two hb5 hb6
  go_wp2_with fail
  refine (at_in g 3 cap 2 _ _ (by decide) (by decide) (kc hb6 c2)).mono ?_
  rintro e w7 ⟨rfl, hb7⟩
  replace hb7 := two hb6 hb7
  go_wp2_with fail
  refine (AsRaw_any pName _ _ H2.out (by decide) true (by decide)).mono ?_
  rintro e w8 ⟨rfl, rfl⟩
  rw [show ∀ v, asked true v = v from fun _ => rfl]
  go_wp2_with fail
  refine (bytes_row _ _ _).mono ?_
  rintro e w9 ⟨rfl, hb9⟩
  replace hb9 := two hb7 hb9
  go_wp2_with fail
  refine (at_in g 3 cap 0 _ _ (by decide) (by decide) (kc hb9 c0)).mono ?_
  rintro e w10 ⟨rfl, hb10⟩
  replace hb10 := two hb9 hb10
  go_wp2_with fail
  refine (part_truth true _).mono ?_
  rintro e w11 ⟨rfl, hb11⟩
  replace hb11 := two hb10 hb11
  go_wp2_with fail
  refine (Depth_any pAll _ _ (by decide +kernel) (by rw [pAll_depth]; decide) (HV.out.later hb11)).mono ?_
  rintro e w12 ⟨rfl, hb12⟩
  replace hb12 := two hb11 hb12
  rw [pAll_depth]
  go_wp2_with fail
  go_ret
  exact ⟨rfl, two hB1 hb12⟩
end Go.Proofs.YtcgphlilijeifaaDoor.V
end
section
/-
  The law's weight: its contract.
-/
namespace Go.Proofs.YtcgphlilijeifaaDoor.V
open Go.RowKit

/-- heavy tells some number; no more is asked of it. -/
def HeavyPost10 (w : World) (e : Ending) (w' : World) : Prop := ∃ r : Int, e = .returned (.int .i64 r) ∧ 0 ≤ r ∧ r ≤ 300000000000000 ∧ Below w.heap.size w w'
set_option maxRecDepth 100000 in
set_option maxHeartbeats 2000000 in
theorem heavy10_any (p : Pt) : ∀ (v : Value) (w : World) (n d : Int), 0 ≤ n → n ≤ 134217728 → 0 ≤ d → d ≤ 301 → Fit p → PI w 0 w.heap.size p.items v →
    Calls Tryd.prog 74 #[.agg #[.int .u8 p.kind, .bool p.yes, .bool p.neg, .string p.mag, .string p.raw, v], .int .i64 n, .int .i64 d] w (HeavyPost10 w) := by
  induction p using Pt.ind with
  | h p ih =>
  intro v w n d hn0 hn1 hd0 hd1 hf hp
  obtain ⟨a, cap, rfl, _, hat⟩ := hp.open
  have HA := Lib.hid hat
  have IH := Lib.hid ih
  have hl := hf.l
  have hm := hf.m
  have hr := hf.r
  clear hat ih hp
  by_cases hd : 300 < d
  · go_enter Tryd.func74, Tryd.ntmps74
    go_wp2_with fail
    go_ret
    exact ⟨_, rfl, by decide, by decide, (Below.refl _ _).alloc (Nat.le_refl _) _⟩
  · go_enter Tryd.func74, Tryd.ntmps74
    go_wp2_with fail
    go_loopw [1, 7] (fun m i wr => ∃ (k : Nat) (s : Int), k ≤ p.items.length ∧ i = .int .i64 k ∧ m = .int .i64 s ∧ 0 ≤ s ∧ s ≤ 300000000000000 ∧ Below w.heap.size w wr ∧ w.heap.size < wr.heap.size ∧ wr.cell? ⟨w.heap.size, 5, none⟩ = some (.slice a p.items.length cap)) (fun _ i _ => p.items.length - (intOf i).toNat)
    case atStart => exact ⟨0, _, Nat.zero_le _, rfl, rfl, by omega, by omega, (Below.refl _ _).alloc (Nat.le_refl _) _, by simp, by simp⟩
    case round =>
      obtain ⟨k, s, hkl, rfl, rfl, hs0, hs1, hB, hsz, f5⟩ := hrel
      by_cases hlt : k < p.items.length
      · have q3 : decide (k < p.items.length) = true := by simpa using hlt
        by_cases hs : s ≤ 134217728
        · have q4 : decide (s ≤ 134217728) = true := by simpa using hs
          obtain ⟨b, off, u, rfl, _, hb, hc, hfit, hpi⟩ := HA.out k hlt
          obtain ⟨d0, d1, d2, d3, d4, d5⟩ := hc.same (Same.of_below hB (Nat.le_refl _)) (Nat.zero_le _) hb
          have hmem : p.items[k] ∈ p.items := List.getElem_mem _
          obtain ⟨q, hq⟩ : ∃ q, p.items[k] = q := ⟨_, rfl⟩
          rw [hq] at d0 d1 d2 d3 d4 hfit hpi hmem
          obtain ⟨a2, cap2, rfl, _, _⟩ := hpi.open
          have hpi2 := Lib.hid hpi
          clear hc hq hpi
          go_wp2_with fail
          refine (IH.out q hmem _ _ s (d + 1) hs0 hs (by omega) (by omega) hfit (hpi2.out.later hB)).mono ?_
          rintro e w1 ⟨r, rfl, hr0, hr1, hb1⟩
          have hB1 : Below w.heap.size w w1 := hB.trans (hb1.mono (by omega))
          have hz1 : w.heap.size < w1.heap.size := by have := hb1.size; omega
          have F5 := Lib.hid (keep hb1 hsz f5)
          clear d0 d1 d2 d3 d4 d5 f5 hB hb1 hsz
          go_wp2_with fail
          refine ⟨?_, by simp [intOf]; omega⟩
          first
            | exact ⟨k + 1, r, by omega, rfl, rfl, hr0, hr1, hB1, hz1, F5.out⟩
            | ((repeat apply Exists.intro); exact ⟨⟨k + 1, r, by omega, rfl, rfl, hr0, hr1, hB1, hz1, F5.out⟩, rfl⟩)
        · have q4 : decide (s ≤ 134217728) = false := by simpa using hs
          go_wp2_with fail
          go_ret
          exact ⟨s, rfl, hs0, hs1, hB⟩
      · have q3 : decide (k < p.items.length) = false := by simpa using hlt
        go_wp2_with fail
        go_ret
        exact ⟨s, rfl, hs0, hs1, hB⟩

theorem weight10_any (p : Pt) (v : Value) (w : World) (n : Int) (hn0 : 0 ≤ n) (hn1 : n ≤ 134217728) (hf : Fit p) (hp : PI w 0 w.heap.size p.items v) :
    Calls Tryd.prog 34 #[.agg #[.int .u8 p.kind, .bool p.yes, .bool p.neg, .string p.mag, .string p.raw, v], .int .i64 n] w (HeavyPost10 w) := by
  have hp0 := Lib.hid hp
  obtain ⟨a, cap, rfl, _, _⟩ := hp.open
  clear hp
  go_enter Tryd.func34, Tryd.ntmps34
  go_wp2_with fail
  refine (heavy10_any p _ _ n 0 hn0 hn1 (by decide) (by decide) hf (by first | exact hp0.out | exact hp0.out.later ((Below.refl _ _).alloc (Nat.le_refl _) _))).mono ?_
  rintro e w1 ⟨r, rfl, hr0, hr1, hb1⟩
  go_wp2_with fail
  go_ret
  exact ⟨r, rfl, hr0, hr1, by first | exact hb1 | exact ((Below.refl _ _).alloc (Nat.le_refl _) _).trans (hb1.mono (by simp))⟩
end Go.Proofs.YtcgphlilijeifaaDoor.V
end
section
/-
  LitPrints's walk (printed by wip/tools/mk-litlaws.py).
-/
namespace Go.Proofs.YtcgphlilijeifaaDoor.L
open Go.RowKit
open V (Pt)

set_option maxRecDepth 100000 in
set_option maxHeartbeats 4000000 in
theorem litPrints_any (p : Pt) (v : Value) (w : World) (hf : V.FitA p) (hp : V.PI w 0 w.heap.size p.items v) :
    Calls Tryd.prog 10 #[.agg #[.int .u8 p.kind, .bool p.yes, .bool p.neg, .string p.mag, .string p.raw, v]] w fun e w' => e = .returned (.bool true) ∧ Below w.heap.size w w' := by
  have f0 := Lib.hid hf.fit
  have HF := Lib.hid hf
  have hp0 := Lib.hid hp
  obtain ⟨a, cap, rfl, _, _⟩ := hp.open
  have hbx := Lib.hid (V.Box.new w p (.slice a p.items.length cap) 27)
  clear hp hf
  go_enter Tryd.func10, Tryd.ntmps10
  go_wp2_with fail
  refine (awake10_any _).mono ?_
  rintro e w1 ⟨rfl, hb1⟩
  have hB1 : Below w.heap.size w w1 := ((Below.refl _ _).alloc (Nat.le_refl _) _).trans (hb1.mono (by simp))
  have hx1 := Lib.hid (hbx.out.later hb1 (by simp))
  clear hbx hb1
  obtain ⟨_, ⟨c0, c1, c2, c3, c4, c5⟩⟩ := hx1.out
  go_wp2_with fail
  refine (V.weight10_any p _ _ 0 (by decide) (by decide) f0.out (hp0.out.later hB1)).mono ?_
  rintro e w2 ⟨r, rfl, hr0, hr1, hb2⟩
  have hB2 := V.two hB1 hb2
  have hx2 := Lib.hid (hx1.out.later hb2 hx1.out.lt)
  clear c0 c1 c2 c3 c4 c5 hb2 hx1 hB1
  obtain ⟨_, ⟨c0, c1, c2, c3, c4, c5⟩⟩ := hx2.out
  by_cases hbig : 134217728 < r
  · have q1 : decide (134217728 < r) = true := by simpa using hbig
    go_wp2_with fail
    go_ret
    exact ⟨rfl, hB2⟩
  have q1 : decide (134217728 < r) = false := by simpa using hbig
  clear hbig hr0 hr1
  go_wp2_with fail
  refine (V.rmake_any p _ _ f0.out (hp0.out.later hB2)).mono ?_
  rintro e w3 ⟨rfl, hb3⟩
  have hB3 := V.two hB2 hb3
  have hx3 := Lib.hid (hx2.out.later hb3 hx2.out.lt)
  clear c0 c1 c2 c3 c4 c5 hb3 hx2 hB2
  obtain ⟨_, ⟨c0, c1, c2, c3, c4, c5⟩⟩ := hx3.out
  rcases V.makeE_three p with hm | hm | hm
  rotate_left
  · rw [hm]
    clear hm
    go_wp2_with fail
    go_ret
    exact ⟨rfl, hB3⟩
  · rw [hm]
    clear hm
    go_wp2_with fail
    go_ret
    exact ⟨rfl, hB3⟩
  have HM := Lib.hid (V.makeE_ok hm).2
  have HD := Lib.hid (V.makeE_depth hm)
  have HE := Lib.hid hm
  rw [hm]
  clear hm
  go_wp2_with fail
  refine (V.make_any p _ _ f0.out (hp0.out.later hB3)).mono ?_
  rintro e w4 ⟨u, rfl, _, hv, hb4⟩
  have hv4 := Lib.hid ((hv HE.out).wide (Nat.zero_le _) (Nat.le_refl _))
  rw [HE.out]
  have hB4 := V.two hB3 hb4
  have hx4 := Lib.hid (hx3.out.later hb4 hx3.out.lt)
  clear c0 c1 c2 c3 c4 c5 hv hb4 hx3 hB3
  obtain ⟨_, ⟨c0, c1, c2, c3, c4, c5⟩⟩ := hx4.out
  go_wp2_with fail
  refine (lprint_any p u _ HM.out (by have := HD.out; omega) hv4.out).mono ?_
  rintro e w5 ⟨hb5, ⟨hle, t, rfl, ht⟩ | ⟨hgt, rfl⟩⟩
  · have hB5 := V.two hB4 hb5
    have hx5 := Lib.hid (hx4.out.later hb5 hx4.out.lt)
    have hv5 := Lib.hid (hv4.out.later hb5)
    clear c0 c1 c2 c3 c4 c5 hb5 hx4 hv4 hB4
    obtain ⟨_, ⟨c0, c1, c2, c3, c4, c5⟩⟩ := hx5.out
    go_wp2_with fail
    refine (rprint10_any p a cap _ HM.out (by have := HD.out; omega) (hp0.out.later hB5)).mono ?_
    rintro e w6 ⟨hb6, ⟨hle2, t2, rfl, ht2⟩ | ⟨hgt2, rfl⟩⟩
    rotate_left
    · exact absurd hgt2 (by omega)
    obtain rfl : t2 = t := V.ba_same (by rw [ht.out, ht2.out])
    clear ht ht2 hle hle2
    have hB6 := V.two hB5 hb6
    have hx6 := Lib.hid (hx5.out.later hb6 hx5.out.lt)
    have hv6 := Lib.hid (hv5.out.later hb6)
    clear c0 c1 c2 c3 c4 c5 hb6 hx5 hv5 hB5
    obtain ⟨_, ⟨c0, c1, c2, c3, c4, c5⟩⟩ := hx6.out
    go_wp2_with fail
    refine (V.tell_any p u _ HM.out HF.out hv6.out).mono ?_
    rintro e w7 ⟨a2, cap2, rfl, hown, hb7⟩
    have hB7 := V.two hB6 hb7
    have hx7 := Lib.hid (hx6.out.later hb7 hx6.out.lt)
    have ho7 := Lib.hid (hown.reads.wide (Nat.zero_le _) (Nat.le_refl _))
    clear c0 c1 c2 c3 c4 c5 hb7 hown hx6 hv6 hB6
    obtain ⟨_, ⟨c0, c1, c2, c3, c4, c5⟩⟩ := hx7.out
    have hy7 := Lib.hid (V.Box.new w7 p (.slice a2 p.items.length cap2) 27)
    have hA7 : Below w7.heap.size w7 (w7.alloc (.cells #[.int .u8 p.kind, .bool p.yes, .bool p.neg, .string p.mag, .string p.raw, .slice a2 p.items.length cap2] 27)) := (Below.refl _ _).alloc (Nat.le_refl _) _
    go_wp2_with fail
    first
      | (refine (V.same_any p p _ _ _ f0.out f0.out (ho7.out.later hA7) (hp0.out.later (V.two hB7 hA7))).mono ?_
         rintro e w8 ⟨rfl, hb8⟩
         have hB8 := V.two (V.two hB7 hA7) hb8)
      | (refine (V.same_any p p _ _ _ f0.out f0.out ho7.out (hp0.out.later hB7)).mono ?_
         rintro e w8 ⟨rfl, hb8⟩
         have hB8 := V.two hB7 hb8)
    rw [sameP_self]
    clear c0 c1 c2 c3 c4 c5
    go_wp2_with fail
    go_ret
    exact ⟨rfl, hB8⟩
  · have hB5 := V.two hB4 hb5
    have hx5 := Lib.hid (hx4.out.later hb5 hx4.out.lt)
    have hv5 := Lib.hid (hv4.out.later hb5)
    clear c0 c1 c2 c3 c4 c5 hb5 hx4 hv4 hB4
    obtain ⟨_, ⟨c0, c1, c2, c3, c4, c5⟩⟩ := hx5.out
    go_wp2_with fail
    refine (rprint10_any p a cap _ HM.out (by have := HD.out; omega) (hp0.out.later hB5)).mono ?_
    rintro e w6 ⟨hb6, ⟨hle2, t2, rfl, ht2⟩ | ⟨hgt2, rfl⟩⟩
    · exact absurd hle2 (by omega)
    clear hgt hgt2
    have hB6 := V.two hB5 hb6
    have hx6 := Lib.hid (hx5.out.later hb6 hx5.out.lt)
    have hv6 := Lib.hid (hv5.out.later hb6)
    clear c0 c1 c2 c3 c4 c5 hb6 hx5 hv5 hB5
    obtain ⟨_, ⟨c0, c1, c2, c3, c4, c5⟩⟩ := hx6.out
    go_wp2_with fail
    refine (V.tell_any p u _ HM.out HF.out hv6.out).mono ?_
    rintro e w7 ⟨a2, cap2, rfl, hown, hb7⟩
    have hB7 := V.two hB6 hb7
    have hx7 := Lib.hid (hx6.out.later hb7 hx6.out.lt)
    have ho7 := Lib.hid (hown.reads.wide (Nat.zero_le _) (Nat.le_refl _))
    clear c0 c1 c2 c3 c4 c5 hb7 hown hx6 hv6 hB6
    obtain ⟨_, ⟨c0, c1, c2, c3, c4, c5⟩⟩ := hx7.out
    have hy7 := Lib.hid (V.Box.new w7 p (.slice a2 p.items.length cap2) 27)
    have hA7 : Below w7.heap.size w7 (w7.alloc (.cells #[.int .u8 p.kind, .bool p.yes, .bool p.neg, .string p.mag, .string p.raw, .slice a2 p.items.length cap2] 27)) := (Below.refl _ _).alloc (Nat.le_refl _) _
    go_wp2_with fail
    first
      | (refine (V.same_any p p _ _ _ f0.out f0.out (ho7.out.later hA7) (hp0.out.later (V.two hB7 hA7))).mono ?_
         rintro e w8 ⟨rfl, hb8⟩
         have hB8 := V.two (V.two hB7 hA7) hb8)
      | (refine (V.same_any p p _ _ _ f0.out f0.out ho7.out (hp0.out.later hB7)).mono ?_
         rintro e w8 ⟨rfl, hb8⟩
         have hB8 := V.two hB7 hb8)
    rw [sameP_self]
    clear c0 c1 c2 c3 c4 c5
    go_wp2_with fail
    go_ret
    exact ⟨rfl, hB8⟩
end Go.Proofs.YtcgphlilijeifaaDoor.L
end
section
/-
  A part among the arguments, opened.
-/
namespace Go.Proofs.YtcgphlilijeifaaDoor.V
open Go.ChangeShapes Go.WideShapes Go.ChangeAt Go.RowKit Go.Deep

theorem wAll {H : Type} {P : Program} {e : TypeId} {ds : List (DataW H)} {d : DataW H} (hd : d ∈ ds) : ∀ n ∈ d.weights P e, n ∈ DataW.weightsAll P e ds := by
  induction ds with
  | nil => cases hd
  | cons a r ih =>
    intro n hn
    rw [DataW.weightsAll, List.mem_append]
    rcases List.mem_cons.1 hd with h | h
    · exact .inl (h ▸ hn)
    · exact .inr (ih h n hn)

def ListOpens (H : Type) (enc : TypeId × Value → H) (w : World) (base : Nat) (sp : Nat → Bool) (held : Bool) (fuel : Nat) : Prop :=
  ∀ (v : Value) (x : DataW H × List MemPlace), DataW.trod enc Tryd.prog w base sp held fuel 25 [v] = some x → (∀ n ∈ x.1.weights Tryd.prog 25, n ≤ reachBytes) → ∃ l, PI w 0 w.heap.size l v ∧ l.length ≤ reachBytes

set_option maxRecDepth 100000 in
theorem part_trod {H : Type} {enc : TypeId × Value → H} {w : World} {base : Nat} {sp : Nat → Bool} {held : Bool} {fuel : Nat} {cs : List Value} {x : DataW H × List MemPlace}
    (ih : ∀ m, m < fuel → ListOpens H enc w base sp held m) (h : DataW.trod enc Tryd.prog w base sp held fuel 27 cs = some x) (hw : ∀ n ∈ x.1.weights Tryd.prog 27, n ≤ reachBytes) :
    ∃ (p : Pt) (u : Value), cs = [.int .u8 p.kind, .bool p.yes, .bool p.neg, .string p.mag, .string p.raw, u] ∧ Fit p ∧ PI w 0 w.heap.size p.items u := by
  obtain ⟨ys, n, hn, rfl, hcl, hyl, hf⟩ := DataW.trod_struct Tryd.underlying27 h
  have e27 : Tryd.prog.cellsOf 27 = 6 := by kernel_rfl
  rw [e27] at hcl
  match cs, hcl with
  | [v0, v1, v2, v3, v4, v5], _ =>
    match ys, hyl with
    | [y0, y1, y2, y3, y4], _ =>
      have e22 : Tryd.prog.cellsOf 22 = 1 := by kernel_rfl
      have e4 : Tryd.prog.cellsOf 4 = 1 := by kernel_rfl
      have e24 : Tryd.prog.cellsOf 24 = 2 := by kernel_rfl
      have e9 : Tryd.prog.cellsOf 9 = 1 := by kernel_rfl
      have e25 : Tryd.prog.cellsOf 25 = 1 := by kernel_rfl
      have h0 := hf 0 _ rfl
      have h1 := hf 1 _ rfl
      have h2 := hf 2 _ rfl
      have h3 := hf 3 _ rfl
      have h4 := hf 4 _ rfl
      simp [e22, e4, e24, e9, e25] at h0 h1 h2 h3 h4
      have hw' : ∀ n ∈ DataW.weightsEach Tryd.prog [22, 4, 24, 9, 25] [y0.1, y1.1, y2.1, y3.1, y4.1], n ≤ reachBytes := by
        simpa [DataW.weights, Tryd.underlying27] using hw
      have q2 : ∀ n ∈ y2.1.weights Tryd.prog 24, n ≤ reachBytes := fun n hn => hw' n (DataW.weights_mem_each (j := 2) rfl rfl n hn)
      have q3 : ∀ n ∈ y3.1.weights Tryd.prog 9, n ≤ reachBytes := fun n hn => hw' n (DataW.weights_mem_each (j := 3) rfl rfl n hn)
      have q4 : ∀ n ∈ y4.1.weights Tryd.prog 25, n ≤ reachBytes := fun n hn => hw' n (DataW.weights_mem_each (j := 4) rfl rfl n hn)
      obtain ⟨k, hk, _, hkw⟩ := DataW.trod_int Tryd.underlying22 h0
      obtain ⟨yes, hy, _⟩ := DataW.trod_bool Tryd.underlying4 h1
      obtain ⟨z0, z1, m, hz, _, g0, g1⟩ := trod_struct2 Tryd.underlying24 h2
      obtain ⟨neg, hng, _⟩ := DataW.trod_bool Tryd.underlying4 g0
      obtain ⟨mag, hmg, hmz, _⟩ := DataW.trod_string Tryd.underlying9 g1
      obtain ⟨raw, hrw, hrz, _⟩ := DataW.trod_string Tryd.underlying9 h3
      rw [e4] at hng
      rw [e9] at hmg
      obtain rfl : v0 = .int .u8 k := by simpa using hk
      obtain rfl : v1 = .bool yes := by simpa using hy
      obtain rfl : v2 = .bool neg := by simpa using hng
      obtain rfl : v3 = .string mag := by simpa using hmg
      obtain rfl : v4 = .string raw := by simpa using hrw
      have hkb : 0 ≤ k ∧ k ≤ 255 := by
        simp only [Lit.wf, Bool.and_eq_true, decide_eq_true_eq] at hkw
        exact hkw
      obtain ⟨l, hl, hll⟩ := ih n (by omega) v5 y4 h4 q4
      have hms : mag.size ≤ reachBytes := by
        refine q2 _ ?_
        rw [hz]
        simp [DataW.weights, Tryd.underlying24, DataW.weightsEach, hmz]
      have hrs : raw.size ≤ reachBytes := by
        refine q3 _ ?_
        rw [hrz]
        simp [DataW.weights]
      have hr : reachBytes = 140737488351232 := by decide
      rw [hr] at hms hrs hll
      refine ⟨.mk k.toNat yes neg mag raw l, v5, ?_, ⟨?_, hms, hrs, hll⟩, hl⟩
      · show [Value.int .u8 k, _, _, _, _, _] = [.int .u8 (k.toNat : Int), _, _, _, _, _]
        rw [Int.toNat_of_nonneg hkb.1]
        rfl
      · show k.toNat < 256
        omega

set_option maxRecDepth 100000 in
theorem list_trod {H : Type} {enc : TypeId × Value → H} {w : World} {base : Nat} {sp : Nat → Bool} {held : Bool} (fuel : Nat) : ListOpens H enc w base sp held fuel := by
  induction fuel using Nat.strongRecOn with
  | _ fuel ih =>
  intro v x h hw
  rcases DataW.trod_slice Tryd.underlying25 h with ⟨hc, rfl⟩ | ⟨a, len, cap, elems, rest, n, rfl, hc, rfl, _, hlc, _, hel, hall, _⟩
  · obtain rfl : v = .slice none 0 0 := by simpa using hc
    exact ⟨[], PI.nil _ _ _, Nat.zero_le _⟩
  obtain rfl : v = .slice (some a) len cap := by simpa using hc
  have e27 : Tryd.prog.cellsOf 27 = 6 := by kernel_rfl
  have b27 : 1 ≤ Tryd.prog.bytesOf 27 := by decide +kernel
  rw [e27] at hall
  have hw' : (elems.length + rest.length) * Tryd.prog.bytesOf 27 ≤ reachBytes ∧ ∀ n ∈ DataW.weightsAll Tryd.prog 27 (elems.map (·.1)), n ≤ reachBytes := by
    simp only [DataW.weights, Tryd.underlying25, List.length_map, List.mem_cons, List.mem_append] at hw
    exact ⟨hw _ (.inl rfl), fun n hn => hw n (.inr (.inl hn))⟩
  have hlen : len ≤ reachBytes := by
    have h1 : (elems.length + rest.length) * 1 ≤ (elems.length + rest.length) * Tryd.prog.bytesOf 27 := Nat.mul_le_mul_left _ b27
    omega
  obtain ⟨b, off, spot⟩ := a
  by_cases h0 : len = 0
  · subst h0
    exact ⟨[], PI.mk [] (some ⟨b, off, spot⟩) cap (fun _ => .nilIface) (Nat.zero_le _) (fun j hj => by cases hj) (fun j hj => by cases hj) (fun j hj => by cases hj), Nat.zero_le _⟩
  obtain rfl : spot = none := by
    have h1 := hall 0 (by omega)
    rw [List.getElem?_eq_getElem (by omega)] at h1
    obtain ⟨cs, h2, h3⟩ := Option.bind_eq_some_iff.1 h1
    obtain ⟨_, hcl, hat⟩ := World.cells?_some h2
    have := hat 0 (by decide)
    rw [List.getElem?_eq_getElem (by omega)] at this
    simpa [Addr.add] using World.cell?_spot this
  have hadd : ∀ o k, (⟨b, o, none⟩ : Addr).add k = ⟨b, o + k, none⟩ := fun o k => by
    simp only [Addr.add]
    split <;> simp_all
  have key : ∀ j, j < len → b < w.heap.size ∧ ∃ (p : Pt) (u : Value), PartCells w b (off + j * 6) p u ∧ Fit p ∧ PI w 0 w.heap.size p.items u := fun j hj => by
    have h1 := hall j hj
    rw [List.getElem?_eq_getElem (by omega)] at h1
    obtain ⟨cs, h2, h3⟩ := Option.bind_eq_some_iff.1 h1
    obtain ⟨p, u, rfl, hf, hp⟩ := part_trod (fun m hm => ih m (by omega)) h3 (fun m hm => hw'.2 m (wAll (List.mem_map.2 ⟨_, List.getElem_mem _, rfl⟩) m hm))
    obtain ⟨_, _, hat⟩ := World.cells?_some h2
    have at_ : ∀ i, i < 6 → w.cell? ⟨b, off + j * 6 + i, none⟩ = [Value.int .u8 p.kind, .bool p.yes, .bool p.neg, .string p.mag, .string p.raw, u][i]? := fun i hi => by
      rw [← hat i hi, hadd, hadd]
    exact ⟨World.block_lt_of_cell? w _ (at_ 0 (by decide)), p, u, ⟨at_ 0 (by decide), at_ 1 (by decide), at_ 2 (by decide), at_ 3 (by decide), at_ 4 (by decide), at_ 5 (by decide)⟩, hf, hp⟩
  let G : Nat → Pt := fun j => if hj : j < len then (key j hj).2.choose else .mk 0 false false ⟨#[]⟩ ⟨#[]⟩ []
  let F : Nat → Value := fun j => if hj : j < len then (key j hj).2.choose_spec.choose else .nilIface
  have hG : ∀ j, j < len → PartCells w b (off + j * 6) (G j) (F j) ∧ Fit (G j) ∧ PI w 0 w.heap.size (G j).items (F j) := fun j hj => by
    simp only [G, F, hj, dif_pos]
    exact (key j hj).2.choose_spec.choose_spec
  have hl : ((List.range len).map G).length = len := by simp
  have hg : ∀ j (h : j < ((List.range len).map G).length), ((List.range len).map G)[j] = G j := fun j h => by simp
  refine ⟨(List.range len).map G, ?_, by rw [hl]; exact hlen⟩
  have := PI.mk (w := w) (lo := 0) (hi := w.heap.size) ((List.range len).map G) (some ⟨b, off, none⟩) cap F (by rw [hl]; exact hlc)
    (fun j h => ⟨b, off, rfl, Nat.zero_le _, (key j (by omega)).1, by rw [hg]; exact (hG j (by omega)).1⟩) (fun j h => by rw [hg]; exact (hG j (by omega)).2.1) (fun j h => by rw [hg]; exact (hG j (by omega)).2.2)
  rw [hl] at this
  exact this

set_option maxRecDepth 100000 in
/-- A part handed in: its fields, its items. -/
theorem open_part {H : Type} {enc : TypeId × Value → H} {w : World} {base b0 : Nat} {sp : Nat → Bool} {held : Bool} {r : Reach} {v : Value} {d : DataW H} {ps : List MemPlace}
    (hval : Value.okWide Tryd.prog w r b0 27 v) (h : DataW.Trod enc Tryd.prog w base sp held 27 v d ps) (hw : ∀ n ∈ d.weights Tryd.prog 27, n ≤ reachBytes) :
    ∃ (p : Pt) (u : Value), v = .agg #[.int .u8 p.kind, .bool p.yes, .bool p.neg, .string p.mag, .string p.raw, u] ∧ FitA p ∧ PI w 0 w.heap.size p.items u := by
  obtain ⟨fuel, hf⟩ := h
  obtain ⟨p, u, hc, hfp, hp⟩ := part_trod (fun m _ => list_trod m) hf hw
  obtain ⟨cs, rfl, _⟩ := okWide_struct Tryd.underlying27 hval
  refine ⟨p, u, ?_, .mk p hfp hp.fitA, hp⟩
  have hc' : cs.toList = [.int .u8 p.kind, .bool p.yes, .bool p.neg, .string p.mag, .string p.raw, u] := hc
  cases cs
  simp_all
end Go.Proofs.YtcgphlilijeifaaDoor.V
end
