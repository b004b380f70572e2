/-
  The law's awake: its contract.
-/
import Derived.Test.YtcgphlilijeifaaDoorVSameX
namespace Go.Proofs.YtcgphlilijeifaaDoor.V
open Go.RowKit

def E0 : ByteArray := ⟨#[]⟩
def pTrue : Pt := .mk 1 true false E0 E0 []
def pNull : Pt := .mk 0 false false E0 E0 []
def pName : Pt := .mk 5 false false E0 ⟨#[97, 98]⟩ []
def pAll : Pt := .mk 7 false false E0 E0 [pTrue, pNull, pName]
theorem pAll_make : makeE pAll = 0 := by decide +kernel
theorem pAll_depth : depthP pAll = 1 := by decide +kernel
theorem fit0 (p : Pt) (hk : p.kind < 256) (hm : p.mag.size ≤ 2) (hr : p.raw.size ≤ 2) (hl : p.items.length ≤ 3) : Fit p := ⟨hk, by omega, by omega, by omega⟩
theorem fTrue : Fit pTrue := fit0 _ (by decide) (by decide) (by decide) (by decide)
theorem fNull : Fit pNull := fit0 _ (by decide) (by decide) (by decide) (by decide)
theorem fName : Fit pName := fit0 _ (by decide) (by decide) (by decide) (by decide)
theorem fAll : Fit pAll := fit0 _ (by decide) (by decide) (by decide) (by decide)
def cells18 : Array Value := #[.int .u8 1, .bool true, .bool false, .string ⟨#[]⟩, .string ⟨#[]⟩, .slice none 0 0, .int .u8 0, .bool false, .bool false, .string ⟨#[]⟩, .string ⟨#[]⟩, .slice none 0 0, .int .u8 5, .bool false, .bool false, .string ⟨#[]⟩, .string ⟨#[97, 98]⟩, .slice none 0 0]
theorem pi18 (w : World) (g : Nat) (hg : g < w.heap.size) (h : ∀ c, w.cell? ⟨g, c, none⟩ = cells18[c]?) : PI w 0 w.heap.size pAll.items (.slice (some ⟨g, 0, none⟩) 3 3) := by
  refine PI.mk [pTrue, pNull, pName] (some ⟨g, 0, none⟩) 3 (fun _ => .slice none 0 0) (by decide) (fun j hj => ⟨g, 0, rfl, Nat.zero_le _, hg, ?_⟩) (fun j hj => ?_) (fun j hj => ?_)
  · match j, hj with
    | 0, _ => exact ⟨h 0, h 1, h 2, h 3, h 4, h 5⟩
    | 1, _ => exact ⟨h 6, h 7, h 8, h 9, h 10, h 11⟩
    | 2, _ => exact ⟨h 12, h 13, h 14, h 15, h 16, h 17⟩
  · match j, hj with
    | 0, _ => exact fTrue
    | 1, _ => exact fNull
    | 2, _ => exact fName
  · match j, hj with
    | 0, _ => exact PI.nil _ _ _
    | 1, _ => exact PI.nil _ _ _
    | 2, _ => exact PI.nil _ _ _

theorem kc {w w' : World} (hb : Below w.heap.size w w') {a : Addr} {v : Value} (h : w.cell? a = some v) : w'.cell? a = some v := by
  rw [hb.cell (World.block_lt_of_cell? w _ h), h]

set_option maxRecDepth 100000 in
set_option maxHeartbeats 4000000 in
theorem awake_any (w : World) : Calls Tryd.prog 13 #[] w fun e w' => e = .returned (.bool true) ∧ Below w.heap.size w w' := by
  have m1 : ∀ (a : Option Addr) (n cap : Nat) (w : World), (method 338 145 (.agg #[.slice a n cap]) "Len").run Tryd.prog w = .ok (163, .agg #[.slice a n cap]) w := fun _ _ _ _ => by kernel_rfl
  have m2 : ∀ (a : Option Addr) (n cap : Nat) (w : World), (method 338 145 (.agg #[.slice a n cap]) "At").run Tryd.prog w = .ok (161, .agg #[.slice a n cap]) w := fun _ _ _ _ => by kernel_rfl
  have m3 : ∀ (k : Nat) (r : ByteArray) (w : World), (method 338 147 (.agg #[.int .u8 k, .string r]) "Bytes").run Tryd.prog w = .ok (165, .agg #[.int .u8 k, .string r]) w := fun _ _ _ => by kernel_rfl
  have m4 : ∀ (y : Bool) (w : World), (method 338 140 (.agg #[.bool y]) "Part").run Tryd.prog w = .ok (157, .agg #[.bool y]) w := fun _ _ => by kernel_rfl
  have fd : ∀ (y : Bool) (w : World), (Instr.field 27 (.agg #[.int .u8 1, .bool y, .bool false, .string ⟨#[]⟩, .string ⟨#[]⟩, .slice none 0 0]) 1).run Tryd.prog w = .ok (.bool y) w := fun _ _ => by kernel_rfl
  go_enter Tryd.func13, Tryd.ntmps13
  go_wp2_with fail
  refine (make_any pAll _ _ fAll (pi18 _ w.heap.size (by simp; omega) (fun c => ?_))).mono ?_
  · simp [go_sem, cells18]
  rintro e w1 ⟨u, rfl, _, hv, hb⟩
  have hB1 : Below w.heap.size w w1 := (((Below.refl _ _).alloc (Nat.le_refl _) _).alloc (by simp) _).trans (hb.mono (by simp; omega))
  have hv := (hv pAll_make).wide (Nat.zero_le _) (Nat.le_refl _)
  clear hb
  obtain ⟨a, cap, F, hu, hC, hF⟩ := hv.tupleOf rfl
  replace hu : u = .iface 145 (.agg #[.slice a 3 cap]) := hu
  subst hu
  obtain ⟨g, rfl, _, _, c0⟩ := hC 0 (by decide)
  obtain ⟨g1, ha1, _, _, c1⟩ := hC 1 (by decide)
  obtain ⟨g2, ha2, _, _, c2⟩ := hC 2 (by decide)
  obtain rfl : g = g1 := by simpa using ha1
  obtain rfl : g = g2 := by simpa using ha2
  have v2 : VI w1 0 w1.heap.size pName (F 2) := hF 2 (by decide)
  have f0 : F 0 = .iface 140 (.agg #[.bool true]) := VI.truthOf (hF 0 (by decide)) rfl
  have f1 : F 1 = _ := VI.nilOf (hF 1 (by decide)) rfl
  have f2 : F 2 = .iface 147 (.agg #[.int .u8 5, .string ⟨#[97, 98]⟩]) := VI.rowOf (hF 2 (by decide)) (by decide) (by decide) (by decide) (by decide)
  rw [f0] at c0
  rw [f1] at c1
  rw [f2] at c2 v2
  have HV := Lib.hid hv
  have H2 := Lib.hid v2
  clear hF hC f0 f1 f2 F ha1 ha2 hv v2
  rw [pAll_make]
  go_wp2_with fail
  refine (AsList_any pAll _ _ HV.out (by decide) true (by decide)).mono ?_
  rintro e w2 ⟨rfl, rfl⟩
  rw [show ∀ v, asked true v = v from fun _ => rfl]
  go_wp2_with fail
  refine (len_tuple _ _ _ _).mono ?_
  rintro e w3 ⟨rfl, hb3⟩
  go_wp2_with fail
  refine (at_in g 3 cap 1 _ _ (by decide) (by decide) (kc hb3 c1)).mono ?_
  rintro e w4 ⟨rfl, hb4⟩
  replace hb4 := two hb3 hb4
  go_wp2_with fail
  refine (at_in g 3 cap 0 _ _ (by decide) (by decide) (kc hb4 c0)).mono ?_
  rintro e w5 ⟨rfl, hb5⟩
  replace hb5 := two hb4 hb5
  go_wp2_with fail
  refine (at_in g 3 cap 2 _ _ (by decide) (by decide) (kc hb5 c2)).mono ?_
  rintro e w6 ⟨rfl, hb6⟩
  replace hb6 := two hb5 hb6
  go_wp2_with fail
  refine (at_in g 3 cap 2 _ _ (by decide) (by decide) (kc hb6 c2)).mono ?_
  rintro e w7 ⟨rfl, hb7⟩
  replace hb7 := two hb6 hb7
  go_wp2_with fail
  refine (AsRaw_any pName _ _ H2.out (by decide) true (by decide)).mono ?_
  rintro e w8 ⟨rfl, rfl⟩
  rw [show ∀ v, asked true v = v from fun _ => rfl]
  go_wp2_with fail
  refine (bytes_row _ _ _).mono ?_
  rintro e w9 ⟨rfl, hb9⟩
  replace hb9 := two hb7 hb9
  go_wp2_with fail
  refine (at_in g 3 cap 0 _ _ (by decide) (by decide) (kc hb9 c0)).mono ?_
  rintro e w10 ⟨rfl, hb10⟩
  replace hb10 := two hb9 hb10
  go_wp2_with fail
  refine (part_truth true _).mono ?_
  rintro e w11 ⟨rfl, hb11⟩
  replace hb11 := two hb10 hb11
  go_wp2_with fail
  refine (Depth_any pAll _ _ (by decide +kernel) (by rw [pAll_depth]; decide) (HV.out.later hb11)).mono ?_
  rintro e w12 ⟨rfl, hb12⟩
  replace hb12 := two hb11 hb12
  rw [pAll_depth]
  go_wp2_with fail
  go_ret
  exact ⟨rfl, two hB1 hb12⟩
end Go.Proofs.YtcgphlilijeifaaDoor.V
