/-
  The law's looks: its contract.
-/
import Derived.Test.YtcgphlilijeifaaDoorVAwake
import Derived.Deep.RegionHeld3
import Derived.BigQuiet
import Derived.Deep.QuietTactic
namespace Go.Proofs.YtcgphlilijeifaaDoor.V
open Go.RowKit

theorem sameL_self {l : List Pt} (h : ∀ q ∈ l, sameP q q = true) : sameL l l = true := by
  induction l with
  | nil => exact sameL_nil
  | cons p r ih => rw [sameL_cons, h p (List.mem_cons_self ..), ih (fun q hq => h q (List.mem_cons_of_mem _ hq))]; rfl
theorem sameP_self (p : Pt) : sameP p p = true := by
  induction p using Pt.ind with
  | h p ih => rw [sameP_eq, sameL_self ih]; simp [oneB]
theorem PI.at_ {w : World} {lo hi n cap : Nat} {l : List Pt} {a : Option Addr} (h : PI w lo hi l (.slice a n cap)) :
    ∀ j (h : j < l.length), ∃ b off u, a = some ⟨b, off, none⟩ ∧ lo ≤ b ∧ b < hi ∧ PartCells w b (off + j * 6) l[j] u ∧ Fit l[j] ∧ PI w lo hi l[j].items u := by
  obtain ⟨a', cap', he, _, hat⟩ := h.open
  injection he with h1 h2 h3
  subst h1
  exact hat
theorem tuple_later {w w1 : World} {p : Pt} {b : Option Addr} {n capb : Nat} (h : VI w 0 w.heap.size p (.iface 145 (.agg #[.slice b n capb]))) (hb : Below w.heap.size w w1) : VI w1 0 w1.heap.size p (.iface 145 (.agg #[.slice b n capb])) := h.later hb

set_option maxRecDepth 100000 in
set_option maxHeartbeats 4000000 in
theorem looks_0 (p : Pt) (w : World) (a : Option Addr) (cap : Nat) (hmay : mayB p = true) (hf : FitA p) (hdp : depthP p ≤ 1000) (hp : PI w 0 w.heap.size p.items (.slice a p.items.length cap)) (hk : p.kind = 0)
    (hv : VI w 0 w.heap.size p (.nilIface)) :
    Calls Tryd.prog 20 #[.nilIface, .agg #[.int .u8 p.kind, .bool p.yes, .bool p.neg, .string p.mag, .string p.raw, .slice a p.items.length cap]] w fun e w' => e = .returned (.bool true) ∧ Below w.heap.size w w' := by
  have hk9 : p.kind ≤ 7 := may_kind7 hmay
  have hk8 : p.kind < 256 := by omega
  have f0 := Lib.hid hf.fit
  have HFA := Lib.hid hf
  have HM := Lib.hid hmay
  have HP := Lib.hid hp
  have HV := Lib.hid hv
  have hbx := Lib.hid (Box.new w p (.slice a p.items.length cap) 27)
  have e0 : ((p.kind : Int) == 0) = true := beq_iff_eq.2 (by omega)
  have e2 : ((p.kind : Int) == 2) = false := beq_eq_false_iff_ne.2 (by omega)
  have e7 : ((p.kind : Int) == 7) = false := beq_eq_false_iff_ne.2 (by omega)
  have XK := Lib.hid hk
  have q0 : ((p.kind : Int) != (p.kind : Int)) = false := by simp
  have n2 := Lib.hid (show (p.kind == 2) = false by simp; omega)
  have nr := Lib.hid (show rawB p = false by simp [rawB]; omega)
  have n7 := Lib.hid (show (p.kind == 7) = false by simp; omega)
  clear hmay hf hp hv hk
  go_enter Tryd.func20, Tryd.ntmps20
  go_wp2_with fail
  refine (AsNumber_any p _ _ HV.out hk9 false n2.out).mono ?_
  rintro e w1 ⟨rfl, rfl⟩
  rw [show ∀ v, asked false v = .nilIface from fun _ => rfl]
  go_wp2_with fail
  refine (AsRaw_any p _ _ HV.out hk9 false nr.out).mono ?_
  rintro e w1 ⟨rfl, rfl⟩
  rw [show ∀ v, asked false v = .nilIface from fun _ => rfl]
  go_wp2_with fail
  refine (AsList_any p _ _ HV.out hk9 false n7.out).mono ?_
  rintro e w1 ⟨rfl, rfl⟩
  rw [show ∀ v, asked false v = .nilIface from fun _ => rfl]
  go_wp2_with fail
  have hA0 : Below w.heap.size w (w.alloc (.cells #[.int .u8 p.kind, .bool p.yes, .bool p.neg, .string p.mag, .string p.raw, .slice a p.items.length cap] 27)) := (Below.refl _ _).alloc (Nat.le_refl _) _
  refine (tell_any p _ _ HM.out HFA.out (HV.out.later hA0)).mono ?_
  rintro e w1 ⟨a1, cap1, rfl, hown, hb1⟩
  have hB1 : Below w.heap.size w w1 := hA0.trans (hb1.mono (by simp))
  have hx1 := Lib.hid (hbx.out.later hb1 (by simp))
  have hv1 := Lib.hid (HV.out.later hB1)
  have hp1 := Lib.hid (HP.out.later hB1)
  have ho1 := Lib.hid (hown.reads.wide (Nat.zero_le _) (Nat.le_refl _))
  clear hown hb1 hbx hA0
  obtain ⟨_, ⟨c0, c1, c2, c3, c4, c5⟩⟩ := hx1.out
  go_wp2_with fail
  have hA1 : Below w1.heap.size w1 (w1.alloc (.cells #[.int .u8 p.kind, .bool p.yes, .bool p.neg, .string p.mag, .string p.raw, .slice a1 p.items.length cap1] 27)) := (Below.refl _ _).alloc (Nat.le_refl _) _
  refine (same_any p p _ _ _ f0.out f0.out (ho1.out.later hA1) (hp1.out.later hA1)).mono ?_
  rintro e w2 ⟨rfl, hb2⟩
  replace hb2 := hA1.trans (hb2.mono (by simp))
  clear hA1
  rw [sameP_self]
  have hB2 := two hB1 hb2
  have hx2 := Lib.hid (hx1.out.later hb2 hx1.out.lt)
  have hv2 := Lib.hid (hv1.out.later hb2)
  have hp2 := Lib.hid (hp1.out.later hb2)
  clear c0 c1 c2 c3 c4 c5 hb2 ho1 hx1 hv1 hp1 hB1
  obtain ⟨_, ⟨c0, c1, c2, c3, c4, c5⟩⟩ := hx2.out
  go_wp2_with fail
  refine (risraw_any p _ _ _ _ hk8).mono ?_
  rintro e w3 ⟨rfl, hb3⟩
  rw [nr.out]
  have hB3 := two hB2 hb3
  have hx3 := Lib.hid (hx2.out.later hb3 hx2.out.lt)
  have hv3 := Lib.hid (hv2.out.later hb3)
  have hp3 := Lib.hid (hp2.out.later hb3)
  clear c0 c1 c2 c3 c4 c5 hb3 hx2 hv2 hp2 hB2
  obtain ⟨_, ⟨c0, c1, c2, c3, c4, c5⟩⟩ := hx3.out
  go_wp2_with fail
  refine (Depth_any p _ _ HM.out hdp hv3.out).mono ?_
  rintro e w4 ⟨rfl, hb4⟩
  have hD : depthP p = 0 := by
    rw [depthP_eq, if_neg]
    intro h
    rw [h] at e0
    cases e0
  rw [hD]
  go_wp2_with fail
  go_ret
  exact ⟨rfl, two hB3 hb4⟩

set_option maxRecDepth 100000 in
set_option maxHeartbeats 4000000 in
theorem looks_1 (p : Pt) (w : World) (a : Option Addr) (cap : Nat) (hmay : mayB p = true) (hf : FitA p) (hdp : depthP p ≤ 1000) (hp : PI w 0 w.heap.size p.items (.slice a p.items.length cap)) (hk : p.kind = 1)
    (hv : VI w 0 w.heap.size p (.iface 140 (.agg #[.bool p.yes]))) :
    Calls Tryd.prog 20 #[.iface 140 (.agg #[.bool p.yes]), .agg #[.int .u8 p.kind, .bool p.yes, .bool p.neg, .string p.mag, .string p.raw, .slice a p.items.length cap]] w fun e w' => e = .returned (.bool true) ∧ Below w.heap.size w w' := by
  have hk9 : p.kind ≤ 7 := may_kind7 hmay
  have hk8 : p.kind < 256 := by omega
  have f0 := Lib.hid hf.fit
  have HFA := Lib.hid hf
  have HM := Lib.hid hmay
  have HP := Lib.hid hp
  have HV := Lib.hid hv
  have hbx := Lib.hid (Box.new w p (.slice a p.items.length cap) 27)
  have e0 : ((p.kind : Int) == 0) = false := beq_eq_false_iff_ne.2 (by omega)
  have e2 : ((p.kind : Int) == 2) = false := beq_eq_false_iff_ne.2 (by omega)
  have e7 : ((p.kind : Int) == 7) = false := beq_eq_false_iff_ne.2 (by omega)
  have XK := Lib.hid hk
  have q0 : ((p.kind : Int) != (p.kind : Int)) = false := by simp
  have qk : ((1 : Int) != (p.kind : Int)) = false := by simp; omega
  have n2 := Lib.hid (show (p.kind == 2) = false by simp; omega)
  have nr := Lib.hid (show rawB p = false by simp [rawB]; omega)
  have n7 := Lib.hid (show (p.kind == 7) = false by simp; omega)
  have m0 : ∀ w : World, (method 338 140 (.agg #[.bool p.yes]) "Kind").run Tryd.prog w = .ok (156, .agg #[.bool p.yes]) w := fun _ => by kernel_rfl
  have m1 : ∀ w : World, (method 338 140 (.agg #[.bool p.yes]) "Part").run Tryd.prog w = .ok (157, .agg #[.bool p.yes]) w := fun _ => by kernel_rfl
  clear hmay hf hp hv hk
  go_enter Tryd.func20, Tryd.ntmps20
  go_wp2_with fail
  refine (AsNumber_any p _ _ HV.out hk9 false n2.out).mono ?_
  rintro e w1 ⟨rfl, rfl⟩
  rw [show ∀ v, asked false v = .nilIface from fun _ => rfl]
  go_wp2_with fail
  refine (AsRaw_any p _ _ HV.out hk9 false nr.out).mono ?_
  rintro e w1 ⟨rfl, rfl⟩
  rw [show ∀ v, asked false v = .nilIface from fun _ => rfl]
  go_wp2_with fail
  refine (AsList_any p _ _ HV.out hk9 false n7.out).mono ?_
  rintro e w1 ⟨rfl, rfl⟩
  rw [show ∀ v, asked false v = .nilIface from fun _ => rfl]
  go_wp2_with fail
  have hA0 : Below w.heap.size w (w.alloc (.cells #[.int .u8 p.kind, .bool p.yes, .bool p.neg, .string p.mag, .string p.raw, .slice a p.items.length cap] 27)) := (Below.refl _ _).alloc (Nat.le_refl _) _
  refine (tell_any p _ _ HM.out HFA.out (HV.out.later hA0)).mono ?_
  rintro e w1 ⟨a1, cap1, rfl, hown, hb1⟩
  have hB1 : Below w.heap.size w w1 := hA0.trans (hb1.mono (by simp))
  have hx1 := Lib.hid (hbx.out.later hb1 (by simp))
  have hv1 := Lib.hid (HV.out.later hB1)
  have hp1 := Lib.hid (HP.out.later hB1)
  have ho1 := Lib.hid (hown.reads.wide (Nat.zero_le _) (Nat.le_refl _))
  clear hown hb1 hbx hA0
  obtain ⟨_, ⟨c0, c1, c2, c3, c4, c5⟩⟩ := hx1.out
  go_wp2_with fail
  have hA1 : Below w1.heap.size w1 (w1.alloc (.cells #[.int .u8 p.kind, .bool p.yes, .bool p.neg, .string p.mag, .string p.raw, .slice a1 p.items.length cap1] 27)) := (Below.refl _ _).alloc (Nat.le_refl _) _
  refine (same_any p p _ _ _ f0.out f0.out (ho1.out.later hA1) (hp1.out.later hA1)).mono ?_
  rintro e w2 ⟨rfl, hb2⟩
  replace hb2 := hA1.trans (hb2.mono (by simp))
  clear hA1
  rw [sameP_self]
  have hB2 := two hB1 hb2
  have hx2 := Lib.hid (hx1.out.later hb2 hx1.out.lt)
  have hv2 := Lib.hid (hv1.out.later hb2)
  have hp2 := Lib.hid (hp1.out.later hb2)
  clear c0 c1 c2 c3 c4 c5 hb2 ho1 hx1 hv1 hp1 hB1
  obtain ⟨_, ⟨c0, c1, c2, c3, c4, c5⟩⟩ := hx2.out
  go_wp2_with fail
  refine (risraw_any p _ _ _ _ hk8).mono ?_
  rintro e w3 ⟨rfl, hb3⟩
  rw [nr.out]
  have hB3 := two hB2 hb3
  have hx3 := Lib.hid (hx2.out.later hb3 hx2.out.lt)
  have hv3 := Lib.hid (hv2.out.later hb3)
  have hp3 := Lib.hid (hp2.out.later hb3)
  clear c0 c1 c2 c3 c4 c5 hb3 hx2 hv2 hp2 hB2
  obtain ⟨_, ⟨c0, c1, c2, c3, c4, c5⟩⟩ := hx3.out
  go_wp2_with fail
  have hb6 := (Below.refl w3.heap.size w3).drew
  have hbb := Below.refl w3.heap.size w3
  obtain ⟨D, hD⟩ : ∃ D, depthP p = D := ⟨_, rfl⟩
  have HD2 := Lib.hid hD
  have qD : ((D : Int) != (D : Int)) = false := by simp
  clear hD
  first
    | go_region_held3 (fun w' => w'.cell? ⟨w.heap.size, 0, none⟩ = some (.int .u8 p.kind) ∧ w'.cell? ⟨w.heap.size, 1, none⟩ = some (.bool p.yes) ∧ w'.cell? ⟨w.heap.size, 2, none⟩ = some (.bool p.neg) ∧ w'.cell? ⟨w.heap.size, 3, none⟩ = some (.string p.mag) ∧ w'.cell? ⟨w.heap.size, 4, none⟩ = some (.string p.raw) ∧ w'.cell? ⟨w.heap.size, 5, none⟩ = some (.slice a p.items.length cap) ∧ Below w3.heap.size w3 w') (go_keep) (first
        | (go_at_call 156; refine (kind_truth p.yes _).mono ?_; rintro e w9 ⟨rfl, hb9⟩; have k0 := keeps hb9 (p := ⟨w.heap.size, 0, none⟩) (v := .int .u8 p.kind) (by assumption); have k1 := keeps hb9 (p := ⟨w.heap.size, 1, none⟩) (v := .bool p.yes) (by assumption); have k2 := keeps hb9 (p := ⟨w.heap.size, 2, none⟩) (v := .bool p.neg) (by assumption); have k3 := keeps hb9 (p := ⟨w.heap.size, 3, none⟩) (v := .string p.mag) (by assumption); have k4 := keeps hb9 (p := ⟨w.heap.size, 4, none⟩) (v := .string p.raw) (by assumption); have k5 := keeps hb9 (p := ⟨w.heap.size, 5, none⟩) (v := .slice a p.items.length cap) (by assumption); have kb := two (a := _) (by assumption) hb9)
        | (go_at_call 41; refine (Depth_any p _ _ HM.out hdp (hv3.out.later (by assumption))).mono ?_; rintro e w9 ⟨rfl, hb9⟩; have k0 := keeps hb9 (p := ⟨w.heap.size, 0, none⟩) (v := .int .u8 p.kind) (by assumption); have k1 := keeps hb9 (p := ⟨w.heap.size, 1, none⟩) (v := .bool p.yes) (by assumption); have k2 := keeps hb9 (p := ⟨w.heap.size, 2, none⟩) (v := .bool p.neg) (by assumption); have k3 := keeps hb9 (p := ⟨w.heap.size, 3, none⟩) (v := .string p.mag) (by assumption); have k4 := keeps hb9 (p := ⟨w.heap.size, 4, none⟩) (v := .string p.raw) (by assumption); have k5 := keeps hb9 (p := ⟨w.heap.size, 5, none⟩) (v := .slice a p.items.length cap) (by assumption); have kb := two (a := _) (by assumption) hb9; rw [HD2.out])
        | (go_at_call 55; refine (rdepth_any p _ _ hdp f0.out (hp3.out.later (by assumption))).mono ?_; rintro e w9 ⟨rfl, hb9⟩; have k0 := keeps hb9 (p := ⟨w.heap.size, 0, none⟩) (v := .int .u8 p.kind) (by assumption); have k1 := keeps hb9 (p := ⟨w.heap.size, 1, none⟩) (v := .bool p.yes) (by assumption); have k2 := keeps hb9 (p := ⟨w.heap.size, 2, none⟩) (v := .bool p.neg) (by assumption); have k3 := keeps hb9 (p := ⟨w.heap.size, 3, none⟩) (v := .string p.mag) (by assumption); have k4 := keeps hb9 (p := ⟨w.heap.size, 4, none⟩) (v := .string p.raw) (by assumption); have k5 := keeps hb9 (p := ⟨w.heap.size, 5, none⟩) (v := .slice a p.items.length cap) (by assumption); have kb := two (a := _) (by assumption) hb9; rw [HD2.out]))
    | fail
  have hB6 := two hB3 kb
  have hx6 := Lib.hid (hx3.out.later kb hx3.out.lt)
  have hv6 := Lib.hid (hv3.out.later kb)
  have hp6 := Lib.hid (hp3.out.later kb)
  clear hB3 hx3 hv3 hp3 hbb hb6 hb9 c0 c1 c2 c3 c4 c5
  obtain ⟨w6, hw6⟩ : ∃ w6, w6 = w9 := ⟨_, rfl⟩
  subst hw6
  go_wp2_with fail
  refine (part_truth p.yes _).mono ?_
  rintro e w7 ⟨rfl, hb7⟩
  obtain ⟨a7, cap7, he, ho⟩ : ∃ a7 cap7, Value.agg #[.int .u8 1, .bool p.yes, .bool false, .string ⟨#[]⟩, .string ⟨#[]⟩, .slice none 0 0] = .agg #[.int .u8 p.kind, .bool p.yes, .bool p.neg, .string p.mag, .string p.raw, .slice a7 p.items.length cap7] ∧ PI w7 0 w7.heap.size p.items (.slice a7 p.items.length cap7) := by
    obtain ⟨x1, x2, x3, x4⟩ := canon HM.out
    have y0 := e0
    have y2 := e2
    have y7 := e7
    have yk := XK.out
    simp at y0 y2 y7
    refine ⟨none, 0, ?_, ?_⟩
    · obtain ⟨z1, z2⟩ := x2 (by omega)
      rw [z1, z2, x3 (by omega), x4 (by omega), yk]; rfl
    · rw [x3 (by omega)]; exact PI.nil _ _ _
  rw [he]
  have ho7 := Lib.hid ho
  clear he ho
  have hB7 := two hB6 hb7
  have hx7 := Lib.hid (hx6.out.later hb7 hx6.out.lt)
  have hv7 := Lib.hid (hv6.out.later hb7)
  have hp7 := Lib.hid (hp6.out.later hb7)
  clear hb7 hx6 hv6 hp6 hB6
  obtain ⟨_, ⟨c0, c1, c2, c3, c4, c5⟩⟩ := hx7.out
  go_wp2_with fail
  have hA7 : Below w7.heap.size w7 (w7.alloc (.cells #[.int .u8 p.kind, .bool p.yes, .bool p.neg, .string p.mag, .string p.raw, .slice a7 p.items.length cap7] 27)) := (Below.refl _ _).alloc (Nat.le_refl _) _
  refine (same_any p p _ _ _ f0.out f0.out (ho7.out.later hA7) (hp7.out.later hA7)).mono ?_
  rintro e w8 ⟨rfl, hb8⟩
  replace hb8 := hA7.trans (hb8.mono (by simp))
  clear hA7
  rw [sameP_self]
  have hB8 := two hB7 hb8
  have hx8 := Lib.hid (hx7.out.later hb8 hx7.out.lt)
  clear c0 c1 c2 c3 c4 c5 hb8 hx7 hv7 hp7 hB7 ho7 k0 k1 k2 k3 k4 k5 kb
  obtain ⟨_, ⟨c0, c1, c2, c3, c4, c5⟩⟩ := hx8.out
  go_wp2_with fail
  go_quiet (fail)
  go_wp2_with fail
  go_ret
  exact ⟨rfl, ⟨hB8.os, hB8.tape, hB8.output, hB8.size, hB8.block⟩⟩

set_option maxRecDepth 100000 in
set_option maxHeartbeats 4000000 in
theorem looks_2 (p : Pt) (w : World) (a : Option Addr) (cap : Nat) (hmay : mayB p = true) (hf : FitA p) (hdp : depthP p ≤ 1000) (hp : PI w 0 w.heap.size p.items (.slice a p.items.length cap)) (hk : p.kind = 2)
    (hv : VI w 0 w.heap.size p (.iface 142 (.agg #[.bool p.neg, .string p.mag]))) :
    Calls Tryd.prog 20 #[.iface 142 (.agg #[.bool p.neg, .string p.mag]), .agg #[.int .u8 p.kind, .bool p.yes, .bool p.neg, .string p.mag, .string p.raw, .slice a p.items.length cap]] w fun e w' => e = .returned (.bool true) ∧ Below w.heap.size w w' := by
  have hk9 : p.kind ≤ 7 := may_kind7 hmay
  have hk8 : p.kind < 256 := by omega
  have f0 := Lib.hid hf.fit
  have HFA := Lib.hid hf
  have HM := Lib.hid hmay
  have HP := Lib.hid hp
  have HV := Lib.hid hv
  have hbx := Lib.hid (Box.new w p (.slice a p.items.length cap) 27)
  have e0 : ((p.kind : Int) == 0) = false := beq_eq_false_iff_ne.2 (by omega)
  have e2 : ((p.kind : Int) == 2) = true := beq_iff_eq.2 (by omega)
  have e7 : ((p.kind : Int) == 7) = false := beq_eq_false_iff_ne.2 (by omega)
  have XK := Lib.hid hk
  have q0 : ((p.kind : Int) != (p.kind : Int)) = false := by simp
  have qk : ((2 : Int) != (p.kind : Int)) = false := by simp; omega
  have n2 := Lib.hid (show (p.kind == 2) = true by simp; omega)
  have nr := Lib.hid (show rawB p = false by simp [rawB]; omega)
  have n7 := Lib.hid (show (p.kind == 7) = false by simp; omega)
  have m0 : ∀ w : World, (method 338 142 (.agg #[.bool p.neg, .string p.mag]) "Kind").run Tryd.prog w = .ok (158, .agg #[.bool p.neg, .string p.mag]) w := fun _ => by kernel_rfl
  have m1 : ∀ w : World, (method 338 142 (.agg #[.bool p.neg, .string p.mag]) "Part").run Tryd.prog w = .ok (160, .agg #[.bool p.neg, .string p.mag]) w := fun _ => by kernel_rfl
  have m2 : ∀ w : World, (method 338 142 (.agg #[.bool p.neg, .string p.mag]) "Num").run Tryd.prog w = .ok (159, .agg #[.bool p.neg, .string p.mag]) w := fun _ => by kernel_rfl
  have h24 : ∀ w : World, (binOp .neq 24 (.agg #[.bool p.neg, .string p.mag]) (.agg #[.bool p.neg, .string p.mag])).run Tryd.prog w = .ok (.bool false) w := neq_num p.neg p.neg p.mag p.mag true (by simp)
  clear hmay hf hp hv hk
  go_enter Tryd.func20, Tryd.ntmps20
  go_wp2_with fail
  refine (AsNumber_any p _ _ HV.out hk9 true n2.out).mono ?_
  rintro e w1 ⟨rfl, rfl⟩
  rw [show ∀ v, asked true v = v from fun _ => rfl]
  go_wp2_with fail
  refine (AsRaw_any p _ _ HV.out hk9 false nr.out).mono ?_
  rintro e w1 ⟨rfl, rfl⟩
  rw [show ∀ v, asked false v = .nilIface from fun _ => rfl]
  go_wp2_with fail
  refine (AsList_any p _ _ HV.out hk9 false n7.out).mono ?_
  rintro e w1 ⟨rfl, rfl⟩
  rw [show ∀ v, asked false v = .nilIface from fun _ => rfl]
  go_wp2_with fail
  have hA0 : Below w.heap.size w (w.alloc (.cells #[.int .u8 p.kind, .bool p.yes, .bool p.neg, .string p.mag, .string p.raw, .slice a p.items.length cap] 27)) := (Below.refl _ _).alloc (Nat.le_refl _) _
  refine (tell_any p _ _ HM.out HFA.out (HV.out.later hA0)).mono ?_
  rintro e w1 ⟨a1, cap1, rfl, hown, hb1⟩
  have hB1 : Below w.heap.size w w1 := hA0.trans (hb1.mono (by simp))
  have hx1 := Lib.hid (hbx.out.later hb1 (by simp))
  have hv1 := Lib.hid (HV.out.later hB1)
  have hp1 := Lib.hid (HP.out.later hB1)
  have ho1 := Lib.hid (hown.reads.wide (Nat.zero_le _) (Nat.le_refl _))
  clear hown hb1 hbx hA0
  obtain ⟨_, ⟨c0, c1, c2, c3, c4, c5⟩⟩ := hx1.out
  go_wp2_with fail
  have hA1 : Below w1.heap.size w1 (w1.alloc (.cells #[.int .u8 p.kind, .bool p.yes, .bool p.neg, .string p.mag, .string p.raw, .slice a1 p.items.length cap1] 27)) := (Below.refl _ _).alloc (Nat.le_refl _) _
  refine (same_any p p _ _ _ f0.out f0.out (ho1.out.later hA1) (hp1.out.later hA1)).mono ?_
  rintro e w2 ⟨rfl, hb2⟩
  replace hb2 := hA1.trans (hb2.mono (by simp))
  clear hA1
  rw [sameP_self]
  have hB2 := two hB1 hb2
  have hx2 := Lib.hid (hx1.out.later hb2 hx1.out.lt)
  have hv2 := Lib.hid (hv1.out.later hb2)
  have hp2 := Lib.hid (hp1.out.later hb2)
  clear c0 c1 c2 c3 c4 c5 hb2 ho1 hx1 hv1 hp1 hB1
  obtain ⟨_, ⟨c0, c1, c2, c3, c4, c5⟩⟩ := hx2.out
  go_wp2_with fail
  refine (risraw_any p _ _ _ _ hk8).mono ?_
  rintro e w3 ⟨rfl, hb3⟩
  rw [nr.out]
  have hB3 := two hB2 hb3
  have hx3 := Lib.hid (hx2.out.later hb3 hx2.out.lt)
  have hv3 := Lib.hid (hv2.out.later hb3)
  have hp3 := Lib.hid (hp2.out.later hb3)
  clear c0 c1 c2 c3 c4 c5 hb3 hx2 hv2 hp2 hB2
  obtain ⟨_, ⟨c0, c1, c2, c3, c4, c5⟩⟩ := hx3.out
  go_wp2_with fail
  have hb6 := (Below.refl w3.heap.size w3).drew
  have hbb := Below.refl w3.heap.size w3
  obtain ⟨D, hD⟩ : ∃ D, depthP p = D := ⟨_, rfl⟩
  have HD2 := Lib.hid hD
  have qD : ((D : Int) != (D : Int)) = false := by simp
  clear hD
  first
    | go_region_held3 (fun w' => w'.cell? ⟨w.heap.size, 0, none⟩ = some (.int .u8 p.kind) ∧ w'.cell? ⟨w.heap.size, 1, none⟩ = some (.bool p.yes) ∧ w'.cell? ⟨w.heap.size, 2, none⟩ = some (.bool p.neg) ∧ w'.cell? ⟨w.heap.size, 3, none⟩ = some (.string p.mag) ∧ w'.cell? ⟨w.heap.size, 4, none⟩ = some (.string p.raw) ∧ w'.cell? ⟨w.heap.size, 5, none⟩ = some (.slice a p.items.length cap) ∧ Below w3.heap.size w3 w') (go_keep) (first
        | (go_at_call 158; refine (kind_whole p.neg p.mag _).mono ?_; rintro e w9 ⟨rfl, hb9⟩; have k0 := keeps hb9 (p := ⟨w.heap.size, 0, none⟩) (v := .int .u8 p.kind) (by assumption); have k1 := keeps hb9 (p := ⟨w.heap.size, 1, none⟩) (v := .bool p.yes) (by assumption); have k2 := keeps hb9 (p := ⟨w.heap.size, 2, none⟩) (v := .bool p.neg) (by assumption); have k3 := keeps hb9 (p := ⟨w.heap.size, 3, none⟩) (v := .string p.mag) (by assumption); have k4 := keeps hb9 (p := ⟨w.heap.size, 4, none⟩) (v := .string p.raw) (by assumption); have k5 := keeps hb9 (p := ⟨w.heap.size, 5, none⟩) (v := .slice a p.items.length cap) (by assumption); have kb := two (a := _) (by assumption) hb9)
        | (go_at_call 41; refine (Depth_any p _ _ HM.out hdp (hv3.out.later (by assumption))).mono ?_; rintro e w9 ⟨rfl, hb9⟩; have k0 := keeps hb9 (p := ⟨w.heap.size, 0, none⟩) (v := .int .u8 p.kind) (by assumption); have k1 := keeps hb9 (p := ⟨w.heap.size, 1, none⟩) (v := .bool p.yes) (by assumption); have k2 := keeps hb9 (p := ⟨w.heap.size, 2, none⟩) (v := .bool p.neg) (by assumption); have k3 := keeps hb9 (p := ⟨w.heap.size, 3, none⟩) (v := .string p.mag) (by assumption); have k4 := keeps hb9 (p := ⟨w.heap.size, 4, none⟩) (v := .string p.raw) (by assumption); have k5 := keeps hb9 (p := ⟨w.heap.size, 5, none⟩) (v := .slice a p.items.length cap) (by assumption); have kb := two (a := _) (by assumption) hb9; rw [HD2.out])
        | (go_at_call 55; refine (rdepth_any p _ _ hdp f0.out (hp3.out.later (by assumption))).mono ?_; rintro e w9 ⟨rfl, hb9⟩; have k0 := keeps hb9 (p := ⟨w.heap.size, 0, none⟩) (v := .int .u8 p.kind) (by assumption); have k1 := keeps hb9 (p := ⟨w.heap.size, 1, none⟩) (v := .bool p.yes) (by assumption); have k2 := keeps hb9 (p := ⟨w.heap.size, 2, none⟩) (v := .bool p.neg) (by assumption); have k3 := keeps hb9 (p := ⟨w.heap.size, 3, none⟩) (v := .string p.mag) (by assumption); have k4 := keeps hb9 (p := ⟨w.heap.size, 4, none⟩) (v := .string p.raw) (by assumption); have k5 := keeps hb9 (p := ⟨w.heap.size, 5, none⟩) (v := .slice a p.items.length cap) (by assumption); have kb := two (a := _) (by assumption) hb9; rw [HD2.out]))
    | fail
  have hB6 := two hB3 kb
  have hx6 := Lib.hid (hx3.out.later kb hx3.out.lt)
  have hv6 := Lib.hid (hv3.out.later kb)
  have hp6 := Lib.hid (hp3.out.later kb)
  clear hB3 hx3 hv3 hp3 hbb hb6 hb9 c0 c1 c2 c3 c4 c5
  obtain ⟨w6, hw6⟩ : ∃ w6, w6 = w9 := ⟨_, rfl⟩
  subst hw6
  go_wp2_with fail
  refine (part_whole p.neg p.mag _).mono ?_
  rintro e w7 ⟨rfl, hb7⟩
  obtain ⟨a7, cap7, he, ho⟩ : ∃ a7 cap7, Value.agg #[.int .u8 2, .bool false, .bool p.neg, .string p.mag, .string ⟨#[]⟩, .slice none 0 0] = .agg #[.int .u8 p.kind, .bool p.yes, .bool p.neg, .string p.mag, .string p.raw, .slice a7 p.items.length cap7] ∧ PI w7 0 w7.heap.size p.items (.slice a7 p.items.length cap7) := by
    obtain ⟨x1, x2, x3, x4⟩ := canon HM.out
    have y0 := e0
    have y2 := e2
    have y7 := e7
    have yk := XK.out
    simp at y0 y2 y7
    refine ⟨none, 0, ?_, ?_⟩
    · rw [x1 (by omega), x3 (by omega), x4 (by omega), yk]; rfl
    · rw [x3 (by omega)]; exact PI.nil _ _ _
  rw [he]
  have ho7 := Lib.hid ho
  clear he ho
  have hB7 := two hB6 hb7
  have hx7 := Lib.hid (hx6.out.later hb7 hx6.out.lt)
  have hv7 := Lib.hid (hv6.out.later hb7)
  have hp7 := Lib.hid (hp6.out.later hb7)
  clear hb7 hx6 hv6 hp6 hB6
  obtain ⟨_, ⟨c0, c1, c2, c3, c4, c5⟩⟩ := hx7.out
  go_wp2_with fail
  have hA7 : Below w7.heap.size w7 (w7.alloc (.cells #[.int .u8 p.kind, .bool p.yes, .bool p.neg, .string p.mag, .string p.raw, .slice a7 p.items.length cap7] 27)) := (Below.refl _ _).alloc (Nat.le_refl _) _
  refine (same_any p p _ _ _ f0.out f0.out (ho7.out.later hA7) (hp7.out.later hA7)).mono ?_
  rintro e w8 ⟨rfl, hb8⟩
  replace hb8 := hA7.trans (hb8.mono (by simp))
  clear hA7
  rw [sameP_self]
  have hB8 := two hB7 hb8
  have hx8 := Lib.hid (hx7.out.later hb8 hx7.out.lt)
  clear c0 c1 c2 c3 c4 c5 hb8 hx7 hv7 hp7 hB7 ho7 k0 k1 k2 k3 k4 k5 kb
  obtain ⟨_, ⟨c0, c1, c2, c3, c4, c5⟩⟩ := hx8.out
  go_wp2_with fail
  refine wp_region_held_drew (S := fun w' => w'.cell? ⟨w.heap.size, 0, none⟩ = some (.int .u8 p.kind) ∧ w'.cell? ⟨w.heap.size, 1, none⟩ = some (.bool p.yes) ∧ w'.cell? ⟨w.heap.size, 2, none⟩ = some (.bool p.neg) ∧ w'.cell? ⟨w.heap.size, 3, none⟩ = some (.string p.mag) ∧ w'.cell? ⟨w.heap.size, 4, none⟩ = some (.string p.raw) ∧ w'.cell? ⟨w.heap.size, 5, none⟩ = some (.slice a p.items.length cap) ∧ Below w8.heap.size w8 w') (by kernel_rfl) ⟨c0, c1, c2, c3, c4, c5, (Below.refl w8.heap.size w8).drew⟩ (fun hHeld => ?_)
  refine wpAnyH_take (i := 0) (v := ?v0) rfl (by kernel_rfl) (by kernel_rfl) (by kernel_rfl) (fun _ _ _ h => h) (Or.inl ⟨by rfl, ?hy0⟩) (by assumption) ?rest0
  case hy0 => (intro wS hSw; obtain ⟨k0, k1, k2, k3, k4, k5, kb⟩ := hSw; go_simp; try with_reducible rfl)
  try simp [Act.put]
  refine wpAnyH_take (i := 1) (v := ?v1) rfl (by kernel_rfl) (by kernel_rfl) (by kernel_rfl) (fun _ _ _ h => h) (Or.inl ⟨by rfl, ?hy1⟩) (by assumption) ?rest1
  case hy1 => (intro wS hSw; obtain ⟨k0, k1, k2, k3, k4, k5, kb⟩ := hSw; go_simp; try with_reducible rfl)
  try simp [Act.put]
  refine wpAnyH_take (i := 2) (v := ?v2) rfl (by kernel_rfl) (by kernel_rfl) (by kernel_rfl) (fun _ _ _ h => h) (Or.inl ⟨by rfl, ?hy2⟩) (by assumption) ?rest2
  case hy2 => (intro wS hSw; obtain ⟨k0, k1, k2, k3, k4, k5, kb⟩ := hSw; go_simp; try with_reducible rfl)
  try simp [Act.put]
  refine wpAnyH_take (i := 3) (v := ?v3) rfl (by kernel_rfl) (by kernel_rfl) (by kernel_rfl) (fun _ _ _ h => h) (Or.inl ⟨by rfl, ?hy3⟩) (by assumption) ?rest3
  case hy3 => (intro wS hSw; obtain ⟨k0, k1, k2, k3, k4, k5, kb⟩ := hSw; go_simp; try with_reducible rfl)
  try simp [Act.put]
  refine wpAnyH_take (i := 4) (v := ?v4) rfl (by kernel_rfl) (by kernel_rfl) (by kernel_rfl) (fun _ _ _ h => h) (Or.inl ⟨by rfl, ?hy4⟩) (by assumption) ?rest4
  case hy4 => (intro wS hSw; obtain ⟨k0, k1, k2, k3, k4, k5, kb⟩ := hSw; go_simp; try with_reducible rfl)
  try simp [Act.put]
  refine wpAnyH_take (i := 5) (v := ?v5) rfl (by kernel_rfl) (by kernel_rfl) (by kernel_rfl) (fun _ _ _ h => h) (Or.inl ⟨by rfl, ?hy5⟩) (by assumption) ?rest5
  case hy5 => (intro wS hSw; obtain ⟨k0, k1, k2, k3, k4, k5, kb⟩ := hSw; go_simp; try with_reducible rfl)
  try simp [Act.put]
  refine wpAnyH_take (i := 7) (v := ?v7) rfl (by kernel_rfl) (by kernel_rfl) (by kernel_rfl) (fun _ _ _ h => h) (Or.inl ⟨by rfl, ?hy7⟩) (by assumption) ?rest7
  case hy7 => (intro wS hSw; obtain ⟨k0, k1, k2, k3, k4, k5, kb⟩ := hSw; go_simp; try with_reducible rfl)
  try simp [Act.put]
  refine wpAnyH_take (i := 8) (v := ?v8) rfl (by kernel_rfl) (by kernel_rfl) (by kernel_rfl) (fun _ _ _ h => h) (Or.inl ⟨by rfl, ?hy8⟩) (by assumption) ?rest8
  case hy8 => (intro wS hSw; obtain ⟨k0, k1, k2, k3, k4, k5, kb⟩ := hSw; go_simp; try with_reducible rfl)
  try simp [Act.put]
  refine wpAnyH_ready (rs := [6]) (by kernel_rfl) (by simp) ?_
  refine AllReadyH.cons rfl (fun K hK => ?_) AllReadyH.nil
  go_simp
  obtain ⟨k0, k1, k2, k3, k4, k5, kb⟩ := hHeld
  refine (num_whole p.neg p.mag _).mono ?_
  rintro e w9 ⟨rfl, hb9⟩
  replace k0 := keeps hb9 k0
  replace k1 := keeps hb9 k1
  replace k2 := keeps hb9 k2
  replace k3 := keeps hb9 k3
  replace k4 := keeps hb9 k4
  replace k5 := keeps hb9 k5
  replace kb := two kb hb9
  go_wp2_with fail
  refine hK.out _ _ ⟨k0, k1, k2, k3, k4, k5, kb⟩ (fun hHeld => ?_)
  try simp [Act.put]
  refine wpAnyH_take (i := 9) (v := ?v9) rfl (by kernel_rfl) (by kernel_rfl) (by kernel_rfl) (fun _ _ _ h => h) (Or.inl ⟨by rfl, ?hy9⟩) (by assumption) ?rest9
  case hy9 => (intro wS hSw; obtain ⟨k0, k1, k2, k3, k4, k5, kb⟩ := hSw; go_simp; try with_reducible rfl)
  try simp [Act.put]
  refine wpAnyH_take (i := 10) (v := ?v10) rfl (by kernel_rfl) (by kernel_rfl) (by kernel_rfl) (fun _ _ _ h => h) (Or.inl ⟨by rfl, ?hy10⟩) (by assumption) ?rest10
  case hy10 => (intro wS hSw; obtain ⟨k0, k1, k2, k3, k4, k5, kb⟩ := hSw; go_simp; try with_reducible rfl)
  try simp [Act.put]
  refine wpAnyH_take (i := 11) (v := ?v11) rfl (by kernel_rfl) (by kernel_rfl) (by kernel_rfl) (fun _ _ _ h => h) (Or.inl ⟨by rfl, ?hy11⟩) (by assumption) ?rest11
  case hy11 => (intro wS hSw; obtain ⟨k0, k1, k2, k3, k4, k5, kb⟩ := hSw; go_simp; try with_reducible rfl)
  try simp [Act.put]
  refine wpAnyH_take (i := 12) (v := ?v12) rfl (by kernel_rfl) (by kernel_rfl) (by kernel_rfl) (fun _ _ _ h => h) (Or.inl ⟨by rfl, ?hy12⟩) (by assumption) ?rest12
  case hy12 => (intro wS hSw; obtain ⟨k0, k1, k2, k3, k4, k5, kb⟩ := hSw; go_simp; try with_reducible rfl)
  try simp [Act.put]
  refine wpAnyH_take (i := 13) (v := ?v13) rfl (by kernel_rfl) (by kernel_rfl) (by kernel_rfl) (fun _ _ _ h => h) (Or.inl ⟨by rfl, ?hy13⟩) (by assumption) ?rest13
  case hy13 => (intro wS hSw; obtain ⟨k0, k1, k2, k3, k4, k5, kb⟩ := hSw; go_simp; try with_reducible rfl)
  try simp [Act.put]
  refine wpAnyH_take (i := 14) (v := ?v14) rfl (by kernel_rfl) (by kernel_rfl) (by kernel_rfl) (fun _ _ _ h => h) (Or.inl ⟨by rfl, ?hy14⟩) (by assumption) ?rest14
  case hy14 => (intro wS hSw; obtain ⟨k0, k1, k2, k3, k4, k5, kb⟩ := hSw; go_simp; try with_reducible rfl)
  try simp [Act.put]
  refine wpAnyH_take (i := 15) (v := undef) rfl (by kernel_rfl) (by kernel_rfl) (by kernel_rfl) (fun _ _ _ h => h) (Or.inr ⟨by rfl, rfl⟩) (by assumption) ?_
  try simp [Act.put]
  refine wpAnyH_take (i := 16) (v := undef) rfl (by kernel_rfl) (by kernel_rfl) (by kernel_rfl) (fun _ _ _ h => h) (Or.inr ⟨by rfl, rfl⟩) (by assumption) ?_
  try simp [Act.put]
  refine wpAnyH_take (i := 17) (v := undef) rfl (by kernel_rfl) (by kernel_rfl) (by kernel_rfl) (fun _ _ _ h => h) (Or.inr ⟨by rfl, rfl⟩) (by assumption) ?_
  try simp [Act.put]
  refine wpAnyH_take (i := 18) (v := undef) rfl (by kernel_rfl) (by kernel_rfl) (by kernel_rfl) (fun _ _ _ h => h) (Or.inr ⟨by rfl, rfl⟩) (by assumption) ?_
  try simp [Act.put]
  refine wpAnyH_take (i := 19) (v := undef) rfl (by kernel_rfl) (by kernel_rfl) (by kernel_rfl) (fun _ _ _ h => h) (Or.inr ⟨by rfl, rfl⟩) (by assumption) ?_
  try simp [Act.put]
  refine wpAnyH_take (i := 20) (v := ?v20) rfl (by kernel_rfl) (by kernel_rfl) (by kernel_rfl) (fun _ _ _ h => h) (Or.inl ⟨by rfl, ?hy20⟩) (by assumption) ?rest20
  case hy20 => (intro wS hSw; obtain ⟨k0, k1, k2, k3, k4, k5, kb⟩ := hSw; go_simp; try with_reducible rfl)
  try simp [Act.put]
  refine wpAnyH_take (i := 21) (v := ?v21) rfl (by kernel_rfl) (by kernel_rfl) (by kernel_rfl) (fun _ _ _ h => h) (Or.inl ⟨by rfl, ?hy21⟩) (by assumption) ?rest21
  case hy21 => (intro wS hSw; obtain ⟨k0, k1, k2, k3, k4, k5, kb⟩ := hSw; go_simp; try with_reducible rfl)
  try simp [Act.put]
  refine wpAnyH_done (by kernel_rfl) ?_ _
  go_wp2_with fail
  go_ret
  exact ⟨rfl, two hB8 kb⟩

set_option maxRecDepth 100000 in
set_option maxHeartbeats 4000000 in
theorem looks_r (p : Pt) (w : World) (a : Option Addr) (cap : Nat) (hmay : mayB p = true) (hf : FitA p) (hdp : depthP p ≤ 1000) (hp : PI w 0 w.heap.size p.items (.slice a p.items.length cap)) (hk0 : p.kind ≠ 0) (hk1 : p.kind ≠ 1) (hk2 : p.kind ≠ 2) (hk7 : p.kind ≠ 7)
    (hv : VI w 0 w.heap.size p (.iface 147 (.agg #[.int .u8 p.kind, .string p.raw]))) :
    Calls Tryd.prog 20 #[.iface 147 (.agg #[.int .u8 p.kind, .string p.raw]), .agg #[.int .u8 p.kind, .bool p.yes, .bool p.neg, .string p.mag, .string p.raw, .slice a p.items.length cap]] w fun e w' => e = .returned (.bool true) ∧ Below w.heap.size w w' := by
  have hk9 : p.kind ≤ 7 := may_kind7 hmay
  have hk8 : p.kind < 256 := by omega
  have f0 := Lib.hid hf.fit
  have HFA := Lib.hid hf
  have HM := Lib.hid hmay
  have HP := Lib.hid hp
  have HV := Lib.hid hv
  have hbx := Lib.hid (Box.new w p (.slice a p.items.length cap) 27)
  have e0 : ((p.kind : Int) == 0) = false := beq_eq_false_iff_ne.2 (by omega)
  have e2 : ((p.kind : Int) == 2) = false := beq_eq_false_iff_ne.2 (by omega)
  have e7 : ((p.kind : Int) == 7) = false := beq_eq_false_iff_ne.2 (by omega)
  have XK := Lib.hid hk1
  have q0 : ((p.kind : Int) != (p.kind : Int)) = false := by simp
  have n2 := Lib.hid (show (p.kind == 2) = false by simp; omega)
  have nr := Lib.hid (show rawB p = true by simp [rawB]; omega)
  have n7 := Lib.hid (show (p.kind == 7) = false by simp; omega)
  have m0 : ∀ w : World, (method 338 147 (.agg #[.int .u8 p.kind, .string p.raw]) "Kind").run Tryd.prog w = .ok (166, .agg #[.int .u8 p.kind, .string p.raw]) w := fun _ => by kernel_rfl
  have m1 : ∀ w : World, (method 338 147 (.agg #[.int .u8 p.kind, .string p.raw]) "Part").run Tryd.prog w = .ok (167, .agg #[.int .u8 p.kind, .string p.raw]) w := fun _ => by kernel_rfl
  have m2 : ∀ w : World, (method 338 147 (.agg #[.int .u8 p.kind, .string p.raw]) "Bytes").run Tryd.prog w = .ok (165, .agg #[.int .u8 p.kind, .string p.raw]) w := fun _ => by kernel_rfl
  have h25 : ∀ w : World, (binOp .neq 9 (.string p.raw) (.string p.raw)).run Tryd.prog w = .ok (.bool false) w := fun w => by simp [go_sem]
  clear hmay hf hp hv hk0 hk1 hk2 hk7
  go_enter Tryd.func20, Tryd.ntmps20
  go_wp2_with fail
  refine (AsNumber_any p _ _ HV.out hk9 false n2.out).mono ?_
  rintro e w1 ⟨rfl, rfl⟩
  rw [show ∀ v, asked false v = .nilIface from fun _ => rfl]
  go_wp2_with fail
  refine (AsRaw_any p _ _ HV.out hk9 true nr.out).mono ?_
  rintro e w1 ⟨rfl, rfl⟩
  rw [show ∀ v, asked true v = v from fun _ => rfl]
  go_wp2_with fail
  refine (AsList_any p _ _ HV.out hk9 false n7.out).mono ?_
  rintro e w1 ⟨rfl, rfl⟩
  rw [show ∀ v, asked false v = .nilIface from fun _ => rfl]
  go_wp2_with fail
  have hA0 : Below w.heap.size w (w.alloc (.cells #[.int .u8 p.kind, .bool p.yes, .bool p.neg, .string p.mag, .string p.raw, .slice a p.items.length cap] 27)) := (Below.refl _ _).alloc (Nat.le_refl _) _
  refine (tell_any p _ _ HM.out HFA.out (HV.out.later hA0)).mono ?_
  rintro e w1 ⟨a1, cap1, rfl, hown, hb1⟩
  have hB1 : Below w.heap.size w w1 := hA0.trans (hb1.mono (by simp))
  have hx1 := Lib.hid (hbx.out.later hb1 (by simp))
  have hv1 := Lib.hid (HV.out.later hB1)
  have hp1 := Lib.hid (HP.out.later hB1)
  have ho1 := Lib.hid (hown.reads.wide (Nat.zero_le _) (Nat.le_refl _))
  clear hown hb1 hbx hA0
  obtain ⟨_, ⟨c0, c1, c2, c3, c4, c5⟩⟩ := hx1.out
  go_wp2_with fail
  have hA1 : Below w1.heap.size w1 (w1.alloc (.cells #[.int .u8 p.kind, .bool p.yes, .bool p.neg, .string p.mag, .string p.raw, .slice a1 p.items.length cap1] 27)) := (Below.refl _ _).alloc (Nat.le_refl _) _
  refine (same_any p p _ _ _ f0.out f0.out (ho1.out.later hA1) (hp1.out.later hA1)).mono ?_
  rintro e w2 ⟨rfl, hb2⟩
  replace hb2 := hA1.trans (hb2.mono (by simp))
  clear hA1
  rw [sameP_self]
  have hB2 := two hB1 hb2
  have hx2 := Lib.hid (hx1.out.later hb2 hx1.out.lt)
  have hv2 := Lib.hid (hv1.out.later hb2)
  have hp2 := Lib.hid (hp1.out.later hb2)
  clear c0 c1 c2 c3 c4 c5 hb2 ho1 hx1 hv1 hp1 hB1
  obtain ⟨_, ⟨c0, c1, c2, c3, c4, c5⟩⟩ := hx2.out
  go_wp2_with fail
  refine (risraw_any p _ _ _ _ hk8).mono ?_
  rintro e w3 ⟨rfl, hb3⟩
  rw [nr.out]
  have hB3 := two hB2 hb3
  have hx3 := Lib.hid (hx2.out.later hb3 hx2.out.lt)
  have hv3 := Lib.hid (hv2.out.later hb3)
  have hp3 := Lib.hid (hp2.out.later hb3)
  clear c0 c1 c2 c3 c4 c5 hb3 hx2 hv2 hp2 hB2
  obtain ⟨_, ⟨c0, c1, c2, c3, c4, c5⟩⟩ := hx3.out
  go_wp2_with fail
  have hb6 := (Below.refl w3.heap.size w3).drew
  have hbb := Below.refl w3.heap.size w3
  obtain ⟨D, hD⟩ : ∃ D, depthP p = D := ⟨_, rfl⟩
  have HD2 := Lib.hid hD
  have qD : ((D : Int) != (D : Int)) = false := by simp
  clear hD
  first
    | go_region_held3 (fun w' => w'.cell? ⟨w.heap.size, 0, none⟩ = some (.int .u8 p.kind) ∧ w'.cell? ⟨w.heap.size, 1, none⟩ = some (.bool p.yes) ∧ w'.cell? ⟨w.heap.size, 2, none⟩ = some (.bool p.neg) ∧ w'.cell? ⟨w.heap.size, 3, none⟩ = some (.string p.mag) ∧ w'.cell? ⟨w.heap.size, 4, none⟩ = some (.string p.raw) ∧ w'.cell? ⟨w.heap.size, 5, none⟩ = some (.slice a p.items.length cap) ∧ Below w3.heap.size w3 w') (go_keep) (first
        | (go_at_call 166; refine (kind_row p.kind p.raw _).mono ?_; rintro e w9 ⟨rfl, hb9⟩; have k0 := keeps hb9 (p := ⟨w.heap.size, 0, none⟩) (v := .int .u8 p.kind) (by assumption); have k1 := keeps hb9 (p := ⟨w.heap.size, 1, none⟩) (v := .bool p.yes) (by assumption); have k2 := keeps hb9 (p := ⟨w.heap.size, 2, none⟩) (v := .bool p.neg) (by assumption); have k3 := keeps hb9 (p := ⟨w.heap.size, 3, none⟩) (v := .string p.mag) (by assumption); have k4 := keeps hb9 (p := ⟨w.heap.size, 4, none⟩) (v := .string p.raw) (by assumption); have k5 := keeps hb9 (p := ⟨w.heap.size, 5, none⟩) (v := .slice a p.items.length cap) (by assumption); have kb := two (a := _) (by assumption) hb9)
        | (go_at_call 41; refine (Depth_any p _ _ HM.out hdp (hv3.out.later (by assumption))).mono ?_; rintro e w9 ⟨rfl, hb9⟩; have k0 := keeps hb9 (p := ⟨w.heap.size, 0, none⟩) (v := .int .u8 p.kind) (by assumption); have k1 := keeps hb9 (p := ⟨w.heap.size, 1, none⟩) (v := .bool p.yes) (by assumption); have k2 := keeps hb9 (p := ⟨w.heap.size, 2, none⟩) (v := .bool p.neg) (by assumption); have k3 := keeps hb9 (p := ⟨w.heap.size, 3, none⟩) (v := .string p.mag) (by assumption); have k4 := keeps hb9 (p := ⟨w.heap.size, 4, none⟩) (v := .string p.raw) (by assumption); have k5 := keeps hb9 (p := ⟨w.heap.size, 5, none⟩) (v := .slice a p.items.length cap) (by assumption); have kb := two (a := _) (by assumption) hb9; rw [HD2.out])
        | (go_at_call 55; refine (rdepth_any p _ _ hdp f0.out (hp3.out.later (by assumption))).mono ?_; rintro e w9 ⟨rfl, hb9⟩; have k0 := keeps hb9 (p := ⟨w.heap.size, 0, none⟩) (v := .int .u8 p.kind) (by assumption); have k1 := keeps hb9 (p := ⟨w.heap.size, 1, none⟩) (v := .bool p.yes) (by assumption); have k2 := keeps hb9 (p := ⟨w.heap.size, 2, none⟩) (v := .bool p.neg) (by assumption); have k3 := keeps hb9 (p := ⟨w.heap.size, 3, none⟩) (v := .string p.mag) (by assumption); have k4 := keeps hb9 (p := ⟨w.heap.size, 4, none⟩) (v := .string p.raw) (by assumption); have k5 := keeps hb9 (p := ⟨w.heap.size, 5, none⟩) (v := .slice a p.items.length cap) (by assumption); have kb := two (a := _) (by assumption) hb9; rw [HD2.out]))
    | fail
  have hB6 := two hB3 kb
  have hx6 := Lib.hid (hx3.out.later kb hx3.out.lt)
  have hv6 := Lib.hid (hv3.out.later kb)
  have hp6 := Lib.hid (hp3.out.later kb)
  clear hB3 hx3 hv3 hp3 hbb hb6 hb9 c0 c1 c2 c3 c4 c5
  obtain ⟨w6, hw6⟩ : ∃ w6, w6 = w9 := ⟨_, rfl⟩
  subst hw6
  go_wp2_with fail
  refine (part_row p.kind p.raw _).mono ?_
  rintro e w7 ⟨rfl, hb7⟩
  obtain ⟨a7, cap7, he, ho⟩ : ∃ a7 cap7, Value.agg #[.int .u8 p.kind, .bool false, .bool false, .string ⟨#[]⟩, .string p.raw, .slice none 0 0] = .agg #[.int .u8 p.kind, .bool p.yes, .bool p.neg, .string p.mag, .string p.raw, .slice a7 p.items.length cap7] ∧ PI w7 0 w7.heap.size p.items (.slice a7 p.items.length cap7) := by
    obtain ⟨x1, x2, x3, x4⟩ := canon HM.out
    have y0 := e0
    have y2 := e2
    have y7 := e7
    have yk := XK.out
    simp at y0 y2 y7
    refine ⟨none, 0, ?_, ?_⟩
    · obtain ⟨z1, z2⟩ := x2 (by omega)
      rw [x1 XK.out, z1, z2, x3 (by omega)]; rfl
    · rw [x3 (by omega)]; exact PI.nil _ _ _
  rw [he]
  have ho7 := Lib.hid ho
  clear he ho
  have hB7 := two hB6 hb7
  have hx7 := Lib.hid (hx6.out.later hb7 hx6.out.lt)
  have hv7 := Lib.hid (hv6.out.later hb7)
  have hp7 := Lib.hid (hp6.out.later hb7)
  clear hb7 hx6 hv6 hp6 hB6
  obtain ⟨_, ⟨c0, c1, c2, c3, c4, c5⟩⟩ := hx7.out
  go_wp2_with fail
  have hA7 : Below w7.heap.size w7 (w7.alloc (.cells #[.int .u8 p.kind, .bool p.yes, .bool p.neg, .string p.mag, .string p.raw, .slice a7 p.items.length cap7] 27)) := (Below.refl _ _).alloc (Nat.le_refl _) _
  refine (same_any p p _ _ _ f0.out f0.out (ho7.out.later hA7) (hp7.out.later hA7)).mono ?_
  rintro e w8 ⟨rfl, hb8⟩
  replace hb8 := hA7.trans (hb8.mono (by simp))
  clear hA7
  rw [sameP_self]
  have hB8 := two hB7 hb8
  have hx8 := Lib.hid (hx7.out.later hb8 hx7.out.lt)
  clear c0 c1 c2 c3 c4 c5 hb8 hx7 hv7 hp7 hB7 ho7 k0 k1 k2 k3 k4 k5 kb
  obtain ⟨_, ⟨c0, c1, c2, c3, c4, c5⟩⟩ := hx8.out
  go_wp2_with fail
  refine wp_region_held_drew (S := fun w' => w'.cell? ⟨w.heap.size, 0, none⟩ = some (.int .u8 p.kind) ∧ w'.cell? ⟨w.heap.size, 1, none⟩ = some (.bool p.yes) ∧ w'.cell? ⟨w.heap.size, 2, none⟩ = some (.bool p.neg) ∧ w'.cell? ⟨w.heap.size, 3, none⟩ = some (.string p.mag) ∧ w'.cell? ⟨w.heap.size, 4, none⟩ = some (.string p.raw) ∧ w'.cell? ⟨w.heap.size, 5, none⟩ = some (.slice a p.items.length cap) ∧ Below w8.heap.size w8 w') (by kernel_rfl) ⟨c0, c1, c2, c3, c4, c5, (Below.refl w8.heap.size w8).drew⟩ (fun hHeld => ?_)
  refine wpAnyH_take (i := 0) (v := ?v0) rfl (by kernel_rfl) (by kernel_rfl) (by kernel_rfl) (fun _ _ _ h => h) (Or.inl ⟨by rfl, ?hy0⟩) (by assumption) ?rest0
  case hy0 => (intro wS hSw; obtain ⟨k0, k1, k2, k3, k4, k5, kb⟩ := hSw; go_simp; try with_reducible rfl)
  try simp [Act.put]
  refine wpAnyH_take (i := 1) (v := ?v1) rfl (by kernel_rfl) (by kernel_rfl) (by kernel_rfl) (fun _ _ _ h => h) (Or.inl ⟨by rfl, ?hy1⟩) (by assumption) ?rest1
  case hy1 => (intro wS hSw; obtain ⟨k0, k1, k2, k3, k4, k5, kb⟩ := hSw; go_simp; try with_reducible rfl)
  try simp [Act.put]
  refine wpAnyH_take (i := 2) (v := ?v2) rfl (by kernel_rfl) (by kernel_rfl) (by kernel_rfl) (fun _ _ _ h => h) (Or.inl ⟨by rfl, ?hy2⟩) (by assumption) ?rest2
  case hy2 => (intro wS hSw; obtain ⟨k0, k1, k2, k3, k4, k5, kb⟩ := hSw; go_simp; try with_reducible rfl)
  try simp [Act.put]
  refine wpAnyH_take (i := 3) (v := ?v3) rfl (by kernel_rfl) (by kernel_rfl) (by kernel_rfl) (fun _ _ _ h => h) (Or.inl ⟨by rfl, ?hy3⟩) (by assumption) ?rest3
  case hy3 => (intro wS hSw; obtain ⟨k0, k1, k2, k3, k4, k5, kb⟩ := hSw; go_simp; try with_reducible rfl)
  try simp [Act.put]
  refine wpAnyH_take (i := 4) (v := ?v4) rfl (by kernel_rfl) (by kernel_rfl) (by kernel_rfl) (fun _ _ _ h => h) (Or.inl ⟨by rfl, ?hy4⟩) (by assumption) ?rest4
  case hy4 => (intro wS hSw; obtain ⟨k0, k1, k2, k3, k4, k5, kb⟩ := hSw; go_simp; try with_reducible rfl)
  try simp [Act.put]
  refine wpAnyH_take (i := 5) (v := undef) rfl (by kernel_rfl) (by kernel_rfl) (by kernel_rfl) (fun _ _ _ h => h) (Or.inr ⟨by rfl, rfl⟩) (by assumption) ?_
  try simp [Act.put]
  refine wpAnyH_take (i := 6) (v := undef) rfl (by kernel_rfl) (by kernel_rfl) (by kernel_rfl) (fun _ _ _ h => h) (Or.inr ⟨by rfl, rfl⟩) (by assumption) ?_
  try simp [Act.put]
  refine wpAnyH_take (i := 7) (v := undef) rfl (by kernel_rfl) (by kernel_rfl) (by kernel_rfl) (fun _ _ _ h => h) (Or.inr ⟨by rfl, rfl⟩) (by assumption) ?_
  try simp [Act.put]
  refine wpAnyH_take (i := 8) (v := undef) rfl (by kernel_rfl) (by kernel_rfl) (by kernel_rfl) (fun _ _ _ h => h) (Or.inr ⟨by rfl, rfl⟩) (by assumption) ?_
  try simp [Act.put]
  refine wpAnyH_take (i := 9) (v := undef) rfl (by kernel_rfl) (by kernel_rfl) (by kernel_rfl) (fun _ _ _ h => h) (Or.inr ⟨by rfl, rfl⟩) (by assumption) ?_
  try simp [Act.put]
  refine wpAnyH_take (i := 10) (v := ?v10) rfl (by kernel_rfl) (by kernel_rfl) (by kernel_rfl) (fun _ _ _ h => h) (Or.inl ⟨by rfl, ?hy10⟩) (by assumption) ?rest10
  case hy10 => (intro wS hSw; obtain ⟨k0, k1, k2, k3, k4, k5, kb⟩ := hSw; go_simp; try with_reducible rfl)
  try simp [Act.put]
  refine wpAnyH_take (i := 11) (v := ?v11) rfl (by kernel_rfl) (by kernel_rfl) (by kernel_rfl) (fun _ _ _ h => h) (Or.inl ⟨by rfl, ?hy11⟩) (by assumption) ?rest11
  case hy11 => (intro wS hSw; obtain ⟨k0, k1, k2, k3, k4, k5, kb⟩ := hSw; go_simp; try with_reducible rfl)
  try simp [Act.put]
  refine wpAnyH_take (i := 12) (v := ?v12) rfl (by kernel_rfl) (by kernel_rfl) (by kernel_rfl) (fun _ _ _ h => h) (Or.inl ⟨by rfl, ?hy12⟩) (by assumption) ?rest12
  case hy12 => (intro wS hSw; obtain ⟨k0, k1, k2, k3, k4, k5, kb⟩ := hSw; go_simp; try with_reducible rfl)
  try simp [Act.put]
  refine wpAnyH_take (i := 13) (v := ?v13) rfl (by kernel_rfl) (by kernel_rfl) (by kernel_rfl) (fun _ _ _ h => h) (Or.inl ⟨by rfl, ?hy13⟩) (by assumption) ?rest13
  case hy13 => (intro wS hSw; obtain ⟨k0, k1, k2, k3, k4, k5, kb⟩ := hSw; go_simp; try with_reducible rfl)
  try simp [Act.put]
  refine wpAnyH_take (i := 14) (v := ?v14) rfl (by kernel_rfl) (by kernel_rfl) (by kernel_rfl) (fun _ _ _ h => h) (Or.inl ⟨by rfl, ?hy14⟩) (by assumption) ?rest14
  case hy14 => (intro wS hSw; obtain ⟨k0, k1, k2, k3, k4, k5, kb⟩ := hSw; go_simp; try with_reducible rfl)
  try simp [Act.put]
  refine wpAnyH_take (i := 15) (v := ?v15) rfl (by kernel_rfl) (by kernel_rfl) (by kernel_rfl) (fun _ _ _ h => h) (Or.inl ⟨by rfl, ?hy15⟩) (by assumption) ?rest15
  case hy15 => (intro wS hSw; obtain ⟨k0, k1, k2, k3, k4, k5, kb⟩ := hSw; go_simp; try with_reducible rfl)
  try simp [Act.put]
  refine wpAnyH_take (i := 17) (v := ?v17) rfl (by kernel_rfl) (by kernel_rfl) (by kernel_rfl) (fun _ _ _ h => h) (Or.inl ⟨by rfl, ?hy17⟩) (by assumption) ?rest17
  case hy17 => (intro wS hSw; obtain ⟨k0, k1, k2, k3, k4, k5, kb⟩ := hSw; go_simp; try with_reducible rfl)
  try simp [Act.put]
  refine wpAnyH_take (i := 18) (v := ?v18) rfl (by kernel_rfl) (by kernel_rfl) (by kernel_rfl) (fun _ _ _ h => h) (Or.inl ⟨by rfl, ?hy18⟩) (by assumption) ?rest18
  case hy18 => (intro wS hSw; obtain ⟨k0, k1, k2, k3, k4, k5, kb⟩ := hSw; go_simp; try with_reducible rfl)
  try simp [Act.put]
  refine wpAnyH_ready (rs := [16]) (by kernel_rfl) (by simp) ?_
  refine AllReadyH.cons rfl (fun K hK => ?_) AllReadyH.nil
  go_simp
  obtain ⟨k0, k1, k2, k3, k4, k5, kb⟩ := hHeld
  refine (bytes_row p.kind p.raw _).mono ?_
  rintro e w9 ⟨rfl, hb9⟩
  replace k0 := keeps hb9 k0
  replace k1 := keeps hb9 k1
  replace k2 := keeps hb9 k2
  replace k3 := keeps hb9 k3
  replace k4 := keeps hb9 k4
  replace k5 := keeps hb9 k5
  replace kb := two kb hb9
  go_wp2_with fail
  refine hK.out _ _ ⟨k0, k1, k2, k3, k4, k5, kb⟩ (fun hHeld => ?_)
  try simp [Act.put]
  refine wpAnyH_take (i := 19) (v := ?v19) rfl (by kernel_rfl) (by kernel_rfl) (by kernel_rfl) (fun _ _ _ h => h) (Or.inl ⟨by rfl, ?hy19⟩) (by assumption) ?rest19
  case hy19 => (intro wS hSw; obtain ⟨k0, k1, k2, k3, k4, k5, kb⟩ := hSw; go_simp; try with_reducible rfl)
  try simp [Act.put]
  refine wpAnyH_take (i := 20) (v := ?v20) rfl (by kernel_rfl) (by kernel_rfl) (by kernel_rfl) (fun _ _ _ h => h) (Or.inl ⟨by rfl, ?hy20⟩) (by assumption) ?rest20
  case hy20 => (intro wS hSw; obtain ⟨k0, k1, k2, k3, k4, k5, kb⟩ := hSw; go_simp; try with_reducible rfl)
  try simp [Act.put]
  refine wpAnyH_take (i := 21) (v := ?v21) rfl (by kernel_rfl) (by kernel_rfl) (by kernel_rfl) (fun _ _ _ h => h) (Or.inl ⟨by rfl, ?hy21⟩) (by assumption) ?rest21
  case hy21 => (intro wS hSw; obtain ⟨k0, k1, k2, k3, k4, k5, kb⟩ := hSw; go_simp; try with_reducible rfl)
  try simp [Act.put]
  refine wpAnyH_done (by kernel_rfl) ?_ _
  go_wp2_with fail
  go_ret
  exact ⟨rfl, two hB8 kb⟩

set_option maxRecDepth 100000 in
set_option maxHeartbeats 4000000 in
theorem looks_7 (p : Pt) (w : World) (a : Option Addr) (cap : Nat) (hmay : mayB p = true) (hf : FitA p) (hdp : depthP p ≤ 1000) (hp : PI w 0 w.heap.size p.items (.slice a p.items.length cap)) (hk : p.kind = 7) (b : Option Addr) (capb : Nat) (F : Nat → Value)
    (hC : ∀ j, j < p.items.length → ∃ g, b = some ⟨g, 0, none⟩ ∧ 0 ≤ g ∧ g < w.heap.size ∧ w.cell? ⟨g, j, none⟩ = some (F j)) (hF : ∀ j (h : j < p.items.length), VI w 0 w.heap.size p.items[j] (F j))
    (ih : ∀ q ∈ p.items, ∀ (v : Value) (w : World) (a : Option Addr) (cap : Nat), mayB q = true → FitA q → depthP q ≤ 1000 → PI w 0 w.heap.size q.items (.slice a q.items.length cap) → VI w 0 w.heap.size q v →
      Calls Tryd.prog 20 #[v, .agg #[.int .u8 q.kind, .bool q.yes, .bool q.neg, .string q.mag, .string q.raw, .slice a q.items.length cap]] w fun e w' => e = .returned (.bool true) ∧ Below w.heap.size w w')
    (hv : VI w 0 w.heap.size p (.iface 145 (.agg #[.slice b p.items.length capb]))) :
    Calls Tryd.prog 20 #[.iface 145 (.agg #[.slice b p.items.length capb]), .agg #[.int .u8 p.kind, .bool p.yes, .bool p.neg, .string p.mag, .string p.raw, .slice a p.items.length cap]] w fun e w' => e = .returned (.bool true) ∧ Below w.heap.size w w' := by
  have hk9 : p.kind ≤ 7 := may_kind7 hmay
  have hk8 : p.kind < 256 := by omega
  have f0 := Lib.hid hf.fit
  have HFA := Lib.hid hf
  have HM := Lib.hid hmay
  have HP := Lib.hid hp
  have HV := Lib.hid hv
  have hbx := Lib.hid (Box.new w p (.slice a p.items.length cap) 27)
  have e0 : ((p.kind : Int) == 0) = false := beq_eq_false_iff_ne.2 (by omega)
  have e2 : ((p.kind : Int) == 2) = false := beq_eq_false_iff_ne.2 (by omega)
  have e7 : ((p.kind : Int) == 7) = true := beq_iff_eq.2 (by omega)
  have XK := Lib.hid hk
  have q0 : ((p.kind : Int) != (p.kind : Int)) = false := by simp
  have qk : ((7 : Int) != (p.kind : Int)) = false := by simp; omega
  have n2 := Lib.hid (show (p.kind == 2) = false by simp; omega)
  have nr := Lib.hid (show rawB p = false by simp [rawB]; omega)
  have n7 := Lib.hid (show (p.kind == 7) = true by simp; omega)
  have m0 : ∀ w : World, (method 338 145 (.agg #[.slice b p.items.length capb]) "Kind").run Tryd.prog w = .ok (162, .agg #[.slice b p.items.length capb]) w := fun _ => by kernel_rfl
  have m1 : ∀ w : World, (method 338 145 (.agg #[.slice b p.items.length capb]) "Part").run Tryd.prog w = .ok (164, .agg #[.slice b p.items.length capb]) w := fun _ => by kernel_rfl
  have m2 : ∀ w : World, (method 338 145 (.agg #[.slice b p.items.length capb]) "Len").run Tryd.prog w = .ok (163, .agg #[.slice b p.items.length capb]) w := fun _ => by kernel_rfl
  have m3 : ∀ w : World, (method 338 145 (.agg #[.slice b p.items.length capb]) "At").run Tryd.prog w = .ok (161, .agg #[.slice b p.items.length capb]) w := fun _ => by kernel_rfl
  have qL : ((p.items.length : Int) != (p.items.length : Int)) = false := by simp
  have HA := Lib.hid hp.at_
  have HC := Lib.hid hC
  have HF := Lib.hid hF
  have IH := Lib.hid ih
  have hlen := may_len hmay hk
  have HD := Lib.hid (show depthP p = depthL p.items + 1 by rw [depthP_eq, if_pos hk])
  have hdl : depthL p.items ≤ 999 := by have := HD.out; omega
  clear hC hF ih
  clear hmay hf hp hv hk
  go_enter Tryd.func20, Tryd.ntmps20
  go_wp2_with fail
  refine (AsNumber_any p _ _ HV.out hk9 false n2.out).mono ?_
  rintro e w1 ⟨rfl, rfl⟩
  rw [show ∀ v, asked false v = .nilIface from fun _ => rfl]
  go_wp2_with fail
  refine (AsRaw_any p _ _ HV.out hk9 false nr.out).mono ?_
  rintro e w1 ⟨rfl, rfl⟩
  rw [show ∀ v, asked false v = .nilIface from fun _ => rfl]
  go_wp2_with fail
  refine (AsList_any p _ _ HV.out hk9 true n7.out).mono ?_
  rintro e w1 ⟨rfl, rfl⟩
  rw [show ∀ v, asked true v = v from fun _ => rfl]
  go_wp2_with fail
  have hA0 : Below w.heap.size w (w.alloc (.cells #[.int .u8 p.kind, .bool p.yes, .bool p.neg, .string p.mag, .string p.raw, .slice a p.items.length cap] 27)) := (Below.refl _ _).alloc (Nat.le_refl _) _
  refine (tell_any p _ _ HM.out HFA.out (HV.out.later hA0)).mono ?_
  rintro e w1 ⟨a1, cap1, rfl, hown, hb1⟩
  have hB1 : Below w.heap.size w w1 := hA0.trans (hb1.mono (by simp))
  have hx1 := Lib.hid (hbx.out.later hb1 (by simp))
  have hv1 := Lib.hid (HV.out.later hB1)
  have hp1 := Lib.hid (HP.out.later hB1)
  have ho1 := Lib.hid (hown.reads.wide (Nat.zero_le _) (Nat.le_refl _))
  clear hown hb1 hbx hA0
  obtain ⟨_, ⟨c0, c1, c2, c3, c4, c5⟩⟩ := hx1.out
  go_wp2_with fail
  have hA1 : Below w1.heap.size w1 (w1.alloc (.cells #[.int .u8 p.kind, .bool p.yes, .bool p.neg, .string p.mag, .string p.raw, .slice a1 p.items.length cap1] 27)) := (Below.refl _ _).alloc (Nat.le_refl _) _
  refine (same_any p p _ _ _ f0.out f0.out (ho1.out.later hA1) (hp1.out.later hA1)).mono ?_
  rintro e w2 ⟨rfl, hb2⟩
  replace hb2 := hA1.trans (hb2.mono (by simp))
  clear hA1
  rw [sameP_self]
  have hB2 := two hB1 hb2
  have hx2 := Lib.hid (hx1.out.later hb2 hx1.out.lt)
  have hv2 := Lib.hid (hv1.out.later hb2)
  have hp2 := Lib.hid (hp1.out.later hb2)
  clear c0 c1 c2 c3 c4 c5 hb2 ho1 hx1 hv1 hp1 hB1
  obtain ⟨_, ⟨c0, c1, c2, c3, c4, c5⟩⟩ := hx2.out
  go_wp2_with fail
  refine (risraw_any p _ _ _ _ hk8).mono ?_
  rintro e w3 ⟨rfl, hb3⟩
  rw [nr.out]
  have hB3 := two hB2 hb3
  have hx3 := Lib.hid (hx2.out.later hb3 hx2.out.lt)
  have hv3 := Lib.hid (hv2.out.later hb3)
  have hp3 := Lib.hid (hp2.out.later hb3)
  clear c0 c1 c2 c3 c4 c5 hb3 hx2 hv2 hp2 hB2
  obtain ⟨_, ⟨c0, c1, c2, c3, c4, c5⟩⟩ := hx3.out
  go_wp2_with fail
  have hb6 := (Below.refl w3.heap.size w3).drew
  have hbb := Below.refl w3.heap.size w3
  obtain ⟨D, hD⟩ : ∃ D, depthP p = D := ⟨_, rfl⟩
  have HD2 := Lib.hid hD
  have qD : ((D : Int) != (D : Int)) = false := by simp
  clear hD
  first
    | go_region_held3 (fun w' => w'.cell? ⟨w.heap.size, 0, none⟩ = some (.int .u8 p.kind) ∧ w'.cell? ⟨w.heap.size, 1, none⟩ = some (.bool p.yes) ∧ w'.cell? ⟨w.heap.size, 2, none⟩ = some (.bool p.neg) ∧ w'.cell? ⟨w.heap.size, 3, none⟩ = some (.string p.mag) ∧ w'.cell? ⟨w.heap.size, 4, none⟩ = some (.string p.raw) ∧ w'.cell? ⟨w.heap.size, 5, none⟩ = some (.slice a p.items.length cap) ∧ Below w3.heap.size w3 w') (go_keep) (first
        | (go_at_call 162; refine (kind_tuple b p.items.length capb _).mono ?_; rintro e w9 ⟨rfl, hb9⟩; have k0 := keeps hb9 (p := ⟨w.heap.size, 0, none⟩) (v := .int .u8 p.kind) (by assumption); have k1 := keeps hb9 (p := ⟨w.heap.size, 1, none⟩) (v := .bool p.yes) (by assumption); have k2 := keeps hb9 (p := ⟨w.heap.size, 2, none⟩) (v := .bool p.neg) (by assumption); have k3 := keeps hb9 (p := ⟨w.heap.size, 3, none⟩) (v := .string p.mag) (by assumption); have k4 := keeps hb9 (p := ⟨w.heap.size, 4, none⟩) (v := .string p.raw) (by assumption); have k5 := keeps hb9 (p := ⟨w.heap.size, 5, none⟩) (v := .slice a p.items.length cap) (by assumption); have kb := two (a := _) (by assumption) hb9)
        | (go_at_call 41; refine (Depth_any p _ _ HM.out hdp (hv3.out.later (by assumption))).mono ?_; rintro e w9 ⟨rfl, hb9⟩; have k0 := keeps hb9 (p := ⟨w.heap.size, 0, none⟩) (v := .int .u8 p.kind) (by assumption); have k1 := keeps hb9 (p := ⟨w.heap.size, 1, none⟩) (v := .bool p.yes) (by assumption); have k2 := keeps hb9 (p := ⟨w.heap.size, 2, none⟩) (v := .bool p.neg) (by assumption); have k3 := keeps hb9 (p := ⟨w.heap.size, 3, none⟩) (v := .string p.mag) (by assumption); have k4 := keeps hb9 (p := ⟨w.heap.size, 4, none⟩) (v := .string p.raw) (by assumption); have k5 := keeps hb9 (p := ⟨w.heap.size, 5, none⟩) (v := .slice a p.items.length cap) (by assumption); have kb := two (a := _) (by assumption) hb9; rw [HD2.out])
        | (go_at_call 55; refine (rdepth_any p _ _ hdp f0.out (hp3.out.later (by assumption))).mono ?_; rintro e w9 ⟨rfl, hb9⟩; have k0 := keeps hb9 (p := ⟨w.heap.size, 0, none⟩) (v := .int .u8 p.kind) (by assumption); have k1 := keeps hb9 (p := ⟨w.heap.size, 1, none⟩) (v := .bool p.yes) (by assumption); have k2 := keeps hb9 (p := ⟨w.heap.size, 2, none⟩) (v := .bool p.neg) (by assumption); have k3 := keeps hb9 (p := ⟨w.heap.size, 3, none⟩) (v := .string p.mag) (by assumption); have k4 := keeps hb9 (p := ⟨w.heap.size, 4, none⟩) (v := .string p.raw) (by assumption); have k5 := keeps hb9 (p := ⟨w.heap.size, 5, none⟩) (v := .slice a p.items.length cap) (by assumption); have kb := two (a := _) (by assumption) hb9; rw [HD2.out]))
    | fail
  have hB6 := two hB3 kb
  have hx6 := Lib.hid (hx3.out.later kb hx3.out.lt)
  have hv6 := Lib.hid (hv3.out.later kb)
  have hp6 := Lib.hid (hp3.out.later kb)
  clear hB3 hx3 hv3 hp3 hbb hb6 hb9 c0 c1 c2 c3 c4 c5
  obtain ⟨w6, hw6⟩ : ∃ w6, w6 = w9 := ⟨_, rfl⟩
  subst hw6
  go_wp2_with fail
  refine (part_tuple p (by have := n7.out; simpa using this) HM.out HFA.out (fun q _ v w h1 h2 h3 => tell_any q v w h1 h2 h3) b capb _ hv6.out).mono ?_
  rintro e w7 ⟨a7, cap7, rfl, hown, hb7⟩
  have ho7 := Lib.hid (hown.reads.wide (Nat.zero_le _) (Nat.le_refl _))
  clear hown
  have hB7 := two hB6 hb7
  have hx7 := Lib.hid (hx6.out.later hb7 hx6.out.lt)
  have hv7 := Lib.hid (hv6.out.later hb7)
  have hp7 := Lib.hid (hp6.out.later hb7)
  clear hb7 hx6 hv6 hp6 hB6
  obtain ⟨_, ⟨c0, c1, c2, c3, c4, c5⟩⟩ := hx7.out
  go_wp2_with fail
  have hA7 : Below w7.heap.size w7 (w7.alloc (.cells #[.int .u8 p.kind, .bool p.yes, .bool p.neg, .string p.mag, .string p.raw, .slice a7 p.items.length cap7] 27)) := (Below.refl _ _).alloc (Nat.le_refl _) _
  refine (same_any p p _ _ _ f0.out f0.out (ho7.out.later hA7) (hp7.out.later hA7)).mono ?_
  rintro e w8 ⟨rfl, hb8⟩
  replace hb8 := hA7.trans (hb8.mono (by simp))
  clear hA7
  rw [sameP_self]
  have hB8 := two hB7 hb8
  have hx8 := Lib.hid (hx7.out.later hb8 hx7.out.lt)
  clear c0 c1 c2 c3 c4 c5 hb8 hx7 hv7 hp7 hB7 ho7 k0 k1 k2 k3 k4 k5 kb
  obtain ⟨_, ⟨c0, c1, c2, c3, c4, c5⟩⟩ := hx8.out
  go_wp2_with fail
  go_quiet (fail)
  have hB8 : Below w.heap.size w (w8.drewN nq) := ⟨hB8.os, hB8.tape, hB8.output, hB8.size, hB8.block⟩
  obtain ⟨w8b, hw8⟩ : ∃ w, w = w8.drewN nq := ⟨_, rfl⟩
  rw [← hw8] at hB8 ⊢
  clear c0 c1 c2 c3 c4 c5
  have hx8 : RowKit.Hid (Box w8b w.heap.size p (.slice a p.items.length cap)) := by rw [hw8]; exact Lib.hid (hx8.out.later (B := w8.heap.size) ⟨rfl, rfl, rfl, Nat.le_refl _, fun _ _ => rfl⟩ hx8.out.lt)
  clear hw8
  obtain ⟨_, ⟨c0, c1, c2, c3, c4, c5⟩⟩ := hx8.out
  go_wp2_with fail
  have hb6 := (Below.refl w8b.heap.size w8b).drew
  have hbb := Below.refl w8b.heap.size w8b
  first
    | go_region_held3 (fun w' => w'.cell? ⟨w.heap.size, 5, none⟩ = some (.slice a p.items.length cap) ∧ Below w8b.heap.size w8b w') (go_keep) (first
        | (go_at_call 163; refine (len_tuple b p.items.length capb _).mono ?_; rintro e w9 ⟨rfl, hb9⟩; have k0 := keeps hb9 (p := ⟨w.heap.size, 5, none⟩) (v := .slice a p.items.length cap) (by assumption); have kb := two (a := _) (by assumption) hb9)
        | (go_at_call 161; refine (at_out b p.items.length capb _ _ (by omega)).mono ?_; rintro e w9 ⟨rfl, hb9⟩; have k0 := keeps hb9 (p := ⟨w.heap.size, 5, none⟩) (v := .slice a p.items.length cap) (by assumption); have kb := two (a := _) (by assumption) hb9)
        | (go_at_call 162; refine (kind_tuple b p.items.length capb _).mono ?_; rintro e w9 ⟨rfl, hb9⟩; have k0 := keeps hb9 (p := ⟨w.heap.size, 5, none⟩) (v := .slice a p.items.length cap) (by assumption); have kb := two (a := _) (by assumption) hb9))
    | fail
  have hB13 := two hB8 kb
  have hx13 := Lib.hid (hx8.out.later kb hx8.out.lt)
  clear hB8 hx8 hbb hb6 hb9 k0 kb c0 c1 c2 c3 c4 c5
  go_wp2_with fail
  go_loopw [15] (fun i wr => ∃ k : Nat, k ≤ p.items.length ∧ i = .int .i64 k ∧ RowKit.Hid (Box wr w.heap.size p (.slice a p.items.length cap)) ∧ Below w.heap.size w wr) (fun i _ => p.items.length - (intOf i).toNat)
  case atStart => exact ⟨0, Nat.zero_le _, rfl, hx13, hB13⟩
  case round =>
    clear hx13 hB13
    obtain ⟨k, hkl, rfl, HX, hB⟩ := hrel
    obtain ⟨_, ⟨c0, c1, c2, c3, c4, c5⟩⟩ := HX.out
    by_cases hlt : k < p.items.length
    · have q3 : decide (k < p.items.length) = true := by simpa using hlt
      obtain ⟨g0, rfl, _, hg0, hcell⟩ := HC.out k hlt
      obtain ⟨b1, off, u, rfl, _, hb1, hc, hfit, hpi⟩ := HA.out k hlt
      have hmem : p.items[k] ∈ p.items := List.getElem_mem _
      have hdq := depthL_mem hmem
      have hvi := Lib.hid (HF.out k hlt)
      have hc2 := Lib.hid (hc.same (Same.of_below hB (Nat.le_refl _)) (Nat.zero_le _) hb1)
      have hlt1 : b1 < wr.heap.size := Nat.lt_of_lt_of_le hb1 hB.size
      obtain ⟨q, hq⟩ : ∃ q, p.items[k] = q := ⟨_, rfl⟩
      rw [hq] at hmem hdq hvi hc2 hfit hpi
      have hmq := Lib.hid (mayB_item HM.out hmem)
      have hfq := Lib.hid (HFA.out.item hmem)
      have hcell2 := Lib.hid (keep hB hg0 hcell)
      have hpi2 := Lib.hid hpi
      obtain ⟨a2, cap2, rfl, _, _⟩ := hpi.open
      clear hq hcell hc hpi hb1
      obtain ⟨d0, d1, d2, d3, d4, d5⟩ := hc2.out
      have hpi3 := Lib.hid (hpi2.out.later hB)
      have hvi3 := Lib.hid (hvi.out.later hB)
      have hb6 := (Below.refl wr.heap.size wr).drew
      have hbb := Below.refl wr.heap.size wr
      clear hpi2 hvi
      go_wp2_with fail

      first
        | go_region_held3 (fun w' => w'.cell? ⟨w.heap.size, 5, none⟩ = some (.slice (some ⟨b1, off, none⟩) p.items.length cap) ∧ w'.cell? ⟨b1, off + k * 6, none⟩ = some (.int .u8 q.kind) ∧ w'.cell? ⟨b1, off + k * 6 + 1, none⟩ = some (.bool q.yes) ∧ w'.cell? ⟨b1, off + k * 6 + 2, none⟩ = some (.bool q.neg) ∧ w'.cell? ⟨b1, off + k * 6 + 3, none⟩ = some (.string q.mag) ∧ w'.cell? ⟨b1, off + k * 6 + 4, none⟩ = some (.string q.raw) ∧ w'.cell? ⟨b1, off + k * 6 + 5, none⟩ = some (.slice a2 q.items.length cap2) ∧ Below wr.heap.size wr w') (go_keep) (first
            | (go_at_call 161; refine (at_in g0 _ capb k (F k) _ (by omega) hlt (keeps (W := wr) (by assumption) hcell2.out)).mono ?_; rintro e w9 ⟨rfl, hb9⟩; have k0 := keeps hb9 (p := ⟨w.heap.size, 5, none⟩) (v := .slice (some ⟨b1, off, none⟩) p.items.length cap) (by assumption); have k1 := keeps hb9 (p := ⟨b1, off + k * 6, none⟩) (v := .int .u8 q.kind) (by assumption); have k2 := keeps hb9 (p := ⟨b1, off + k * 6 + 1, none⟩) (v := .bool q.yes) (by assumption); have k3 := keeps hb9 (p := ⟨b1, off + k * 6 + 2, none⟩) (v := .bool q.neg) (by assumption); have k4 := keeps hb9 (p := ⟨b1, off + k * 6 + 3, none⟩) (v := .string q.mag) (by assumption); have k5 := keeps hb9 (p := ⟨b1, off + k * 6 + 4, none⟩) (v := .string q.raw) (by assumption); have k6 := keeps hb9 (p := ⟨b1, off + k * 6 + 5, none⟩) (v := .slice a2 q.items.length cap2) (by assumption); have kb := two (a := _) (by assumption) hb9)
            | (go_at_call 20; refine (IH.out q hmem (F k) _ _ _ hmq.out hfq.out (by omega) (hpi3.out.later (by assumption)) (hvi3.out.later (by assumption))).mono ?_; rintro e w9 ⟨rfl, hb9⟩; have k0 := keeps hb9 (p := ⟨w.heap.size, 5, none⟩) (v := .slice (some ⟨b1, off, none⟩) p.items.length cap) (by assumption); have k1 := keeps hb9 (p := ⟨b1, off + k * 6, none⟩) (v := .int .u8 q.kind) (by assumption); have k2 := keeps hb9 (p := ⟨b1, off + k * 6 + 1, none⟩) (v := .bool q.yes) (by assumption); have k3 := keeps hb9 (p := ⟨b1, off + k * 6 + 2, none⟩) (v := .bool q.neg) (by assumption); have k4 := keeps hb9 (p := ⟨b1, off + k * 6 + 3, none⟩) (v := .string q.mag) (by assumption); have k5 := keeps hb9 (p := ⟨b1, off + k * 6 + 4, none⟩) (v := .string q.raw) (by assumption); have k6 := keeps hb9 (p := ⟨b1, off + k * 6 + 5, none⟩) (v := .slice a2 q.items.length cap2) (by assumption); have kb := two (a := _) (by assumption) hb9))
        | fail
      have hB3 := hB.trans (kb.mono hB.size)
      have hx3 := Lib.hid (HX.out.later kb HX.out.lt)
      clear c0 c1 c2 c3 c4 c5 d0 d1 d2 d3 d4 d5 hB HX hbb hb6
      go_wp2_with fail
      refine ⟨⟨k + 1, by omega, rfl, hx3, hB3⟩, by simp [intOf]; omega⟩
    · have q3 : decide (k < p.items.length) = false := by simpa using hlt
      go_wp2_with fail
      go_ret
      exact ⟨rfl, hB⟩

theorem looks_any (p : Pt) : ∀ (v : Value) (w : World) (a : Option Addr) (cap : Nat), mayB p = true → FitA p → depthP p ≤ 1000 → PI w 0 w.heap.size p.items (.slice a p.items.length cap) → VI w 0 w.heap.size p v →
    Calls Tryd.prog 20 #[v, .agg #[.int .u8 p.kind, .bool p.yes, .bool p.neg, .string p.mag, .string p.raw, .slice a p.items.length cap]] w fun e w' => e = .returned (.bool true) ∧ Below w.heap.size w w' := by
  induction p using Pt.ind with
  | h p ih =>
  intro v w a cap hmay hf hdp hp hv
  have hv0 := hv
  cases hv with
  | null _ h => exact looks_0 p w a cap hmay hf hdp hp h hv0
  | truth _ h => exact looks_1 p w a cap hmay hf hdp hp h hv0
  | whole _ h => exact looks_2 p w a cap hmay hf hdp hp h hv0
  | row _ h0 h1 h2 h7 => exact looks_r p w a cap hmay hf hdp hp h0 h1 h2 h7 hv0
  | tuple _ h b capb F hc cells deep => exact looks_7 p w a cap hmay hf hdp hp h b capb F cells deep ih hv0
end Go.Proofs.YtcgphlilijeifaaDoor.V