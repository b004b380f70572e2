import Derived.Deep.AppendLies
import Derived.Deep.RegionLaw
import Derived.Test.YtcgphlilijeifaaDoorLitPrintsQ6
section
/-
  The document's Depth and IsRaw; the law's heavy and weight: their contracts.
-/
namespace Go.Proofs.YtcgphlilijeifaaDoor.V
open Go.RowKit

theorem depthL_take {l : List Pt} {k : Nat} (h : k < l.length) : depthL (l.take (k + 1)) = max (depthL (l.take k)) (depthP l[k]) := by
  rw [List.take_succ_eq_append_getElem h, depthL_snoc]
theorem depthL_mem {l : List Pt} {p : Pt} (h : p ∈ l) : depthP p ≤ depthL l := (depthL_le l (depthL l)).1 (Nat.le_refl _) p h
theorem depthL_take_le (l : List Pt) (k : Nat) : depthL (l.take k) ≤ depthL l := (depthL_le _ _).2 fun _ h => depthL_mem (List.mem_of_mem_take h)
def rawB (p : Pt) : Bool := p.kind == 3 || p.kind == 4 || p.kind == 5 || p.kind == 6

set_option maxHeartbeats 1000000 in
theorem risraw_any (p : Pt) (a : Option Addr) (n cap : Nat) (w : World) (_hk : p.kind < 256) :
    Calls Tryd.prog 54 #[.agg #[.int .u8 p.kind, .bool p.yes, .bool p.neg, .string p.mag, .string p.raw, .slice a n cap]] w fun e w' => e = .returned (.bool (rawB p)) ∧ Below w.heap.size w w' := by
  rcases (show p.kind = 3 ∨ p.kind = 4 ∨ p.kind = 5 ∨ p.kind = 6 ∨ (p.kind ≠ 3 ∧ p.kind ≠ 4 ∧ p.kind ≠ 5 ∧ p.kind ≠ 6) by omega) with h | h | h | h | h
  · have HM := Lib.hid (show rawB p = true by simp [rawB, h])
    have e3 : ((p.kind : Int) == 3) = true := beq_iff_eq.2 (by omega)
    have e4 : ((p.kind : Int) == 4) = false := beq_eq_false_iff_ne.2 (by omega)
    have e5 : ((p.kind : Int) == 5) = false := beq_eq_false_iff_ne.2 (by omega)
    have e6 : ((p.kind : Int) == 6) = false := beq_eq_false_iff_ne.2 (by omega)
    clear h
    go_enter Tryd.func54, Tryd.ntmps54
    go_wp2_with fail
    go_ret
    exact ⟨by rw [HM.out]; rfl, (Below.refl _ _).alloc (Nat.le_refl _) _⟩
  · have HM := Lib.hid (show rawB p = true by simp [rawB, h])
    have e3 : ((p.kind : Int) == 3) = false := beq_eq_false_iff_ne.2 (by omega)
    have e4 : ((p.kind : Int) == 4) = true := beq_iff_eq.2 (by omega)
    have e5 : ((p.kind : Int) == 5) = false := beq_eq_false_iff_ne.2 (by omega)
    have e6 : ((p.kind : Int) == 6) = false := beq_eq_false_iff_ne.2 (by omega)
    clear h
    go_enter Tryd.func54, Tryd.ntmps54
    go_wp2_with fail
    go_ret
    exact ⟨by rw [HM.out]; rfl, (Below.refl _ _).alloc (Nat.le_refl _) _⟩
  · have HM := Lib.hid (show rawB p = true by simp [rawB, h])
    have e3 : ((p.kind : Int) == 3) = false := beq_eq_false_iff_ne.2 (by omega)
    have e4 : ((p.kind : Int) == 4) = false := beq_eq_false_iff_ne.2 (by omega)
    have e5 : ((p.kind : Int) == 5) = true := beq_iff_eq.2 (by omega)
    have e6 : ((p.kind : Int) == 6) = false := beq_eq_false_iff_ne.2 (by omega)
    clear h
    go_enter Tryd.func54, Tryd.ntmps54
    go_wp2_with fail
    go_ret
    exact ⟨by rw [HM.out]; rfl, (Below.refl _ _).alloc (Nat.le_refl _) _⟩
  · have HM := Lib.hid (show rawB p = true by simp [rawB, h])
    have e3 : ((p.kind : Int) == 3) = false := beq_eq_false_iff_ne.2 (by omega)
    have e4 : ((p.kind : Int) == 4) = false := beq_eq_false_iff_ne.2 (by omega)
    have e5 : ((p.kind : Int) == 5) = false := beq_eq_false_iff_ne.2 (by omega)
    have e6 : ((p.kind : Int) == 6) = true := beq_iff_eq.2 (by omega)
    clear h
    go_enter Tryd.func54, Tryd.ntmps54
    go_wp2_with fail
    go_ret
    exact ⟨by rw [HM.out]; rfl, (Below.refl _ _).alloc (Nat.le_refl _) _⟩
  · have HM := Lib.hid (show rawB p = false by simp [rawB, h])
    have e3 : ((p.kind : Int) == 3) = false := beq_eq_false_iff_ne.2 (by omega)
    have e4 : ((p.kind : Int) == 4) = false := beq_eq_false_iff_ne.2 (by omega)
    have e5 : ((p.kind : Int) == 5) = false := beq_eq_false_iff_ne.2 (by omega)
    have e6 : ((p.kind : Int) == 6) = false := beq_eq_false_iff_ne.2 (by omega)
    clear h
    go_enter Tryd.func54, Tryd.ntmps54
    go_wp2_with fail
    go_ret
    exact ⟨by rw [HM.out]; rfl, (Below.refl _ _).alloc (Nat.le_refl _) _⟩

set_option maxRecDepth 100000 in
set_option maxHeartbeats 2000000 in
theorem rdepth_any (p : Pt) : ∀ (v : Value) (w : World), depthP p ≤ 1000 → Fit p → PI w 0 w.heap.size p.items v →
    Calls Tryd.prog 55 #[.agg #[.int .u8 p.kind, .bool p.yes, .bool p.neg, .string p.mag, .string p.raw, v]] w fun e w' => e = .returned (.int .i64 (depthP p)) ∧ Below w.heap.size w w' := by
  induction p using Pt.ind with
  | h p ih =>
  intro v w hdp hf hp
  obtain ⟨a, cap, rfl, _, hat⟩ := hp.open
  have HA := Lib.hid hat
  have IH := Lib.hid ih
  have hl := hf.l
  have hk := hf.k
  clear hat ih hp
  by_cases h7 : p.kind = 7
  · have n7 : ((p.kind : Int) != 7) = false := by rw [h7]; rfl
    have hD : depthP p = depthL p.items + 1 := by rw [depthP_eq, if_pos h7]
    have hdl : depthL p.items ≤ 999 := by omega
    have HD := Lib.hid hD
    clear h7 hD hdp
    go_enter Tryd.func55, Tryd.ntmps55
    go_wp2_with fail
    go_loopw [3, 4] (fun m i wr => ∃ k : Nat, k ≤ p.items.length ∧ i = .int .i64 k ∧ m = .int .i64 (depthL (p.items.take k)) ∧ Below w.heap.size w wr ∧ w.heap.size < wr.heap.size ∧ wr.cell? ⟨w.heap.size, 5, none⟩ = some (.slice a p.items.length cap)) (fun _ i _ => p.items.length - (intOf i).toNat)
    case atStart => exact ⟨0, Nat.zero_le _, rfl, by rw [List.take_zero, depthL_nil]; rfl, (Below.refl _ _).alloc (Nat.le_refl _) _, by simp, by simp⟩
    case round =>
      obtain ⟨k, hkl, rfl, rfl, hB, hsz, f5⟩ := hrel
      have hdk := depthL_take_le p.items k
      by_cases hlt : k < p.items.length
      · have q3 : decide (k < p.items.length) = true := by simpa using hlt
        obtain ⟨b, off, u, rfl, _, hb, hc, hfit, hpi⟩ := HA.out k hlt
        obtain ⟨d0, d1, d2, d3, d4, d5⟩ := hc.same (Same.of_below hB (Nat.le_refl _)) (Nat.zero_le _) hb
        have HE := Lib.hid (depthL_take hlt)
        have hmem : p.items[k] ∈ p.items := List.getElem_mem _
        have hdq := depthL_mem hmem
        obtain ⟨q, hq⟩ : ∃ q, p.items[k] = q := ⟨_, rfl⟩
        rw [hq] at d0 d1 d2 d3 d4 hfit hpi HE hmem hdq
        obtain ⟨a2, cap2, rfl, _, _⟩ := hpi.open
        have hpi2 := Lib.hid hpi
        clear hc hq hpi
        obtain ⟨M, hM⟩ : ∃ M, depthL (p.items.take k) = M := ⟨_, rfl⟩
        rw [hM] at hdk HE ⊢
        clear hM
        go_wp2_with fail
        refine (IH.out q hmem _ _ (by omega) hfit (hpi2.out.later hB)).mono ?_
        rintro e w1 ⟨rfl, hb1⟩
        have hB1 : Below w.heap.size w w1 := hB.trans (hb1.mono (by omega))
        have hz1 : w.heap.size < w1.heap.size := by have := hb1.size; omega
        have F5 := Lib.hid (keep hb1 hsz f5)
        clear d0 d1 d2 d3 d4 d5 f5 hB hb1 hsz
        by_cases hgt : M < depthP q
        · have q4 : decide (M < depthP q) = true := by simpa using hgt
          have HE2 := Lib.hid (show depthL (p.items.take (k + 1)) = depthP q by rw [HE.out]; omega)
          go_wp2_with fail
          refine ⟨?_, by simp [intOf]; omega⟩
          first
            | exact ⟨k + 1, by omega, rfl, by rw [HE2.out], hB1, hz1, F5.out⟩
            | ((repeat apply Exists.intro); exact ⟨⟨k + 1, by omega, rfl, by rw [HE2.out], hB1, hz1, F5.out⟩, rfl⟩)
        · have q4 : decide (M < depthP q) = false := by simpa using hgt
          have HE2 := Lib.hid (show depthL (p.items.take (k + 1)) = M by rw [HE.out]; omega)
          go_wp2_with fail
          refine ⟨?_, by simp [intOf]; omega⟩
          first
            | exact ⟨k + 1, by omega, rfl, by rw [HE2.out], hB1, hz1, F5.out⟩
            | ((repeat apply Exists.intro); exact ⟨⟨k + 1, by omega, rfl, by rw [HE2.out], hB1, hz1, F5.out⟩, rfl⟩)
      · have q3 : decide (k < p.items.length) = false := by simpa using hlt
        have HT := Lib.hid (show p.items.take k = p.items from List.take_of_length_le (by omega))
        go_wp2_with fail
        go_ret
        exact ⟨by rw [HD.out, HT.out]; rfl, hB⟩
  · have n7 : ((p.kind : Int) != 7) = true := by simp; omega
    have HD := Lib.hid (show depthP p = 0 by rw [depthP_eq, if_neg h7])
    clear h7 hdp
    go_enter Tryd.func55, Tryd.ntmps55
    go_wp2_with fail
    go_ret
    exact ⟨by rw [HD.out]; rfl, (Below.refl _ _).alloc (Nat.le_refl _) _⟩

/-- heavy tells some number; no more is asked of it. -/
def HeavyPost (w : World) (e : Ending) (w' : World) : Prop := ∃ r : Int, e = .returned (.int .i64 r) ∧ 0 ≤ r ∧ r ≤ 300000000000000 ∧ Below w.heap.size w w'
set_option maxRecDepth 100000 in
set_option maxHeartbeats 2000000 in
theorem heavy_any (p : Pt) : ∀ (v : Value) (w : World) (n d : Int), 0 ≤ n → n ≤ 134217728 → 0 ≤ d → d ≤ 301 → Fit p → PI w 0 w.heap.size p.items v →
    Calls Tryd.prog 44 #[.agg #[.int .u8 p.kind, .bool p.yes, .bool p.neg, .string p.mag, .string p.raw, v], .int .i64 n, .int .i64 d] w (HeavyPost w) := by
  induction p using Pt.ind with
  | h p ih =>
  intro v w n d hn0 hn1 hd0 hd1 hf hp
  obtain ⟨a, cap, rfl, _, hat⟩ := hp.open
  have HA := Lib.hid hat
  have IH := Lib.hid ih
  have hl := hf.l
  have hm := hf.m
  have hr := hf.r
  clear hat ih hp
  by_cases hd : 300 < d
  · go_enter Tryd.func44, Tryd.ntmps44
    go_wp2_with fail
    go_ret
    exact ⟨_, rfl, by decide, by decide, (Below.refl _ _).alloc (Nat.le_refl _) _⟩
  · go_enter Tryd.func44, Tryd.ntmps44
    go_wp2_with fail
    go_loopw [1, 7] (fun m i wr => ∃ (k : Nat) (s : Int), k ≤ p.items.length ∧ i = .int .i64 k ∧ m = .int .i64 s ∧ 0 ≤ s ∧ s ≤ 300000000000000 ∧ Below w.heap.size w wr ∧ w.heap.size < wr.heap.size ∧ wr.cell? ⟨w.heap.size, 5, none⟩ = some (.slice a p.items.length cap)) (fun _ i _ => p.items.length - (intOf i).toNat)
    case atStart => exact ⟨0, _, Nat.zero_le _, rfl, rfl, by omega, by omega, (Below.refl _ _).alloc (Nat.le_refl _) _, by simp, by simp⟩
    case round =>
      obtain ⟨k, s, hkl, rfl, rfl, hs0, hs1, hB, hsz, f5⟩ := hrel
      by_cases hlt : k < p.items.length
      · have q3 : decide (k < p.items.length) = true := by simpa using hlt
        by_cases hs : s ≤ 134217728
        · have q4 : decide (s ≤ 134217728) = true := by simpa using hs
          obtain ⟨b, off, u, rfl, _, hb, hc, hfit, hpi⟩ := HA.out k hlt
          obtain ⟨d0, d1, d2, d3, d4, d5⟩ := hc.same (Same.of_below hB (Nat.le_refl _)) (Nat.zero_le _) hb
          have hmem : p.items[k] ∈ p.items := List.getElem_mem _
          obtain ⟨q, hq⟩ : ∃ q, p.items[k] = q := ⟨_, rfl⟩
          rw [hq] at d0 d1 d2 d3 d4 hfit hpi hmem
          obtain ⟨a2, cap2, rfl, _, _⟩ := hpi.open
          have hpi2 := Lib.hid hpi
          clear hc hq hpi
          go_wp2_with fail
          refine (IH.out q hmem _ _ s (d + 1) hs0 hs (by omega) (by omega) hfit (hpi2.out.later hB)).mono ?_
          rintro e w1 ⟨r, rfl, hr0, hr1, hb1⟩
          have hB1 : Below w.heap.size w w1 := hB.trans (hb1.mono (by omega))
          have hz1 : w.heap.size < w1.heap.size := by have := hb1.size; omega
          have F5 := Lib.hid (keep hb1 hsz f5)
          clear d0 d1 d2 d3 d4 d5 f5 hB hb1 hsz
          go_wp2_with fail
          refine ⟨?_, by simp [intOf]; omega⟩
          first
            | exact ⟨k + 1, r, by omega, rfl, rfl, hr0, hr1, hB1, hz1, F5.out⟩
            | ((repeat apply Exists.intro); exact ⟨⟨k + 1, r, by omega, rfl, rfl, hr0, hr1, hB1, hz1, F5.out⟩, rfl⟩)
        · have q4 : decide (s ≤ 134217728) = false := by simpa using hs
          go_wp2_with fail
          go_ret
          exact ⟨s, rfl, hs0, hs1, hB⟩
      · have q3 : decide (k < p.items.length) = false := by simpa using hlt
        go_wp2_with fail
        go_ret
        exact ⟨s, rfl, hs0, hs1, hB⟩

theorem weight_any (p : Pt) (v : Value) (w : World) (n : Int) (hn0 : 0 ≤ n) (hn1 : n ≤ 134217728) (hf : Fit p) (hp : PI w 0 w.heap.size p.items v) :
    Calls Tryd.prog 14 #[.agg #[.int .u8 p.kind, .bool p.yes, .bool p.neg, .string p.mag, .string p.raw, v], .int .i64 n] w (HeavyPost w) := by
  have hp0 := Lib.hid hp
  obtain ⟨a, cap, rfl, _, _⟩ := hp.open
  clear hp
  go_enter Tryd.func14, Tryd.ntmps14
  go_wp2_with fail
  refine (heavy_any p _ _ n 0 hn0 hn1 (by decide) (by decide) hf (by first | exact hp0.out | exact hp0.out.later ((Below.refl _ _).alloc (Nat.le_refl _) _))).mono ?_
  rintro e w1 ⟨r, rfl, hr0, hr1, hb1⟩
  go_wp2_with fail
  go_ret
  exact ⟨r, rfl, hr0, hr1, by first | exact hb1 | exact ((Below.refl _ _).alloc (Nat.le_refl _) _).trans (hb1.mono (by simp))⟩
end Go.Proofs.YtcgphlilijeifaaDoor.V
end
section
/-
  The program's made and Make: their contracts.
-/
namespace Go.Proofs.YtcgphlilijeifaaDoor.V
open Go.RowKit

theorem infoV : (Tryd.prog.info? 33).map (fun i => (i.zero, i.size, i.bytes)) = some (some .nilIface, 1, 16) := by kernel_rfl

/-- The values us stand for the parts l; each one's memory lies from base on, behind hi nothing, none of it in block g. -/
def Vals (w : World) (base : Nat) (g : Option Nat) (l : List Pt) (us : List Value) : Prop :=
  us.length = l.length ∧ ∀ j (h : j < l.length), ∃ u lo hi, us[j]? = some u ∧ VI w lo hi l[j] u ∧ base ≤ lo ∧ hi ≤ w.heap.size ∧ ∀ k, g = some k → k < lo ∨ hi ≤ k
theorem Vals.nil (w : World) (base : Nat) (g : Option Nat) : Vals w base g [] [] := ⟨rfl, fun j h => by cases h⟩
theorem Vals.below {w w' : World} {base : Nat} {g : Option Nat} {l : List Pt} {us : List Value} (h : Vals w base g l us) (hb : Below w.heap.size w w') : Vals w' base g l us :=
  ⟨h.1, fun j hj => by
    obtain ⟨u, lo, hi, h1, h2, h3, h4, h5⟩ := h.2 j hj
    exact ⟨u, lo, hi, h1, h2.same (Same.of_below hb h4), h3, Nat.le_trans h4 hb.size, h5⟩⟩
/-- Behind an append: one more. -/
theorem Vals.snoc {w w' : World} {base g lo hi : Nat} {v : Value} {l : List Pt} {us : List Value} {p : Pt} {u : Value} (h : Vals w base v.ownBlock l us) (hu : VI w lo hi p u) (h1 : base ≤ lo) (h2 : hi ≤ w.heap.size)
    (hv : ∀ k, v.ownBlock = some k → k < lo ∨ hi ≤ k) (hg : w.grownBy w' v.ownBlock) (hw : v.ownBlock = some g ∨ w.heap.size ≤ g) : Vals w' base (some g) (l ++ [p]) (us ++ [u]) := by
  have same : ∀ lo hi, hi ≤ w.heap.size → (∀ k, v.ownBlock = some k → k < lo ∨ hi ≤ k) → Same lo hi w w' := fun lo hi a b k c d => hg.block k (by omega) (fun e => by have := b k e.symm; omega)
  have out : ∀ lo hi, hi ≤ w.heap.size → (∀ k, v.ownBlock = some k → k < lo ∨ hi ≤ k) → ∀ k, some g = some k → k < lo ∨ hi ≤ k := fun lo hi a b k e => by
    have e := Option.some.inj e
    subst e
    rcases hw with e | e
    · exact b _ e
    · exact .inr (by omega)
  refine ⟨by simp [h.1], fun j hj => ?_⟩
  by_cases hjl : j < l.length
  · obtain ⟨x, lo2, hi2, a1, a2, a3, a4, a5⟩ := h.2 j hjl
    refine ⟨x, lo2, hi2, ?_, ?_, a3, Nat.le_trans a4 hg.size, out _ _ a4 a5⟩
    · rw [List.getElem?_append_left (by rw [h.1]; exact hjl)]; exact a1
    · rw [List.getElem_append_left hjl]; exact a2.same (same _ _ a4 a5)
  · have hje : j = l.length := by simp at hj; omega
    subst hje
    refine ⟨u, lo, hi, ?_, ?_, h1, Nat.le_trans h2 hg.size, out _ _ h2 hv⟩
    · rw [List.getElem?_append_right (by rw [h.1]; exact Nat.le_refl _), h.1]; simp
    · rw [List.getElem_append_right (Nat.le_refl _)]; simpa using hu.same (same _ _ h2 hv)

theorem undrew {w w' : World} (h : Below w.drew.heap.size w.drew w') : Below w.heap.size w w' := ⟨h.os, h.tape, h.output, h.size, h.block⟩
theorem one_cell (w : World) (x : Value) (T : TypeId) : ∀ j u, [x][j]? = some u → (w.alloc (.cells #[x] T)).cell? ((⟨w.heap.size, 0, none⟩ : Addr).add j) = some u := by
  intro j u hj
  match j, hj with
  | 0, hj => simp at hj; subst hj; simp [Addr.add]
theorem own_below {w w' : World} {base : Nat} {e : TypeId} {v : Value} {n : Nat} {us : List Value} (h : w.ownsRow base e 1 v n us) (hb : Below w.heap.size w w') : w'.ownsRow base e 1 v n us := by
  refine ⟨h.1, ?_⟩
  rcases h.2 with hn | ⟨g, cap, cur, rfl, hg, hgg, rest⟩
  · exact .inl hn
  · exact .inr ⟨g, cap, cur, rfl, hg, (hb.block g (Array.getElem?_eq_some_iff.1 hgg).1).trans hgg, rest⟩
theorem own_cell {w w3 : World} {ob : Obj} {base : Nat} {e : TypeId} {v u : Value} {n b o : Nat} {us : List Value} (h : w.ownsRow base e 1 v n us) (hg : (w.alloc ob).grownBy w3 v.ownBlock) (hb : b < base) (hc : w.cell? ⟨b, o, none⟩ = some u) : w3.cell? ⟨b, o, none⟩ = some u := by
  have hlt : b < w.heap.size := World.block_lt_of_cell? w _ hc
  refine (World.cell?_of_block (hg.block b (by simp; omega) (fun e => by have := (World.ownsRow.lt h b e.symm).1; omega))).trans ?_
  exact (World.cell?_of_block (Below.heap_alloc w ob b hlt)).trans hc
theorem own_frozen {w w3 : World} {ob : Obj} {base : Nat} {e : TypeId} {v : Value} {n b o : Nat} {us : List Value} (h : w.ownsRow base e 1 v n us) (hg : (w.alloc ob).grownBy w3 v.ownBlock) (hb : b < base) (hlt : b < w.heap.size) (hc : w.frozen? ⟨b, o, none⟩ = false) : w3.frozen? ⟨b, o, none⟩ = false := by
  refine (World.frozen?_of_block (hg.block b (by simp; omega) (fun e => by have := (World.ownsRow.lt h b e.symm).1; omega))).trans ?_
  exact (World.frozen?_of_block (Below.heap_alloc w ob b hlt)).trans hc
theorem may_len {p : Pt} (h : mayB p = true) (h7 : p.kind = 7) : p.items.length ≤ 1024 := by
  have h1 := mayB_ok h
  unfold okOne at h1
  simp only [h7, Bool.and_eq_true] at h1
  have h2 := h1.2
  simp at h2
  exact h2.2
theorem VI.nilOf {w : World} {lo hi : Nat} {p : Pt} {v : Value} (h : VI w lo hi p v) (h0 : p.kind = 0) : v = .nilIface := by
  cases h with
  | null _ _ => rfl
  | truth _ h => omega
  | whole _ h => omega
  | row _ h _ _ _ => omega
  | tuple _ h _ _ _ _ _ _ => omega
theorem VI.ifaceOf {w : World} {lo hi : Nat} {p : Pt} {v : Value} (h : VI w lo hi p v) (h0 : p.kind ≠ 0) : ∃ T V, v = .iface T V := by
  cases h with
  | null _ h => omega
  | truth _ h => exact ⟨_, _, rfl⟩
  | whole _ h => exact ⟨_, _, rfl⟩
  | row _ h _ _ _ => exact ⟨_, _, rfl⟩
  | tuple _ h _ _ _ _ _ _ => exact ⟨_, _, rfl⟩
/-- What a round leaves. -/
theorem made_step {W1 w2 w3 : World} {T g cap k : Nat} {s x y : Value} {q : Pt} {l : List Pt} {us : List Value} (ob : Obj) (hO1 : W1.ownsRow (T + 1) 33 1 s k us) (hV1 : Vals W1 (T + 1) s.ownBlock l us)
    (hx : VI w2 W1.heap.size w2.heap.size q x) (hb2 : Below W1.heap.size W1 w2) (hg : (w2.alloc ob).grownBy w3 s.ownBlock) (hl : s.ownBlock = some g ∨ g = (w2.alloc ob).heap.size)
    (hO3 : w3.ownsRow (T + 1) 33 1 (.slice (some ⟨g, 0, none⟩) (k + 1) cap) (k + 1) (us ++ [x])) (hT : T + 1 ≤ W1.heap.size) :
    (w3.setCell ⟨T, 0, none⟩ y).ownsRow (T + 1) 33 1 (.slice (some ⟨g, 0, none⟩) (k + 1) cap) (k + 1) (us ++ [x]) ∧ Vals (w3.setCell ⟨T, 0, none⟩ y) (T + 1) (some g) (l ++ [q]) (us ++ [x]) ∧
      Below T W1 (w3.setCell ⟨T, 0, none⟩ y) ∧ W1.heap.size ≤ (w3.setCell ⟨T, 0, none⟩ y).heap.size := by
  have hba : Below W1.heap.size W1 (w2.alloc ob) := hb2.alloc hb2.size ob
  have hown : ∀ k, s.ownBlock = some k → T + 1 ≤ k ∧ k < W1.heap.size := World.ownsRow.lt hO1
  have hV := hV1.below hba
  have hxa : VI (w2.alloc ob) W1.heap.size w2.heap.size q x := hx.same (Same.of_below ((Below.refl w2.heap.size w2).alloc (Nat.le_refl _) ob) (Nat.le_refl _))
  have hV3 := Vals.snoc (v := s) (g := g) hV hxa hT (by simp) (fun k hk => .inl (hown k hk).2) hg (by rcases hl with h | h; exact .inl h; exact .inr (Nat.le_of_eq h.symm))
  refine ⟨ownsRow_setCell_below hO3 (by simp) y, ⟨hV3.1, fun j hj => ?_⟩, ?_, ?_⟩
  · obtain ⟨u, lo, hi, h1, h2, h3, h4, h5⟩ := hV3.2 j hj
    exact ⟨u, lo, hi, h1, h2.same (fun k a b => Below.heap_setCell _ _ _ _ (by simp; omega)), h3, by simpa [World.setCell] using h4, h5⟩
  · exact (((hba.mono (B' := T) (by omega)).grown hg (by have := hb2.size; simp; omega) (fun k hk => by have := hown k hk; omega))).setCell (Nat.le_refl _) y
  · have h1 := hg.size
    have h2 := hb2.size
    have h3 : (w2.alloc ob).heap.size = w2.heap.size + 1 := by simp
    have h4 : (w3.setCell ⟨T, 0, none⟩ y).heap.size = w3.heap.size := by simp [World.setCell]
    omega
def MadePost (p : Pt) (w : World) (e : Ending) (w' : World) : Prop := ∃ u, e = .returned u ∧ VI w' w.heap.size w'.heap.size p u ∧ Below w.heap.size w w'
theorem made_end {p : Pt} {w : World} {u : Value} (h : VI w w.heap.size w.heap.size p u) (ob : Obj) (_h1 : True) (_h2 : True) : MadePost p w (.returned u) (w.alloc ob) :=
  ⟨u, rfl, (h.same (fun k a b => by omega)).wide (Nat.le_refl _) (by simp), (Below.refl _ _).alloc (Nat.le_refl _) _⟩
theorem may_kind7 {p : Pt} (h : mayB p = true) : p.kind ≤ 7 := by
  have h1 := mayB_ok h
  unfold okOne at h1
  simp only [Bool.and_eq_true, decide_eq_true_eq] at h1
  exact h1.1.1.1.1
theorem own_form {w : World} {base : Nat} {e : TypeId} {v : Value} {n : Nat} {us : List Value} (h : w.ownsRow base e 1 v n us) : ∃ a cap, v = .slice a n cap := by
  rcases h.2 with ⟨rfl, rfl⟩ | ⟨g, cap, cur, rfl, _⟩
  · exact ⟨none, 0, rfl⟩
  · exact ⟨_, cap, rfl⟩
/-- The list that was made, as a value. -/
theorem vals_tuple {w : World} {base : Nat} {p : Pt} {s : Value} {us : List Value} (h7 : p.kind = 7) (hO : w.ownsRow base 33 1 s p.items.length us) (hV : Vals w base s.ownBlock p.items us) :
    VI w base w.heap.size p (.iface 145 (.agg #[s])) := by
  have hd : ∀ j (h : j < p.items.length), VI w base w.heap.size p.items[j] (us.getD j .nilIface) := fun j hj => by
    obtain ⟨u, lo, hi, h1, h2, h3, h4, _⟩ := hV.2 j hj
    rw [List.getD, h1]
    exact h2.wide h3 h4
  rcases hO.2 with ⟨rfl, hn⟩ | ⟨g, cap, cur, rfl, hg, hgg, hnc, _⟩
  · rw [show Value.slice none 0 0 = Value.slice none p.items.length 0 from by rw [hn]]
    exact VI.tuple p h7 none 0 (fun j => us.getD j .nilIface) (by omega) (fun j hj => by omega) hd
  · refine VI.tuple p h7 _ cap (fun j => us.getD j .nilIface) hnc (fun j hj => ⟨g, rfl, hg, (Array.getElem?_eq_some_iff.1 hgg).1, ?_⟩) hd
    have hj2 : j < us.length := by rw [hV.1]; exact hj
    have := World.ownsRow.cells hO (g := g) rfl j (us.getD j .nilIface) (by rw [List.getD, List.getElem?_eq_getElem hj2]; rfl)
    have e : (⟨g, 0, none⟩ : Addr).add j = ⟨g, j, none⟩ := by unfold Addr.add; split <;> simp_all
    rw [e] at this
    exact this

set_option maxRecDepth 100000 in
set_option maxHeartbeats 2000000 in
theorem made_any (p : Pt) : ∀ (v : Value) (w : World), mayB p = true → Fit p → PI w 0 w.heap.size p.items v →
    Calls Tryd.prog 49 #[.agg #[.int .u8 p.kind, .bool p.yes, .bool p.neg, .string p.mag, .string p.raw, v]] w (MadePost p w) := by
  induction p using Pt.ind with
  | h p ih =>
  intro v w hmay hf hp
  obtain ⟨a, cap, rfl, _, hat⟩ := hp.open
  by_cases h7 : p.kind = 7
  · have e0 : ((p.kind : Int) == 0) = false := beq_eq_false_iff_ne.2 (by omega)
    have e1 : ((p.kind : Int) == 1) = false := beq_eq_false_iff_ne.2 (by omega)
    have e2 : ((p.kind : Int) == 2) = false := beq_eq_false_iff_ne.2 (by omega)
    have e7 : ((p.kind : Int) == 7) = true := beq_iff_eq.2 (by omega)
    have HA := Lib.hid hat
    have IH := Lib.hid ih
    have hlen := may_len hmay h7
    have HM := Lib.hid hmay
    have H7 := Lib.hid h7
    have hl := hf.l
    clear hat ih hp hmay h7
    go_enter Tryd.func49, Tryd.ntmps49
    go_wp2_with fail
    go_loopw [27] (fun i wr => ∃ (k : Nat) (s : Value) (us : List Value), k ≤ p.items.length ∧ i = .int .i64 k ∧ wr.cell? ⟨w.heap.size + 1, 0, none⟩ = some s ∧ wr.frozen? ⟨w.heap.size + 1, 0, none⟩ = false ∧
      wr.ownsRow (w.heap.size + 2) 33 1 s k us ∧ RowKit.Hid (Vals wr (w.heap.size + 2) s.ownBlock (p.items.take k) us) ∧ Below w.heap.size w wr ∧ w.heap.size + 2 ≤ wr.heap.size) (fun i _ => p.items.length - (intOf i).toNat)
    case atStart => exact ⟨0, .slice none 0 0, [], Nat.zero_le _, rfl, by simp, by simp, World.ownsRow_nil _ _ _ _, Vals.nil _ _ _, ((Below.refl _ _).alloc (Nat.le_refl _) _).alloc (by simp) _, by simp⟩
    case round =>
      obtain ⟨k, s, us, hkl, rfl, hts, htf, hO, HV, hB, hsz⟩ := hrel
      by_cases hlt : k < p.items.length
      · have q3 : decide (k < p.items.length) = true := by simpa using hlt
        obtain ⟨b, off, u, rfl, _, hb, hc, hfit, hpi⟩ := HA.out k hlt
        obtain ⟨d0, d1, d2, d3, d4, d5⟩ := hc.same (Same.of_below hB (Nat.le_refl _)) (Nat.zero_le _) hb
        have hmem : p.items[k] ∈ p.items := List.getElem_mem _
        have hmq := Lib.hid (mayB_item HM.out hmem)
        obtain ⟨q, hq⟩ : ∃ q, p.items[k] = q := ⟨_, rfl⟩
        rw [hq] at d0 d1 d2 d3 d4 hfit hpi hmem hmq
        have HQ := Lib.hid hq
        clear hq
        obtain ⟨a2, cap2, rfl, _, _⟩ := hpi.open
        have hpi2 := Lib.hid hpi
        clear hc hpi
        go_wp2_with fail
        obtain ⟨W1, hW1⟩ : ∃ W1, W1 = wr.alloc (.cells #[.int .u8 q.kind, .bool q.yes, .bool q.neg, .string q.mag, .string q.raw, .slice a2 q.items.length cap2] 27) := ⟨_, rfl⟩
        have hB1 : Below wr.heap.size wr W1 := by rw [hW1]; exact (Below.refl _ _).alloc (Nat.le_refl _) _
        have hO1 : W1.ownsRow (w.heap.size + 2) 33 1 s k us := by rw [hW1]; exact hO.alloc _
        have hV1 := Lib.hid (HV.out.below hB1)
        have t1 : W1.cell? ⟨w.heap.size + 1, 0, none⟩ = some s := keep hB1 (by omega) hts
        have t2 : W1.frozen? ⟨w.heap.size + 1, 0, none⟩ = false := (hB1.frozen (p := ⟨w.heap.size + 1, 0, none⟩) (by simp; omega)).trans htf
        have x0 : W1.cell? ⟨wr.heap.size, 0, none⟩ = some (.int .u8 q.kind) := by rw [hW1]; simp
        have x1 : W1.cell? ⟨wr.heap.size, 1, none⟩ = some (.bool q.yes) := by rw [hW1]; simp
        have x2 : W1.cell? ⟨wr.heap.size, 2, none⟩ = some (.bool q.neg) := by rw [hW1]; simp
        have x3 : W1.cell? ⟨wr.heap.size, 3, none⟩ = some (.string q.mag) := by rw [hW1]; simp
        have x4 : W1.cell? ⟨wr.heap.size, 4, none⟩ = some (.string q.raw) := by rw [hW1]; simp
        have x5 : W1.cell? ⟨wr.heap.size, 5, none⟩ = some (.slice a2 q.items.length cap2) := by rw [hW1]; simp
        have hBW : Below w.heap.size w W1 := hB.trans (hB1.mono (by omega))
        have hpi3 := Lib.hid (show PI W1.drew 0 W1.drew.heap.size q.items (.slice a2 q.items.length cap2) from hpi2.out.later hBW.drew)
        have hWs : w.heap.size + 2 ≤ W1.heap.size := by have := hB1.size; omega
        have hWa : w.heap.size + 1 < w.heap.size + 2 := by omega
        have hWl : w.heap.size + 1 < W1.heap.size := by omega
        rw [← hW1]
        clear hW1 hB1 hB hO HV hts htf d0 d1 d2 d3 d4 d5 hb hpi2
        obtain ⟨i0, hi, hz0, hz1, hz2⟩ := info_parts infoV
        by_cases hq0 : q.kind = 0
        · have HQ0 := Lib.hid hq0
          clear hq0
          go_region_law (first
            | (go_simp; go_at_call 49; refine (IH.out q hmem _ _ hmq.out hfit (by exact hpi3.out)).mono ?_; rintro e w2 ⟨x, rfl, hx, hb0⟩; have hb2 := undrew hb0; have hxe := hx.nilOf HQ0.out; rw [hxe] at hx ⊢; clear hxe; have hx2 := Lib.hid hx; have hO2 := own_below hO1 hb2; have s2 := keep hb2 hWl t1; have f2 : w2.frozen? ⟨w.heap.size + 1, 0, none⟩ = false := (hb2.frozen (p := ⟨w.heap.size + 1, 0, none⟩) hWl).trans t2; have hWm : w.heap.size + 1 < w2.heap.size := Nat.lt_of_lt_of_le hWl hb2.size; clear hx)
            | (refine step_append_lies _ rfl (.tmp 32) (.tmp 35) 143 rfl (w.heap.size + 2) 33 i0 .nilIface 1 16 Tryd.underlying143 hi hz0 hz1 hz2 rfl (by decide) s k us (by simp [Act.eval, Act.put]) (hO2.alloc _) ⟨w2.heap.size, 0, none⟩ 1 1 [.nilIface] (by simp [Act.eval, Act.put]) rfl (one_cell w2 _ _) (by intro y hy; simp at hy; subst hy; rfl) (by decide) (by unfold maxLen; omega) (by omega) (by simp; omega) _ rfl ?_; intro g cap3 w3 hO3 hg3 hlies hgl; have s3 := own_cell hO2 hg3 hWa s2; have f3 := own_frozen hO2 hg3 hWa hWm f2))
          all_goals
            go_wp2_with fail
            have ST := made_step _ hO1 hV1.out hx2.out hb2 hg3 hlies hO3 (by omega) (y := .slice (some ⟨g, 0, none⟩) (k + 1) cap3)
            have HT : p.items.take (k + 1) = p.items.take k ++ [q] := by rw [List.take_succ_eq_append_getElem hlt, HQ.out]
            refine ⟨⟨k + 1, .slice (some ⟨g, 0, none⟩) (k + 1) cap3, _, by omega, rfl, World.cell?_setCell_same w3 _ _ s3, (World.frozen?_setCell ..).trans f3, ST.1, Lib.hid (by rw [HT]; exact ST.2.1), hBW.trans (ST.2.2.1.mono (by omega)), by have := ST.2.2.2; omega⟩, by simp [intOf]; omega⟩
        · have HQ0 := Lib.hid hq0
          clear hq0
          go_region_law (first
            | (go_simp; go_at_call 49; refine (IH.out q hmem _ _ hmq.out hfit (by exact hpi3.out)).mono ?_; rintro e w2 ⟨x, rfl, hx, hb0⟩; have hb2 := undrew hb0; obtain ⟨T0, V0, hxe⟩ := hx.ifaceOf HQ0.out; rw [hxe] at hx ⊢; clear hxe; have hx2 := Lib.hid hx; have hO2 := own_below hO1 hb2; have s2 := keep hb2 hWl t1; have f2 : w2.frozen? ⟨w.heap.size + 1, 0, none⟩ = false := (hb2.frozen (p := ⟨w.heap.size + 1, 0, none⟩) hWl).trans t2; have hWm : w.heap.size + 1 < w2.heap.size := Nat.lt_of_lt_of_le hWl hb2.size; clear hx)
            | (refine step_append_lies _ rfl (.tmp 32) (.tmp 35) 143 rfl (w.heap.size + 2) 33 i0 .nilIface 1 16 Tryd.underlying143 hi hz0 hz1 hz2 rfl (by decide) s k us (by simp [Act.eval, Act.put]) (hO2.alloc _) ⟨w2.heap.size, 0, none⟩ 1 1 [.iface T0 V0] (by simp [Act.eval, Act.put]) rfl (one_cell w2 _ _) (by intro y hy; simp at hy; subst hy; rfl) (by decide) (by unfold maxLen; omega) (by omega) (by simp; omega) _ rfl ?_; intro g cap3 w3 hO3 hg3 hlies hgl; have s3 := own_cell hO2 hg3 hWa s2; have f3 := own_frozen hO2 hg3 hWa hWm f2))
          all_goals
            go_wp2_with fail
            have ST := made_step _ hO1 hV1.out hx2.out hb2 hg3 hlies hO3 (by omega) (y := .slice (some ⟨g, 0, none⟩) (k + 1) cap3)
            have HT : p.items.take (k + 1) = p.items.take k ++ [q] := by rw [List.take_succ_eq_append_getElem hlt, HQ.out]
            refine ⟨⟨k + 1, .slice (some ⟨g, 0, none⟩) (k + 1) cap3, _, by omega, rfl, World.cell?_setCell_same w3 _ _ s3, (World.frozen?_setCell ..).trans f3, ST.1, Lib.hid (by rw [HT]; exact ST.2.1), hBW.trans (ST.2.2.1.mono (by omega)), by have := ST.2.2.2; omega⟩, by simp [intOf]; omega⟩
      · have q3 : decide (k < p.items.length) = false := by simpa using hlt
        have hkl2 : k = p.items.length := by omega
        have hT : p.items.take k = p.items := List.take_of_length_le (by omega)
        rw [hT] at HV
        obtain ⟨a9, cap9, hs9⟩ := own_form hO
        have hVI := Lib.hid (vals_tuple H7.out (hkl2 ▸ hO) HV.out)
        rw [hs9] at hts hVI
        rw [hkl2] at hts hVI
        clear hT hO HV hs9
        subst hkl2
        go_wp2_with fail
        go_ret
        exact ⟨_, rfl, hVI.out.wide (by omega) (Nat.le_refl _), hB⟩
  · have hk := may_kind7 hmay
    have H7 := Lib.hid h7
    rcases (show p.kind = 0 ∨ p.kind = 1 ∨ p.kind = 2 ∨ (p.kind ≠ 0 ∧ p.kind ≠ 1 ∧ p.kind ≠ 2 ∧ p.kind ≠ 7) by omega) with h | h | h | ⟨h0, h1, h2, h7⟩
    · have HV := Lib.hid (VI.null (w := w) (lo := w.heap.size) (hi := w.heap.size) p h)
      have e0 : ((p.kind : Int) == 0) = true := beq_iff_eq.2 (by omega)
      clear h h7 hmay
      go_enter Tryd.func49, Tryd.ntmps49
      go_wp2_with fail
      go_ret
      exact made_end HV.out _ (by simp) (by simp)
    · have HV := Lib.hid (VI.truth (w := w) (lo := w.heap.size) (hi := w.heap.size) p h)
      have e0 : ((p.kind : Int) == 0) = false := beq_eq_false_iff_ne.2 (by omega)
      have e1 : ((p.kind : Int) == 1) = true := beq_iff_eq.2 (by omega)
      clear h h7 hmay
      go_enter Tryd.func49, Tryd.ntmps49
      go_wp2_with fail
      go_ret
      exact made_end HV.out _ (by simp) (by simp)
    · have HV := Lib.hid (VI.whole (w := w) (lo := w.heap.size) (hi := w.heap.size) p h)
      have e0 : ((p.kind : Int) == 0) = false := beq_eq_false_iff_ne.2 (by omega)
      have e1 : ((p.kind : Int) == 1) = false := beq_eq_false_iff_ne.2 (by omega)
      have e2 : ((p.kind : Int) == 2) = true := beq_iff_eq.2 (by omega)
      clear h h7 hmay
      go_enter Tryd.func49, Tryd.ntmps49
      go_wp2_with fail
      go_ret
      exact made_end HV.out _ (by simp) (by simp)
    · have HV := Lib.hid (VI.row (w := w) (lo := w.heap.size) (hi := w.heap.size) p h0 h1 h2 h7)
      have e0 : ((p.kind : Int) == 0) = false := beq_eq_false_iff_ne.2 (by omega)
      have e1 : ((p.kind : Int) == 1) = false := beq_eq_false_iff_ne.2 (by omega)
      have e2 : ((p.kind : Int) == 2) = false := beq_eq_false_iff_ne.2 (by omega)
      have e7 : ((p.kind : Int) == 7) = false := beq_eq_false_iff_ne.2 (by omega)
      clear h0 h1 h2 h7 hmay
      go_enter Tryd.func49, Tryd.ntmps49
      go_wp2_with fail
      go_ret
      exact made_end HV.out _ (by simp) (by simp)
end Go.Proofs.YtcgphlilijeifaaDoor.V
end
section
/-
  The program's Make: its contract.
-/
namespace Go.Proofs.YtcgphlilijeifaaDoor.V
open Go.RowKit

theorem makeE_ok {p : Pt} (h : makeE p = 0) : deepB 16 p = false ∧ mayB p = true := by
  unfold makeE at h
  cases hd : deepB 16 p with
  | true => rw [hd] at h; simp at h
  | false =>
    rw [hd] at h
    cases hm : mayB p with
    | true => exact ⟨rfl, rfl⟩
    | false => rw [hm] at h; simp at h
theorem makeE_depth {p : Pt} (h : makeE p = 0) : depthP p ≤ 16 := by
  have h1 := (makeE_ok h).1
  have h2 := deepB_iff 16 p
  rcases Nat.lt_or_ge 16 (depthP p) with h3 | h3
  · rw [h2.2 h3] at h1; cases h1
  · exact h3
theorem makeE_three (p : Pt) : makeE p = 0 ∨ makeE p = 90 ∨ makeE p = 91 := by
  unfold makeE
  split
  · exact .inr (.inr rfl)
  · split
    · exact .inl rfl
    · exact .inr (.inl rfl)

/-- A part's box. -/
structure Box (w : World) (g : Nat) (p : Pt) (v : Value) : Prop where
  lt : g < w.heap.size
  cells : PartCells w g 0 p v
theorem Box.new (w : World) (p : Pt) (v : Value) (T : TypeId) : Box (w.alloc (.cells #[.int .u8 p.kind, .bool p.yes, .bool p.neg, .string p.mag, .string p.raw, v] T)) w.heap.size p v :=
  ⟨by simp, by constructor <;> simp⟩
theorem Box.later {w w1 : World} {g B : Nat} {p : Pt} {v : Value} (h : Box w g p v) (hb : Below B w w1) (hB : g < B) : Box w1 g p v :=
  ⟨Nat.lt_of_lt_of_le h.lt hb.size, h.cells.same (Same.of_below hb (Nat.le_refl _)) (Nat.zero_le _) hB⟩

def MakePost (p : Pt) (w : World) (e : Ending) (w' : World) : Prop := ∃ u, e = .returned (.tuple #[u, .int .i64 (makeE p)]) ∧ (makeE p ≠ 0 → u = .nilIface) ∧ (makeE p = 0 → VI w' w.heap.size w'.heap.size p u) ∧ Below w.heap.size w w'
set_option maxHeartbeats 1000000 in
theorem make_any (p : Pt) (v : Value) (w : World) (hf : Fit p) (hp : PI w 0 w.heap.size p.items v) :
    Calls Tryd.prog 16 #[.agg #[.int .u8 p.kind, .bool p.yes, .bool p.neg, .string p.mag, .string p.raw, v]] w (MakePost p w) := by
  have hp0 := Lib.hid hp
  obtain ⟨a, cap, rfl, _, _⟩ := hp.open
  have hbx := Lib.hid (Box.new w p (.slice a p.items.length cap) 27)
  clear hp
  go_enter Tryd.func16, Tryd.ntmps16
  go_wp2_with fail
  refine (deep_any 16 p _ _ (by omega) hf (hp0.out.later ((Below.refl _ _).alloc (Nat.le_refl _) _))).mono ?_
  rintro e w1 ⟨rfl, hb1⟩
  have hB1 : Below w.heap.size w w1 := ((Below.refl _ _).alloc (Nat.le_refl _) _).trans (hb1.mono (by simp))
  have HX1 := Lib.hid (hbx.out.later hb1 (by simp))
  obtain ⟨_, ⟨c0, c1, c2, c3, c4, c5⟩⟩ := HX1.out
  clear hb1 hbx
  cases hd : deepB 16 p with
  | true =>
    have HM := Lib.hid (show makeE p = 91 by simp [makeE, hd])
    clear hd
    go_wp2_with fail
    go_ret2
    exact ⟨.nilIface, by rw [HM.out]; rfl, fun _ => rfl, (fun h => by rw [HM.out] at h; cases h), hB1⟩
  | false =>
    have hm0 : makeE p = if mayB p then 0 else 90 := by simp [makeE, hd]
    clear hd
    go_wp2_with fail
    refine (may_any p _ _ hf (hp0.out.later hB1)).mono ?_
    rintro e w2 ⟨rfl, hb2⟩
    have hB2 := two hB1 hb2
    have HX2 := Lib.hid (HX1.out.later hb2 HX1.out.lt)
    clear c0 c1 c2 c3 c4 c5
    obtain ⟨_, ⟨c0, c1, c2, c3, c4, c5⟩⟩ := HX2.out
    cases hd : mayB p with
    | true =>
      have HM := Lib.hid (show makeE p = 0 by rw [hm0, hd]; rfl)
      have HY := Lib.hid hd
      clear hd hm0
      go_wp2_with fail
      refine (made_any p _ _ HY.out hf (hp0.out.later hB2)).mono ?_
      rintro e w3 ⟨u, rfl, hu, hb3⟩
      have HU := Lib.hid hu
      have hz : w.heap.size ≤ w2.heap.size := hB2.size
      clear hu
      go_wp2_with fail
      go_ret2
      exact ⟨u, by rw [HM.out]; rfl, fun h => absurd HM.out h, fun _ => HU.out.wide hz (Nat.le_refl _), two hB2 hb3⟩
    | false =>
      have HM := Lib.hid (show makeE p = 90 by rw [hm0, hd]; rfl)
      clear hd hm0
      go_wp2_with fail
      go_ret2
      exact ⟨.nilIface, by rw [HM.out]; rfl, fun _ => rfl, (fun h => by rw [HM.out] at h; cases h), hB2⟩
end Go.Proofs.YtcgphlilijeifaaDoor.V
end
section
/-
  Lists of parts in memory of their own: each in a block of its own, apart from all others.
-/
namespace Go.Proofs.YtcgphlilijeifaaDoor.V
open Go.RowKit

/-- A part that marks the room behind a list. -/
structure MarkCells (w : World) (b o : Nat) : Prop where
  c0 : w.cell? ⟨b, o, none⟩ = some (.int .u8 99)
  c1 : w.cell? ⟨b, o + 1, none⟩ = some (.bool false)
  c2 : w.cell? ⟨b, o + 2, none⟩ = some (.bool false)
  c3 : w.cell? ⟨b, o + 3, none⟩ = some (.string ⟨#[]⟩)
  c4 : w.cell? ⟨b, o + 4, none⟩ = some (.string ⟨#[109, 97, 114, 107]⟩)
  c5 : w.cell? ⟨b, o + 5, none⟩ = some (.slice none 0 0)
theorem MarkCells.same {lo hi b o : Nat} {w w' : World} (h : MarkCells w b o) (hs : Same lo hi w w') (h1 : lo ≤ b) (h2 : b < hi) : MarkCells w' b o :=
  ⟨hs.cell h1 h2 h.c0, hs.cell h1 h2 h.c1, hs.cell h1 h2 h.c2, hs.cell h1 h2 h.c3, hs.cell h1 h2 h.c4, hs.cell h1 h2 h.c5⟩

/-- The list lies in the blocks from lo up to hi, each list in a block of its own; m: with two marks behind each. -/
inductive OwnI (w : World) (m : Bool) : Nat → Nat → List Pt → Value → Prop
  | nil (lo hi : Nat) (hm : m = false) : OwnI w m lo hi [] (.slice none 0 0)
  | row (lo hi : Nat) (l : List Pt) (g cap : Nat) (cur : Array Value) (F : Nat → Value) (L H : Nat → Nat) (h1 : lo ≤ g) (h2 : g < hi) (blk : w.heap[g]? = some (.cells cur 27 (0, 0))) (hcap : l.length ≤ cap)
      (hsz : cur.size = cap * 6) (hmax : cap ≤ maxLen) (cells : ∀ j (h : j < l.length), PartCells w g (j * 6) l[j] (F j)) (fits : ∀ j (h : j < l.length), Fit l[j])
      (rng : ∀ j, j < l.length → lo ≤ L j ∧ L j ≤ H j ∧ H j ≤ hi ∧ ¬ (L j ≤ g ∧ g < H j)) (apart : ∀ i j, i < j → j < l.length → H i ≤ L j)
      (room : m = true → cap = l.length + 2 ∧ MarkCells w g (l.length * 6) ∧ MarkCells w g (l.length * 6 + 6))
      (deep : ∀ j (h : j < l.length), OwnI w m (L j) (H j) l[j].items (F j)) : OwnI w m lo hi l (.slice (some ⟨g, 0, none⟩) l.length cap)
theorem OwnI.same {m : Bool} {lo hi : Nat} {w w' : World} {l : List Pt} {v : Value} (h : OwnI w m lo hi l v) (hs : Same lo hi w w') : OwnI w' m lo hi l v := by
  induction h with
  | nil lo hi hm => exact .nil lo hi hm
  | row lo hi l g cap cur F L H h1 h2 blk hcap hsz hmax cells fits rng apart room deep ih =>
    exact .row lo hi l g cap cur F L H h1 h2 ((hs g h1 h2).trans blk) hcap hsz hmax (fun j hj => (cells j hj).same hs h1 h2) fits rng apart
      (fun hm => ⟨(room hm).1, (room hm).2.1.same hs h1 h2, (room hm).2.2.same hs h1 h2⟩) (fun j hj => ih j hj (hs.mono (rng j hj).1 (rng j hj).2.2.1))
theorem OwnI.wide {m : Bool} {lo hi lo' hi' : Nat} {w : World} {l : List Pt} {v : Value} (h : OwnI w m lo hi l v) (a : lo' ≤ lo) (b : hi ≤ hi') : OwnI w m lo' hi' l v := by
  cases h with
  | nil _ _ hm => exact .nil lo' hi' hm
  | row _ _ _ g cap cur F L H h1 h2 blk hcap hsz hmax cells fits rng apart room deep =>
    exact .row lo' hi' l g cap cur F L H (by omega) (by omega) blk hcap hsz hmax cells fits (fun j hj => by obtain ⟨r1, r2, r3, r4⟩ := rng j hj; exact ⟨by omega, r2, by omega, r4⟩) apart room deep
theorem OwnI.reads {m : Bool} {lo hi : Nat} {w : World} {l : List Pt} {v : Value} (h : OwnI w m lo hi l v) : PI w lo hi l v := by
  induction h with
  | nil lo hi hm => exact PI.nil _ _ _
  | row lo hi l g cap cur F L H h1 h2 blk hcap hsz hmax cells fits rng apart room deep ih =>
    exact .mk l _ cap F hcap (fun j hj => ⟨g, 0, rfl, h1, h2, by rw [Nat.zero_add]; exact cells j hj⟩) fits (fun j hj => (ih j hj).wide (rng j hj).1 (rng j hj).2.2.1)

/-- The cells of parts, one behind the other. -/
def flat (ps : List (Pt × Value)) : List Value := ps.flatMap fun x => (cellsOf x.1 x.2).toList
theorem flat_length (ps : List (Pt × Value)) : (flat ps).length = ps.length * 6 := by
  induction ps with
  | nil => rfl
  | cons x r ih => simp only [flat, List.flatMap_cons, List.length_append, List.length_cons] at ih ⊢; rw [ih]; simp [cellsOf]; omega
theorem flat_snoc (ps : List (Pt × Value)) (x : Pt × Value) : flat (ps ++ [x]) = flat ps ++ (cellsOf x.1 x.2).toList := by simp [flat]
theorem flat_get (ps : List (Pt × Value)) (j c : Nat) (hc : c < 6) (h : j < ps.length) : (flat ps)[j * 6 + c]? = (cellsOf ps[j].1 ps[j].2)[c]? := by
  induction ps generalizing j with
  | nil => cases h
  | cons x r ih =>
    have e : flat (x :: r) = (cellsOf x.1 x.2).toList ++ flat r := by simp [flat]
    rw [e]
    cases j with
    | zero =>
      rw [Nat.zero_mul, Nat.zero_add, List.getElem?_append_left (by simpa [cellsOf] using hc)]
      simp
    | succ j =>
      rw [List.getElem?_append_right (by simp [cellsOf]; omega)]
      have e2 : (j + 1) * 6 + c - (cellsOf x.1 x.2).toList.length = j * 6 + c := by simp [cellsOf]; omega
      rw [e2]
      exact ih j (by simpa using h)
/-- What such a row holds. -/
theorem flat_cells {w : World} {base g cap n : Nat} {ps : List (Pt × Value)} (h : w.ownsRow base 27 6 (.slice (some ⟨g, 0, none⟩) n cap) n (flat ps)) (j : Nat) (hj : j < ps.length) : PartCells w g (j * 6) ps[j].1 ps[j].2 := by
  have key : ∀ c, c < 6 → w.cell? ⟨g, j * 6 + c, none⟩ = (cellsOf ps[j].1 ps[j].2)[c]? := fun c hc => by
    have e := flat_get ps j c hc hj
    have e3 : (cellsOf ps[j].1 ps[j].2)[c]? = some ((cellsOf ps[j].1 ps[j].2)[c]'(by simpa [cellsOf] using hc)) := Array.getElem?_eq_getElem _
    rw [e3] at e ⊢
    have := World.ownsRow.cells h (g := g) rfl (j * 6 + c) _ e
    have e2 : (⟨g, 0, none⟩ : Addr).add (j * 6 + c) = ⟨g, j * 6 + c, none⟩ := by unfold Addr.add; split <;> simp_all
    rw [e2] at this
    exact this
  exact ⟨key 0 (by decide), key 1 (by decide), key 2 (by decide), key 3 (by decide), key 4 (by decide), key 5 (by decide)⟩
end Go.Proofs.YtcgphlilijeifaaDoor.V
end
section
/-
  A list of parts that is being made: what has been appended so far.
-/
namespace Go.Proofs.YtcgphlilijeifaaDoor.V
open Go.RowKit

/-- All of a part's sizes are in bounds. -/
inductive FitA : Pt → Prop
  | mk (p : Pt) (h : Fit p) (deep : ∀ q ∈ p.items, FitA q) : FitA p
theorem FitA.fit {p : Pt} (h : FitA p) : Fit p := by cases h; assumption
theorem FitA.item {p q : Pt} (h : FitA p) (hq : q ∈ p.items) : FitA q := by cases h with | mk _ _ d => exact d q hq
theorem PI.fitA {w : World} {lo hi : Nat} {l : List Pt} {v : Value} (h : PI w lo hi l v) : ∀ q ∈ l, FitA q := by
  induction h with
  | mk l a cap F hc cells fits deep ih =>
    intro q hq
    obtain ⟨j, hj, rfl⟩ := List.getElem_of_mem hq
    exact .mk _ (fits j hj) (ih j hj)
theorem fitA_of {w : World} {lo hi : Nat} {p : Pt} {v : Value} (hf : Fit p) (h : PI w lo hi p.items v) : FitA p := .mk p hf h.fitA

/-- What the parts lead to. -/
def Kids (w : World) (base : Nat) (g : Option Nat) (ps : List (Pt × Value)) : Prop :=
  ∃ L H : Nat → Nat, (∀ j (h : j < ps.length), OwnI w false (L j) (H j) ps[j].1.items ps[j].2 ∧ base ≤ L j ∧ L j ≤ H j ∧ H j ≤ w.heap.size ∧ (∀ k, g = some k → ¬ (L j ≤ k ∧ k < H j)) ∧ Fit ps[j].1) ∧ ∀ i j, i < j → j < ps.length → H i ≤ L j
theorem Kids.nil (w : World) (base : Nat) (g : Option Nat) : Kids w base g [] := ⟨fun _ => 0, fun _ => 0, (fun j h => by cases h), (fun i j _ h => by cases h)⟩
theorem Kids.below {w w' : World} {base : Nat} {g : Option Nat} {ps : List (Pt × Value)} (h : Kids w base g ps) (hb : Below w.heap.size w w') : Kids w' base g ps := by
  obtain ⟨L, H, h1, h2⟩ := h
  refine ⟨L, H, fun j hj => ?_, h2⟩
  obtain ⟨a, b, c, d, e, f⟩ := h1 j hj
  exact ⟨a.same (Same.of_below hb d), b, c, Nat.le_trans d hb.size, e, f⟩
/-- One more. -/
theorem Kids.snoc {w w' : World} {base g lo hi : Nat} {v : Value} {ps : List (Pt × Value)} {p : Pt} {u : Value} (hu : OwnI w false lo hi p.items u) (hf : Fit p) (h1 : base ≤ lo) (h2 : hi ≤ w.heap.size) (hlh : lo ≤ hi)
    (hv : ∀ k, v.ownBlock = some k → k < lo) (hold : ∃ w0 : World, Kids w0 base v.ownBlock ps ∧ w0.heap.size ≤ lo ∧ Below w0.heap.size w0 w) (hg : w.grownBy w' v.ownBlock) (hw : v.ownBlock = some g ∨ w.heap.size ≤ g) : Kids w' base (some g) (ps ++ [(p, u)]) := by
  obtain ⟨w0, ⟨L, H, k1, k2⟩, hw0, hb0⟩ := hold
  have same : ∀ lo hi, hi ≤ w.heap.size → (∀ k, v.ownBlock = some k → ¬ (lo ≤ k ∧ k < hi)) → Same lo hi w w' := fun lo hi a b k c d => hg.block k (by omega) (fun e => b k e.symm ⟨c, d⟩)
  have out : ∀ lo hi, hi ≤ w.heap.size → (∀ k, v.ownBlock = some k → ¬ (lo ≤ k ∧ k < hi)) → ∀ k, some g = some k → ¬ (lo ≤ k ∧ k < hi) := fun lo hi a b k e => by
    have e := Option.some.inj e
    subst e
    rcases hw with e | e
    · exact b _ e
    · omega
  refine ⟨fun j => if j < ps.length then L j else lo, fun j => if j < ps.length then H j else hi, fun j hj => ?_, fun i j hij hj => ?_⟩
  · by_cases hjl : j < ps.length
    · obtain ⟨a, b, c, d, e, f⟩ := k1 j hjl
      have hd : H j ≤ w.heap.size := Nat.le_trans d hb0.size
      simp only [hjl, if_true]
      rw [List.getElem_append_left hjl]
      exact ⟨(a.same (Same.of_below hb0 d)).same (same _ _ hd e), b, c, Nat.le_trans hd hg.size, out _ _ hd e, f⟩
    · have hje : j = ps.length := by simp at hj; omega
      subst hje
      have hv2 : ∀ k, v.ownBlock = some k → ¬ (lo ≤ k ∧ k < hi) := fun k hk => by have := hv k hk; omega
      simp only [Nat.lt_irrefl, if_false]
      rw [List.getElem_append_right (Nat.le_refl _)]
      simp only [Nat.sub_self, List.getElem_cons_zero]
      exact ⟨hu.same (same _ _ h2 hv2), h1, hlh, Nat.le_trans h2 hg.size, out _ _ h2 hv2, hf⟩
  · have hj2 : j ≤ ps.length := by simp at hj; omega
    have hi2 : i < ps.length := by omega
    by_cases hjl : j < ps.length
    · simp only [hi2, hjl, if_true]
      exact k2 i j hij hjl
    · simp only [hi2, if_true, hjl, if_false]
      have := (k1 i hi2).2.2.2.1
      omega
/-- The whole list. -/
theorem kids_own {w : World} {base : Nat} {s : Value} {ps : List (Pt × Value)} {l : List Pt} (hl : ps.map Prod.fst = l) (hO : w.ownsRow base 27 6 s l.length (flat ps)) (hK : Kids w base s.ownBlock ps) :
    OwnI w false base w.heap.size l s := by
  subst hl
  rw [List.length_map] at hO
  obtain ⟨L, H, k1, k2⟩ := hK
  rcases hO.2 with ⟨rfl, hn⟩ | ⟨g, cap, cur, rfl, hg, hgg, hnc, hcm, hcs, _⟩
  · have : ps = [] := List.eq_nil_of_length_eq_zero hn
    subst this
    exact .nil _ _ rfl
  · have hlen : (ps.map Prod.fst).length = ps.length := List.length_map ..
    have key := OwnI.row (w := w) (m := false) base w.heap.size (ps.map Prod.fst) g cap cur (fun j => if h : j < ps.length then ps[j].2 else .slice none 0 0) L H hg (Array.getElem?_eq_some_iff.1 hgg).1 hgg (by rw [hlen]; exact hnc) hcs hcm
      (fun j hj => by
        rw [hlen] at hj
        simp only [hj, dif_pos, List.getElem_map]
        exact flat_cells hO j hj)
      (fun j hj => by
        rw [hlen] at hj
        simp only [List.getElem_map]
        exact (k1 j hj).2.2.2.2.2)
      (fun j hj => by
        rw [hlen] at hj
        obtain ⟨_, b, c, d, e, _⟩ := k1 j hj
        exact ⟨b, c, d, e g rfl⟩)
      (fun i j hij hj => k2 i j hij (by rw [hlen] at hj; exact hj)) (fun h => by cases h)
      (fun j hj => by
        rw [hlen] at hj
        simp only [hj, dif_pos, List.getElem_map]
        exact (k1 j hj).1)
    rw [hlen] at key
    exact key
end Go.Proofs.YtcgphlilijeifaaDoor.V
end
