import Derived.Deep.AppendLies
import Derived.Deep.RegionLaw
import Derived.Test.YtcgphlilijeifaaDoorLitPrintsG10
section
/-
  The program's made and Make: their contracts.
-/
namespace Go.Proofs.YtcgphlilijeifaaDoor.V
open Go.RowKit

theorem infoV : (Tryd.prog.info? 33).map (fun i => (i.zero, i.size, i.bytes)) = some (some .nilIface, 1, 16) := by kernel_rfl

/-- The values us stand for the parts l; each one's memory lies from base on, behind hi nothing, none of it in block g. -/
def Vals (w : World) (base : Nat) (g : Option Nat) (l : List Pt) (us : List Value) : Prop :=
  us.length = l.length ∧ ∀ j (h : j < l.length), ∃ u lo hi, us[j]? = some u ∧ VI w lo hi l[j] u ∧ base ≤ lo ∧ hi ≤ w.heap.size ∧ ∀ k, g = some k → k < lo ∨ hi ≤ k
theorem Vals.nil (w : World) (base : Nat) (g : Option Nat) : Vals w base g [] [] := ⟨rfl, fun j h => by cases h⟩
theorem Vals.below {w w' : World} {base : Nat} {g : Option Nat} {l : List Pt} {us : List Value} (h : Vals w base g l us) (hb : Below w.heap.size w w') : Vals w' base g l us :=
  ⟨h.1, fun j hj => by
    obtain ⟨u, lo, hi, h1, h2, h3, h4, h5⟩ := h.2 j hj
    exact ⟨u, lo, hi, h1, h2.same (Same.of_below hb h4), h3, Nat.le_trans h4 hb.size, h5⟩⟩
/-- Behind an append: one more. -/
theorem Vals.snoc {w w' : World} {base g lo hi : Nat} {v : Value} {l : List Pt} {us : List Value} {p : Pt} {u : Value} (h : Vals w base v.ownBlock l us) (hu : VI w lo hi p u) (h1 : base ≤ lo) (h2 : hi ≤ w.heap.size)
    (hv : ∀ k, v.ownBlock = some k → k < lo ∨ hi ≤ k) (hg : w.grownBy w' v.ownBlock) (hw : v.ownBlock = some g ∨ w.heap.size ≤ g) : Vals w' base (some g) (l ++ [p]) (us ++ [u]) := by
  have same : ∀ lo hi, hi ≤ w.heap.size → (∀ k, v.ownBlock = some k → k < lo ∨ hi ≤ k) → Same lo hi w w' := fun lo hi a b k c d => hg.block k (by omega) (fun e => by have := b k e.symm; omega)
  have out : ∀ lo hi, hi ≤ w.heap.size → (∀ k, v.ownBlock = some k → k < lo ∨ hi ≤ k) → ∀ k, some g = some k → k < lo ∨ hi ≤ k := fun lo hi a b k e => by
    have e := Option.some.inj e
    subst e
    rcases hw with e | e
    · exact b _ e
    · exact .inr (by omega)
  refine ⟨by simp [h.1], fun j hj => ?_⟩
  by_cases hjl : j < l.length
  · obtain ⟨x, lo2, hi2, a1, a2, a3, a4, a5⟩ := h.2 j hjl
    refine ⟨x, lo2, hi2, ?_, ?_, a3, Nat.le_trans a4 hg.size, out _ _ a4 a5⟩
    · rw [List.getElem?_append_left (by rw [h.1]; exact hjl)]; exact a1
    · rw [List.getElem_append_left hjl]; exact a2.same (same _ _ a4 a5)
  · have hje : j = l.length := by simp at hj; omega
    subst hje
    refine ⟨u, lo, hi, ?_, ?_, h1, Nat.le_trans h2 hg.size, out _ _ h2 hv⟩
    · rw [List.getElem?_append_right (by rw [h.1]; exact Nat.le_refl _), h.1]; simp
    · rw [List.getElem_append_right (Nat.le_refl _)]; simpa using hu.same (same _ _ h2 hv)

theorem undrew {w w' : World} (h : Below w.drew.heap.size w.drew w') : Below w.heap.size w w' := ⟨h.os, h.tape, h.output, h.size, h.block⟩
theorem one_cell (w : World) (x : Value) (T : TypeId) : ∀ j u, [x][j]? = some u → (w.alloc (.cells #[x] T)).cell? ((⟨w.heap.size, 0, none⟩ : Addr).add j) = some u := by
  intro j u hj
  match j, hj with
  | 0, hj => simp at hj; subst hj; simp [Addr.add]
theorem own_below {w w' : World} {base : Nat} {e : TypeId} {v : Value} {n : Nat} {us : List Value} (h : w.ownsRow base e 1 v n us) (hb : Below w.heap.size w w') : w'.ownsRow base e 1 v n us := by
  refine ⟨h.1, ?_⟩
  rcases h.2 with hn | ⟨g, cap, cur, rfl, hg, hgg, rest⟩
  · exact .inl hn
  · exact .inr ⟨g, cap, cur, rfl, hg, (hb.block g (Array.getElem?_eq_some_iff.1 hgg).1).trans hgg, rest⟩
theorem own_cell {w w3 : World} {ob : Obj} {base : Nat} {e : TypeId} {v u : Value} {n b o : Nat} {us : List Value} (h : w.ownsRow base e 1 v n us) (hg : (w.alloc ob).grownBy w3 v.ownBlock) (hb : b < base) (hc : w.cell? ⟨b, o, none⟩ = some u) : w3.cell? ⟨b, o, none⟩ = some u := by
  have hlt : b < w.heap.size := World.block_lt_of_cell? w _ hc
  refine (World.cell?_of_block (hg.block b (by simp; omega) (fun e => by have := (World.ownsRow.lt h b e.symm).1; omega))).trans ?_
  exact (World.cell?_of_block (Below.heap_alloc w ob b hlt)).trans hc
theorem own_frozen {w w3 : World} {ob : Obj} {base : Nat} {e : TypeId} {v : Value} {n b o : Nat} {us : List Value} (h : w.ownsRow base e 1 v n us) (hg : (w.alloc ob).grownBy w3 v.ownBlock) (hb : b < base) (hlt : b < w.heap.size) (hc : w.frozen? ⟨b, o, none⟩ = false) : w3.frozen? ⟨b, o, none⟩ = false := by
  refine (World.frozen?_of_block (hg.block b (by simp; omega) (fun e => by have := (World.ownsRow.lt h b e.symm).1; omega))).trans ?_
  exact (World.frozen?_of_block (Below.heap_alloc w ob b hlt)).trans hc
theorem may_len {p : Pt} (h : mayB p = true) (h7 : p.kind = 7) : p.items.length ≤ 1024 := by
  have h1 := mayB_ok h
  unfold okOne at h1
  simp only [h7, Bool.and_eq_true] at h1
  have h2 := h1.2
  simp at h2
  exact h2.2
theorem VI.nilOf {w : World} {lo hi : Nat} {p : Pt} {v : Value} (h : VI w lo hi p v) (h0 : p.kind = 0) : v = .nilIface := by
  cases h with
  | null _ _ => rfl
  | truth _ h => omega
  | whole _ h => omega
  | row _ h _ _ _ => omega
  | tuple _ h _ _ _ _ _ _ => omega
theorem VI.ifaceOf {w : World} {lo hi : Nat} {p : Pt} {v : Value} (h : VI w lo hi p v) (h0 : p.kind ≠ 0) : ∃ T V, v = .iface T V := by
  cases h with
  | null _ h => omega
  | truth _ h => exact ⟨_, _, rfl⟩
  | whole _ h => exact ⟨_, _, rfl⟩
  | row _ h _ _ _ => exact ⟨_, _, rfl⟩
  | tuple _ h _ _ _ _ _ _ => exact ⟨_, _, rfl⟩
/-- What a round leaves. -/
theorem made_step {W1 w2 w3 : World} {T g cap k : Nat} {s x y : Value} {q : Pt} {l : List Pt} {us : List Value} (ob : Obj) (hO1 : W1.ownsRow (T + 1) 33 1 s k us) (hV1 : Vals W1 (T + 1) s.ownBlock l us)
    (hx : VI w2 W1.heap.size w2.heap.size q x) (hb2 : Below W1.heap.size W1 w2) (hg : (w2.alloc ob).grownBy w3 s.ownBlock) (hl : s.ownBlock = some g ∨ g = (w2.alloc ob).heap.size)
    (hO3 : w3.ownsRow (T + 1) 33 1 (.slice (some ⟨g, 0, none⟩) (k + 1) cap) (k + 1) (us ++ [x])) (hT : T + 1 ≤ W1.heap.size) :
    (w3.setCell ⟨T, 0, none⟩ y).ownsRow (T + 1) 33 1 (.slice (some ⟨g, 0, none⟩) (k + 1) cap) (k + 1) (us ++ [x]) ∧ Vals (w3.setCell ⟨T, 0, none⟩ y) (T + 1) (some g) (l ++ [q]) (us ++ [x]) ∧
      Below T W1 (w3.setCell ⟨T, 0, none⟩ y) ∧ W1.heap.size ≤ (w3.setCell ⟨T, 0, none⟩ y).heap.size := by
  have hba : Below W1.heap.size W1 (w2.alloc ob) := hb2.alloc hb2.size ob
  have hown : ∀ k, s.ownBlock = some k → T + 1 ≤ k ∧ k < W1.heap.size := World.ownsRow.lt hO1
  have hV := hV1.below hba
  have hxa : VI (w2.alloc ob) W1.heap.size w2.heap.size q x := hx.same (Same.of_below ((Below.refl w2.heap.size w2).alloc (Nat.le_refl _) ob) (Nat.le_refl _))
  have hV3 := Vals.snoc (v := s) (g := g) hV hxa hT (by simp) (fun k hk => .inl (hown k hk).2) hg (by rcases hl with h | h; exact .inl h; exact .inr (Nat.le_of_eq h.symm))
  refine ⟨ownsRow_setCell_below hO3 (by simp) y, ⟨hV3.1, fun j hj => ?_⟩, ?_, ?_⟩
  · obtain ⟨u, lo, hi, h1, h2, h3, h4, h5⟩ := hV3.2 j hj
    exact ⟨u, lo, hi, h1, h2.same (fun k a b => Below.heap_setCell _ _ _ _ (by simp; omega)), h3, by simpa [World.setCell] using h4, h5⟩
  · exact (((hba.mono (B' := T) (by omega)).grown hg (by have := hb2.size; simp; omega) (fun k hk => by have := hown k hk; omega))).setCell (Nat.le_refl _) y
  · have h1 := hg.size
    have h2 := hb2.size
    have h3 : (w2.alloc ob).heap.size = w2.heap.size + 1 := by simp
    have h4 : (w3.setCell ⟨T, 0, none⟩ y).heap.size = w3.heap.size := by simp [World.setCell]
    omega
def MadePost (p : Pt) (w : World) (e : Ending) (w' : World) : Prop := ∃ u, e = .returned u ∧ VI w' w.heap.size w'.heap.size p u ∧ Below w.heap.size w w'
theorem made_end {p : Pt} {w : World} {u : Value} (h : VI w w.heap.size w.heap.size p u) (ob : Obj) (_h1 : True) (_h2 : True) : MadePost p w (.returned u) (w.alloc ob) :=
  ⟨u, rfl, (h.same (fun k a b => by omega)).wide (Nat.le_refl _) (by simp), (Below.refl _ _).alloc (Nat.le_refl _) _⟩
theorem may_kind7 {p : Pt} (h : mayB p = true) : p.kind ≤ 7 := by
  have h1 := mayB_ok h
  unfold okOne at h1
  simp only [Bool.and_eq_true, decide_eq_true_eq] at h1
  exact h1.1.1.1.1
theorem own_form {w : World} {base : Nat} {e : TypeId} {v : Value} {n : Nat} {us : List Value} (h : w.ownsRow base e 1 v n us) : ∃ a cap, v = .slice a n cap := by
  rcases h.2 with ⟨rfl, rfl⟩ | ⟨g, cap, cur, rfl, _⟩
  · exact ⟨none, 0, rfl⟩
  · exact ⟨_, cap, rfl⟩
/-- The list that was made, as a value. -/
theorem vals_tuple {w : World} {base : Nat} {p : Pt} {s : Value} {us : List Value} (h7 : p.kind = 7) (hO : w.ownsRow base 33 1 s p.items.length us) (hV : Vals w base s.ownBlock p.items us) :
    VI w base w.heap.size p (.iface 145 (.agg #[s])) := by
  have hd : ∀ j (h : j < p.items.length), VI w base w.heap.size p.items[j] (us.getD j .nilIface) := fun j hj => by
    obtain ⟨u, lo, hi, h1, h2, h3, h4, _⟩ := hV.2 j hj
    rw [List.getD, h1]
    exact h2.wide h3 h4
  rcases hO.2 with ⟨rfl, hn⟩ | ⟨g, cap, cur, rfl, hg, hgg, hnc, _⟩
  · rw [show Value.slice none 0 0 = Value.slice none p.items.length 0 from by rw [hn]]
    exact VI.tuple p h7 none 0 (fun j => us.getD j .nilIface) (by omega) (fun j hj => by omega) hd
  · refine VI.tuple p h7 _ cap (fun j => us.getD j .nilIface) hnc (fun j hj => ⟨g, rfl, hg, (Array.getElem?_eq_some_iff.1 hgg).1, ?_⟩) hd
    have hj2 : j < us.length := by rw [hV.1]; exact hj
    have := World.ownsRow.cells hO (g := g) rfl j (us.getD j .nilIface) (by rw [List.getD, List.getElem?_eq_getElem hj2]; rfl)
    have e : (⟨g, 0, none⟩ : Addr).add j = ⟨g, j, none⟩ := by unfold Addr.add; split <;> simp_all
    rw [e] at this
    exact this

set_option maxRecDepth 100000 in
set_option maxHeartbeats 2000000 in
theorem made_any (p : Pt) : ∀ (v : Value) (w : World), mayB p = true → Fit p → PI w 0 w.heap.size p.items v →
    Calls Tryd.prog 49 #[.agg #[.int .u8 p.kind, .bool p.yes, .bool p.neg, .string p.mag, .string p.raw, v]] w (MadePost p w) := by
  induction p using Pt.ind with
  | h p ih =>
  intro v w hmay hf hp
  obtain ⟨a, cap, rfl, _, hat⟩ := hp.open
  by_cases h7 : p.kind = 7
  · have e0 : ((p.kind : Int) == 0) = false := beq_eq_false_iff_ne.2 (by omega)
    have e1 : ((p.kind : Int) == 1) = false := beq_eq_false_iff_ne.2 (by omega)
    have e2 : ((p.kind : Int) == 2) = false := beq_eq_false_iff_ne.2 (by omega)
    have e7 : ((p.kind : Int) == 7) = true := beq_iff_eq.2 (by omega)
    have HA := Lib.hid hat
    have IH := Lib.hid ih
    have hlen := may_len hmay h7
    have HM := Lib.hid hmay
    have H7 := Lib.hid h7
    have hl := hf.l
    clear hat ih hp hmay h7
    go_enter Tryd.func49, Tryd.ntmps49
    go_wp2_with fail
    go_loopw [27] (fun i wr => ∃ (k : Nat) (s : Value) (us : List Value), k ≤ p.items.length ∧ i = .int .i64 k ∧ wr.cell? ⟨w.heap.size + 1, 0, none⟩ = some s ∧ wr.frozen? ⟨w.heap.size + 1, 0, none⟩ = false ∧
      wr.ownsRow (w.heap.size + 2) 33 1 s k us ∧ RowKit.Hid (Vals wr (w.heap.size + 2) s.ownBlock (p.items.take k) us) ∧ Below w.heap.size w wr ∧ w.heap.size + 2 ≤ wr.heap.size) (fun i _ => p.items.length - (intOf i).toNat)
    case atStart => exact ⟨0, .slice none 0 0, [], Nat.zero_le _, rfl, by simp, by simp, World.ownsRow_nil _ _ _ _, Vals.nil _ _ _, ((Below.refl _ _).alloc (Nat.le_refl _) _).alloc (by simp) _, by simp⟩
    case round =>
      obtain ⟨k, s, us, hkl, rfl, hts, htf, hO, HV, hB, hsz⟩ := hrel
      by_cases hlt : k < p.items.length
      · have q3 : decide (k < p.items.length) = true := by simpa using hlt
        obtain ⟨b, off, u, rfl, _, hb, hc, hfit, hpi⟩ := HA.out k hlt
        obtain ⟨d0, d1, d2, d3, d4, d5⟩ := hc.same (Same.of_below hB (Nat.le_refl _)) (Nat.zero_le _) hb
        have hmem : p.items[k] ∈ p.items := List.getElem_mem _
        have hmq := Lib.hid (mayB_item HM.out hmem)
        obtain ⟨q, hq⟩ : ∃ q, p.items[k] = q := ⟨_, rfl⟩
        rw [hq] at d0 d1 d2 d3 d4 hfit hpi hmem hmq
        have HQ := Lib.hid hq
        clear hq
        obtain ⟨a2, cap2, rfl, _, _⟩ := hpi.open
        have hpi2 := Lib.hid hpi
        clear hc hpi
        go_wp2_with fail
        obtain ⟨W1, hW1⟩ : ∃ W1, W1 = wr.alloc (.cells #[.int .u8 q.kind, .bool q.yes, .bool q.neg, .string q.mag, .string q.raw, .slice a2 q.items.length cap2] 27) := ⟨_, rfl⟩
        have hB1 : Below wr.heap.size wr W1 := by rw [hW1]; exact (Below.refl _ _).alloc (Nat.le_refl _) _
        have hO1 : W1.ownsRow (w.heap.size + 2) 33 1 s k us := by rw [hW1]; exact hO.alloc _
        have hV1 := Lib.hid (HV.out.below hB1)
        have t1 : W1.cell? ⟨w.heap.size + 1, 0, none⟩ = some s := keep hB1 (by omega) hts
        have t2 : W1.frozen? ⟨w.heap.size + 1, 0, none⟩ = false := (hB1.frozen (p := ⟨w.heap.size + 1, 0, none⟩) (by simp; omega)).trans htf
        have x0 : W1.cell? ⟨wr.heap.size, 0, none⟩ = some (.int .u8 q.kind) := by rw [hW1]; simp
        have x1 : W1.cell? ⟨wr.heap.size, 1, none⟩ = some (.bool q.yes) := by rw [hW1]; simp
        have x2 : W1.cell? ⟨wr.heap.size, 2, none⟩ = some (.bool q.neg) := by rw [hW1]; simp
        have x3 : W1.cell? ⟨wr.heap.size, 3, none⟩ = some (.string q.mag) := by rw [hW1]; simp
        have x4 : W1.cell? ⟨wr.heap.size, 4, none⟩ = some (.string q.raw) := by rw [hW1]; simp
        have x5 : W1.cell? ⟨wr.heap.size, 5, none⟩ = some (.slice a2 q.items.length cap2) := by rw [hW1]; simp
        have hBW : Below w.heap.size w W1 := hB.trans (hB1.mono (by omega))
        have hpi3 := Lib.hid (show PI W1.drew 0 W1.drew.heap.size q.items (.slice a2 q.items.length cap2) from hpi2.out.later hBW.drew)
        have hWs : w.heap.size + 2 ≤ W1.heap.size := by have := hB1.size; omega
        have hWa : w.heap.size + 1 < w.heap.size + 2 := by omega
        have hWl : w.heap.size + 1 < W1.heap.size := by omega
        rw [← hW1]
        clear hW1 hB1 hB hO HV hts htf d0 d1 d2 d3 d4 d5 hb hpi2
        obtain ⟨i0, hi, hz0, hz1, hz2⟩ := info_parts infoV
        by_cases hq0 : q.kind = 0
        · have HQ0 := Lib.hid hq0
          clear hq0
          go_region_law (first
            | (go_simp; go_at_call 49; refine (IH.out q hmem _ _ hmq.out hfit (by exact hpi3.out)).mono ?_; rintro e w2 ⟨x, rfl, hx, hb0⟩; have hb2 := undrew hb0; have hxe := hx.nilOf HQ0.out; rw [hxe] at hx ⊢; clear hxe; have hx2 := Lib.hid hx; have hO2 := own_below hO1 hb2; have s2 := keep hb2 hWl t1; have f2 : w2.frozen? ⟨w.heap.size + 1, 0, none⟩ = false := (hb2.frozen (p := ⟨w.heap.size + 1, 0, none⟩) hWl).trans t2; have hWm : w.heap.size + 1 < w2.heap.size := Nat.lt_of_lt_of_le hWl hb2.size; clear hx)
            | (refine step_append_lies _ rfl (.tmp 32) (.tmp 35) 143 rfl (w.heap.size + 2) 33 i0 .nilIface 1 16 Tryd.underlying143 hi hz0 hz1 hz2 rfl (by decide) s k us (by simp [Act.eval, Act.put]) (hO2.alloc _) ⟨w2.heap.size, 0, none⟩ 1 1 [.nilIface] (by simp [Act.eval, Act.put]) rfl (one_cell w2 _ _) (by intro y hy; simp at hy; subst hy; rfl) (by decide) (by unfold maxLen; omega) (by omega) (by simp; omega) _ rfl ?_; intro g cap3 w3 hO3 hg3 hlies hgl; have s3 := own_cell hO2 hg3 hWa s2; have f3 := own_frozen hO2 hg3 hWa hWm f2))
          all_goals
            go_wp2_with fail
            have ST := made_step _ hO1 hV1.out hx2.out hb2 hg3 hlies hO3 (by omega) (y := .slice (some ⟨g, 0, none⟩) (k + 1) cap3)
            have HT : p.items.take (k + 1) = p.items.take k ++ [q] := by rw [List.take_succ_eq_append_getElem hlt, HQ.out]
            refine ⟨⟨k + 1, .slice (some ⟨g, 0, none⟩) (k + 1) cap3, _, by omega, rfl, World.cell?_setCell_same w3 _ _ s3, (World.frozen?_setCell ..).trans f3, ST.1, Lib.hid (by rw [HT]; exact ST.2.1), hBW.trans (ST.2.2.1.mono (by omega)), by have := ST.2.2.2; omega⟩, by simp [intOf]; omega⟩
        · have HQ0 := Lib.hid hq0
          clear hq0
          go_region_law (first
            | (go_simp; go_at_call 49; refine (IH.out q hmem _ _ hmq.out hfit (by exact hpi3.out)).mono ?_; rintro e w2 ⟨x, rfl, hx, hb0⟩; have hb2 := undrew hb0; obtain ⟨T0, V0, hxe⟩ := hx.ifaceOf HQ0.out; rw [hxe] at hx ⊢; clear hxe; have hx2 := Lib.hid hx; have hO2 := own_below hO1 hb2; have s2 := keep hb2 hWl t1; have f2 : w2.frozen? ⟨w.heap.size + 1, 0, none⟩ = false := (hb2.frozen (p := ⟨w.heap.size + 1, 0, none⟩) hWl).trans t2; have hWm : w.heap.size + 1 < w2.heap.size := Nat.lt_of_lt_of_le hWl hb2.size; clear hx)
            | (refine step_append_lies _ rfl (.tmp 32) (.tmp 35) 143 rfl (w.heap.size + 2) 33 i0 .nilIface 1 16 Tryd.underlying143 hi hz0 hz1 hz2 rfl (by decide) s k us (by simp [Act.eval, Act.put]) (hO2.alloc _) ⟨w2.heap.size, 0, none⟩ 1 1 [.iface T0 V0] (by simp [Act.eval, Act.put]) rfl (one_cell w2 _ _) (by intro y hy; simp at hy; subst hy; rfl) (by decide) (by unfold maxLen; omega) (by omega) (by simp; omega) _ rfl ?_; intro g cap3 w3 hO3 hg3 hlies hgl; have s3 := own_cell hO2 hg3 hWa s2; have f3 := own_frozen hO2 hg3 hWa hWm f2))
          all_goals
            go_wp2_with fail
            have ST := made_step _ hO1 hV1.out hx2.out hb2 hg3 hlies hO3 (by omega) (y := .slice (some ⟨g, 0, none⟩) (k + 1) cap3)
            have HT : p.items.take (k + 1) = p.items.take k ++ [q] := by rw [List.take_succ_eq_append_getElem hlt, HQ.out]
            refine ⟨⟨k + 1, .slice (some ⟨g, 0, none⟩) (k + 1) cap3, _, by omega, rfl, World.cell?_setCell_same w3 _ _ s3, (World.frozen?_setCell ..).trans f3, ST.1, Lib.hid (by rw [HT]; exact ST.2.1), hBW.trans (ST.2.2.1.mono (by omega)), by have := ST.2.2.2; omega⟩, by simp [intOf]; omega⟩
      · have q3 : decide (k < p.items.length) = false := by simpa using hlt
        have hkl2 : k = p.items.length := by omega
        have hT : p.items.take k = p.items := List.take_of_length_le (by omega)
        rw [hT] at HV
        obtain ⟨a9, cap9, hs9⟩ := own_form hO
        have hVI := Lib.hid (vals_tuple H7.out (hkl2 ▸ hO) HV.out)
        rw [hs9] at hts hVI
        rw [hkl2] at hts hVI
        clear hT hO HV hs9
        subst hkl2
        go_wp2_with fail
        go_ret
        exact ⟨_, rfl, hVI.out.wide (by omega) (Nat.le_refl _), hB⟩
  · have hk := may_kind7 hmay
    have H7 := Lib.hid h7
    rcases (show p.kind = 0 ∨ p.kind = 1 ∨ p.kind = 2 ∨ (p.kind ≠ 0 ∧ p.kind ≠ 1 ∧ p.kind ≠ 2 ∧ p.kind ≠ 7) by omega) with h | h | h | ⟨h0, h1, h2, h7⟩
    · have HV := Lib.hid (VI.null (w := w) (lo := w.heap.size) (hi := w.heap.size) p h)
      have e0 : ((p.kind : Int) == 0) = true := beq_iff_eq.2 (by omega)
      clear h h7 hmay
      go_enter Tryd.func49, Tryd.ntmps49
      go_wp2_with fail
      go_ret
      exact made_end HV.out _ (by simp) (by simp)
    · have HV := Lib.hid (VI.truth (w := w) (lo := w.heap.size) (hi := w.heap.size) p h)
      have e0 : ((p.kind : Int) == 0) = false := beq_eq_false_iff_ne.2 (by omega)
      have e1 : ((p.kind : Int) == 1) = true := beq_iff_eq.2 (by omega)
      clear h h7 hmay
      go_enter Tryd.func49, Tryd.ntmps49
      go_wp2_with fail
      go_ret
      exact made_end HV.out _ (by simp) (by simp)
    · have HV := Lib.hid (VI.whole (w := w) (lo := w.heap.size) (hi := w.heap.size) p h)
      have e0 : ((p.kind : Int) == 0) = false := beq_eq_false_iff_ne.2 (by omega)
      have e1 : ((p.kind : Int) == 1) = false := beq_eq_false_iff_ne.2 (by omega)
      have e2 : ((p.kind : Int) == 2) = true := beq_iff_eq.2 (by omega)
      clear h h7 hmay
      go_enter Tryd.func49, Tryd.ntmps49
      go_wp2_with fail
      go_ret
      exact made_end HV.out _ (by simp) (by simp)
    · have HV := Lib.hid (VI.row (w := w) (lo := w.heap.size) (hi := w.heap.size) p h0 h1 h2 h7)
      have e0 : ((p.kind : Int) == 0) = false := beq_eq_false_iff_ne.2 (by omega)
      have e1 : ((p.kind : Int) == 1) = false := beq_eq_false_iff_ne.2 (by omega)
      have e2 : ((p.kind : Int) == 2) = false := beq_eq_false_iff_ne.2 (by omega)
      have e7 : ((p.kind : Int) == 7) = false := beq_eq_false_iff_ne.2 (by omega)
      clear h0 h1 h2 h7 hmay
      go_enter Tryd.func49, Tryd.ntmps49
      go_wp2_with fail
      go_ret
      exact made_end HV.out _ (by simp) (by simp)
end Go.Proofs.YtcgphlilijeifaaDoor.V
end
section
/-
  The program's Make: its contract.
-/
namespace Go.Proofs.YtcgphlilijeifaaDoor.V
open Go.RowKit

theorem makeE_ok {p : Pt} (h : makeE p = 0) : deepB 16 p = false ∧ mayB p = true := by
  unfold makeE at h
  cases hd : deepB 16 p with
  | true => rw [hd] at h; simp at h
  | false =>
    rw [hd] at h
    cases hm : mayB p with
    | true => exact ⟨rfl, rfl⟩
    | false => rw [hm] at h; simp at h
theorem makeE_depth {p : Pt} (h : makeE p = 0) : depthP p ≤ 16 := by
  have h1 := (makeE_ok h).1
  have h2 := deepB_iff 16 p
  rcases Nat.lt_or_ge 16 (depthP p) with h3 | h3
  · rw [h2.2 h3] at h1; cases h1
  · exact h3
theorem makeE_three (p : Pt) : makeE p = 0 ∨ makeE p = 90 ∨ makeE p = 91 := by
  unfold makeE
  split
  · exact .inr (.inr rfl)
  · split
    · exact .inl rfl
    · exact .inr (.inl rfl)

/-- A part's box. -/
structure Box (w : World) (g : Nat) (p : Pt) (v : Value) : Prop where
  lt : g < w.heap.size
  cells : PartCells w g 0 p v
theorem Box.new (w : World) (p : Pt) (v : Value) (T : TypeId) : Box (w.alloc (.cells #[.int .u8 p.kind, .bool p.yes, .bool p.neg, .string p.mag, .string p.raw, v] T)) w.heap.size p v :=
  ⟨by simp, by constructor <;> simp⟩
theorem Box.later {w w1 : World} {g B : Nat} {p : Pt} {v : Value} (h : Box w g p v) (hb : Below B w w1) (hB : g < B) : Box w1 g p v :=
  ⟨Nat.lt_of_lt_of_le h.lt hb.size, h.cells.same (Same.of_below hb (Nat.le_refl _)) (Nat.zero_le _) hB⟩

def MakePost (p : Pt) (w : World) (e : Ending) (w' : World) : Prop := ∃ u, e = .returned (.tuple #[u, .int .i64 (makeE p)]) ∧ (makeE p ≠ 0 → u = .nilIface) ∧ (makeE p = 0 → VI w' w.heap.size w'.heap.size p u) ∧ Below w.heap.size w w'
set_option maxHeartbeats 1000000 in
theorem make_any (p : Pt) (v : Value) (w : World) (hf : Fit p) (hp : PI w 0 w.heap.size p.items v) :
    Calls Tryd.prog 16 #[.agg #[.int .u8 p.kind, .bool p.yes, .bool p.neg, .string p.mag, .string p.raw, v]] w (MakePost p w) := by
  have hp0 := Lib.hid hp
  obtain ⟨a, cap, rfl, _, _⟩ := hp.open
  have hbx := Lib.hid (Box.new w p (.slice a p.items.length cap) 27)
  clear hp
  go_enter Tryd.func16, Tryd.ntmps16
  go_wp2_with fail
  refine (deep_any 16 p _ _ (by omega) hf (hp0.out.later ((Below.refl _ _).alloc (Nat.le_refl _) _))).mono ?_
  rintro e w1 ⟨rfl, hb1⟩
  have hB1 : Below w.heap.size w w1 := ((Below.refl _ _).alloc (Nat.le_refl _) _).trans (hb1.mono (by simp))
  have HX1 := Lib.hid (hbx.out.later hb1 (by simp))
  obtain ⟨_, ⟨c0, c1, c2, c3, c4, c5⟩⟩ := HX1.out
  clear hb1 hbx
  cases hd : deepB 16 p with
  | true =>
    have HM := Lib.hid (show makeE p = 91 by simp [makeE, hd])
    clear hd
    go_wp2_with fail
    go_ret2
    exact ⟨.nilIface, by rw [HM.out]; rfl, fun _ => rfl, (fun h => by rw [HM.out] at h; cases h), hB1⟩
  | false =>
    have hm0 : makeE p = if mayB p then 0 else 90 := by simp [makeE, hd]
    clear hd
    go_wp2_with fail
    refine (may_any p _ _ hf (hp0.out.later hB1)).mono ?_
    rintro e w2 ⟨rfl, hb2⟩
    have hB2 := two hB1 hb2
    have HX2 := Lib.hid (HX1.out.later hb2 HX1.out.lt)
    clear c0 c1 c2 c3 c4 c5
    obtain ⟨_, ⟨c0, c1, c2, c3, c4, c5⟩⟩ := HX2.out
    cases hd : mayB p with
    | true =>
      have HM := Lib.hid (show makeE p = 0 by rw [hm0, hd]; rfl)
      have HY := Lib.hid hd
      clear hd hm0
      go_wp2_with fail
      refine (made_any p _ _ HY.out hf (hp0.out.later hB2)).mono ?_
      rintro e w3 ⟨u, rfl, hu, hb3⟩
      have HU := Lib.hid hu
      have hz : w.heap.size ≤ w2.heap.size := hB2.size
      clear hu
      go_wp2_with fail
      go_ret2
      exact ⟨u, by rw [HM.out]; rfl, fun h => absurd HM.out h, fun _ => HU.out.wide hz (Nat.le_refl _), two hB2 hb3⟩
    | false =>
      have HM := Lib.hid (show makeE p = 90 by rw [hm0, hd]; rfl)
      clear hd hm0
      go_wp2_with fail
      go_ret2
      exact ⟨.nilIface, by rw [HM.out]; rfl, fun _ => rfl, (fun h => by rw [HM.out] at h; cases h), hB2⟩
end Go.Proofs.YtcgphlilijeifaaDoor.V
end
section
/-
  Lists of parts in memory of their own: each in a block of its own, apart from all others.
-/
namespace Go.Proofs.YtcgphlilijeifaaDoor.V
open Go.RowKit

/-- A part that marks the room behind a list. -/
structure MarkCells (w : World) (b o : Nat) : Prop where
  c0 : w.cell? ⟨b, o, none⟩ = some (.int .u8 99)
  c1 : w.cell? ⟨b, o + 1, none⟩ = some (.bool false)
  c2 : w.cell? ⟨b, o + 2, none⟩ = some (.bool false)
  c3 : w.cell? ⟨b, o + 3, none⟩ = some (.string ⟨#[]⟩)
  c4 : w.cell? ⟨b, o + 4, none⟩ = some (.string ⟨#[109, 97, 114, 107]⟩)
  c5 : w.cell? ⟨b, o + 5, none⟩ = some (.slice none 0 0)
theorem MarkCells.same {lo hi b o : Nat} {w w' : World} (h : MarkCells w b o) (hs : Same lo hi w w') (h1 : lo ≤ b) (h2 : b < hi) : MarkCells w' b o :=
  ⟨hs.cell h1 h2 h.c0, hs.cell h1 h2 h.c1, hs.cell h1 h2 h.c2, hs.cell h1 h2 h.c3, hs.cell h1 h2 h.c4, hs.cell h1 h2 h.c5⟩

/-- The list lies in the blocks from lo up to hi, each list in a block of its own; m: with two marks behind each. -/
inductive OwnI (w : World) (m : Bool) : Nat → Nat → List Pt → Value → Prop
  | nil (lo hi : Nat) (hm : m = false) : OwnI w m lo hi [] (.slice none 0 0)
  | row (lo hi : Nat) (l : List Pt) (g cap : Nat) (cur : Array Value) (F : Nat → Value) (L H : Nat → Nat) (h1 : lo ≤ g) (h2 : g < hi) (blk : w.heap[g]? = some (.cells cur 27 (0, 0))) (hcap : l.length ≤ cap)
      (hsz : cur.size = cap * 6) (hmax : cap ≤ maxLen) (cells : ∀ j (h : j < l.length), PartCells w g (j * 6) l[j] (F j)) (fits : ∀ j (h : j < l.length), Fit l[j])
      (rng : ∀ j, j < l.length → lo ≤ L j ∧ L j ≤ H j ∧ H j ≤ hi ∧ ¬ (L j ≤ g ∧ g < H j)) (apart : ∀ i j, i < j → j < l.length → H i ≤ L j)
      (room : m = true → cap = l.length + 2 ∧ MarkCells w g (l.length * 6) ∧ MarkCells w g (l.length * 6 + 6))
      (deep : ∀ j (h : j < l.length), OwnI w m (L j) (H j) l[j].items (F j)) : OwnI w m lo hi l (.slice (some ⟨g, 0, none⟩) l.length cap)
theorem OwnI.same {m : Bool} {lo hi : Nat} {w w' : World} {l : List Pt} {v : Value} (h : OwnI w m lo hi l v) (hs : Same lo hi w w') : OwnI w' m lo hi l v := by
  induction h with
  | nil lo hi hm => exact .nil lo hi hm
  | row lo hi l g cap cur F L H h1 h2 blk hcap hsz hmax cells fits rng apart room deep ih =>
    exact .row lo hi l g cap cur F L H h1 h2 ((hs g h1 h2).trans blk) hcap hsz hmax (fun j hj => (cells j hj).same hs h1 h2) fits rng apart
      (fun hm => ⟨(room hm).1, (room hm).2.1.same hs h1 h2, (room hm).2.2.same hs h1 h2⟩) (fun j hj => ih j hj (hs.mono (rng j hj).1 (rng j hj).2.2.1))
theorem OwnI.wide {m : Bool} {lo hi lo' hi' : Nat} {w : World} {l : List Pt} {v : Value} (h : OwnI w m lo hi l v) (a : lo' ≤ lo) (b : hi ≤ hi') : OwnI w m lo' hi' l v := by
  cases h with
  | nil _ _ hm => exact .nil lo' hi' hm
  | row _ _ _ g cap cur F L H h1 h2 blk hcap hsz hmax cells fits rng apart room deep =>
    exact .row lo' hi' l g cap cur F L H (by omega) (by omega) blk hcap hsz hmax cells fits (fun j hj => by obtain ⟨r1, r2, r3, r4⟩ := rng j hj; exact ⟨by omega, r2, by omega, r4⟩) apart room deep
theorem OwnI.reads {m : Bool} {lo hi : Nat} {w : World} {l : List Pt} {v : Value} (h : OwnI w m lo hi l v) : PI w lo hi l v := by
  induction h with
  | nil lo hi hm => exact PI.nil _ _ _
  | row lo hi l g cap cur F L H h1 h2 blk hcap hsz hmax cells fits rng apart room deep ih =>
    exact .mk l _ cap F hcap (fun j hj => ⟨g, 0, rfl, h1, h2, by rw [Nat.zero_add]; exact cells j hj⟩) fits (fun j hj => (ih j hj).wide (rng j hj).1 (rng j hj).2.2.1)

/-- The cells of parts, one behind the other. -/
def flat (ps : List (Pt × Value)) : List Value := ps.flatMap fun x => (cellsOf x.1 x.2).toList
theorem flat_length (ps : List (Pt × Value)) : (flat ps).length = ps.length * 6 := by
  induction ps with
  | nil => rfl
  | cons x r ih => simp only [flat, List.flatMap_cons, List.length_append, List.length_cons] at ih ⊢; rw [ih]; simp [cellsOf]; omega
theorem flat_snoc (ps : List (Pt × Value)) (x : Pt × Value) : flat (ps ++ [x]) = flat ps ++ (cellsOf x.1 x.2).toList := by simp [flat]
theorem flat_get (ps : List (Pt × Value)) (j c : Nat) (hc : c < 6) (h : j < ps.length) : (flat ps)[j * 6 + c]? = (cellsOf ps[j].1 ps[j].2)[c]? := by
  induction ps generalizing j with
  | nil => cases h
  | cons x r ih =>
    have e : flat (x :: r) = (cellsOf x.1 x.2).toList ++ flat r := by simp [flat]
    rw [e]
    cases j with
    | zero =>
      rw [Nat.zero_mul, Nat.zero_add, List.getElem?_append_left (by simpa [cellsOf] using hc)]
      simp
    | succ j =>
      rw [List.getElem?_append_right (by simp [cellsOf]; omega)]
      have e2 : (j + 1) * 6 + c - (cellsOf x.1 x.2).toList.length = j * 6 + c := by simp [cellsOf]; omega
      rw [e2]
      exact ih j (by simpa using h)
/-- What such a row holds. -/
theorem flat_cells {w : World} {base g cap n : Nat} {ps : List (Pt × Value)} (h : w.ownsRow base 27 6 (.slice (some ⟨g, 0, none⟩) n cap) n (flat ps)) (j : Nat) (hj : j < ps.length) : PartCells w g (j * 6) ps[j].1 ps[j].2 := by
  have key : ∀ c, c < 6 → w.cell? ⟨g, j * 6 + c, none⟩ = (cellsOf ps[j].1 ps[j].2)[c]? := fun c hc => by
    have e := flat_get ps j c hc hj
    have e3 : (cellsOf ps[j].1 ps[j].2)[c]? = some ((cellsOf ps[j].1 ps[j].2)[c]'(by simpa [cellsOf] using hc)) := Array.getElem?_eq_getElem _
    rw [e3] at e ⊢
    have := World.ownsRow.cells h (g := g) rfl (j * 6 + c) _ e
    have e2 : (⟨g, 0, none⟩ : Addr).add (j * 6 + c) = ⟨g, j * 6 + c, none⟩ := by unfold Addr.add; split <;> simp_all
    rw [e2] at this
    exact this
  exact ⟨key 0 (by decide), key 1 (by decide), key 2 (by decide), key 3 (by decide), key 4 (by decide), key 5 (by decide)⟩
end Go.Proofs.YtcgphlilijeifaaDoor.V
end
section
/-
  A list of parts that is being made: what has been appended so far.
-/
namespace Go.Proofs.YtcgphlilijeifaaDoor.V
open Go.RowKit

/-- All of a part's sizes are in bounds. -/
inductive FitA : Pt → Prop
  | mk (p : Pt) (h : Fit p) (deep : ∀ q ∈ p.items, FitA q) : FitA p
theorem FitA.fit {p : Pt} (h : FitA p) : Fit p := by cases h; assumption
theorem FitA.item {p q : Pt} (h : FitA p) (hq : q ∈ p.items) : FitA q := by cases h with | mk _ _ d => exact d q hq
theorem PI.fitA {w : World} {lo hi : Nat} {l : List Pt} {v : Value} (h : PI w lo hi l v) : ∀ q ∈ l, FitA q := by
  induction h with
  | mk l a cap F hc cells fits deep ih =>
    intro q hq
    obtain ⟨j, hj, rfl⟩ := List.getElem_of_mem hq
    exact .mk _ (fits j hj) (ih j hj)
theorem fitA_of {w : World} {lo hi : Nat} {p : Pt} {v : Value} (hf : Fit p) (h : PI w lo hi p.items v) : FitA p := .mk p hf h.fitA

/-- What the parts lead to. -/
def Kids (w : World) (base : Nat) (g : Option Nat) (ps : List (Pt × Value)) : Prop :=
  ∃ L H : Nat → Nat, (∀ j (h : j < ps.length), OwnI w false (L j) (H j) ps[j].1.items ps[j].2 ∧ base ≤ L j ∧ L j ≤ H j ∧ H j ≤ w.heap.size ∧ (∀ k, g = some k → ¬ (L j ≤ k ∧ k < H j)) ∧ Fit ps[j].1) ∧ ∀ i j, i < j → j < ps.length → H i ≤ L j
theorem Kids.nil (w : World) (base : Nat) (g : Option Nat) : Kids w base g [] := ⟨fun _ => 0, fun _ => 0, (fun j h => by cases h), (fun i j _ h => by cases h)⟩
theorem Kids.below {w w' : World} {base : Nat} {g : Option Nat} {ps : List (Pt × Value)} (h : Kids w base g ps) (hb : Below w.heap.size w w') : Kids w' base g ps := by
  obtain ⟨L, H, h1, h2⟩ := h
  refine ⟨L, H, fun j hj => ?_, h2⟩
  obtain ⟨a, b, c, d, e, f⟩ := h1 j hj
  exact ⟨a.same (Same.of_below hb d), b, c, Nat.le_trans d hb.size, e, f⟩
/-- One more. -/
theorem Kids.snoc {w w' : World} {base g lo hi : Nat} {v : Value} {ps : List (Pt × Value)} {p : Pt} {u : Value} (hu : OwnI w false lo hi p.items u) (hf : Fit p) (h1 : base ≤ lo) (h2 : hi ≤ w.heap.size) (hlh : lo ≤ hi)
    (hv : ∀ k, v.ownBlock = some k → k < lo) (hold : ∃ w0 : World, Kids w0 base v.ownBlock ps ∧ w0.heap.size ≤ lo ∧ Below w0.heap.size w0 w) (hg : w.grownBy w' v.ownBlock) (hw : v.ownBlock = some g ∨ w.heap.size ≤ g) : Kids w' base (some g) (ps ++ [(p, u)]) := by
  obtain ⟨w0, ⟨L, H, k1, k2⟩, hw0, hb0⟩ := hold
  have same : ∀ lo hi, hi ≤ w.heap.size → (∀ k, v.ownBlock = some k → ¬ (lo ≤ k ∧ k < hi)) → Same lo hi w w' := fun lo hi a b k c d => hg.block k (by omega) (fun e => b k e.symm ⟨c, d⟩)
  have out : ∀ lo hi, hi ≤ w.heap.size → (∀ k, v.ownBlock = some k → ¬ (lo ≤ k ∧ k < hi)) → ∀ k, some g = some k → ¬ (lo ≤ k ∧ k < hi) := fun lo hi a b k e => by
    have e := Option.some.inj e
    subst e
    rcases hw with e | e
    · exact b _ e
    · omega
  refine ⟨fun j => if j < ps.length then L j else lo, fun j => if j < ps.length then H j else hi, fun j hj => ?_, fun i j hij hj => ?_⟩
  · by_cases hjl : j < ps.length
    · obtain ⟨a, b, c, d, e, f⟩ := k1 j hjl
      have hd : H j ≤ w.heap.size := Nat.le_trans d hb0.size
      simp only [hjl, if_true]
      rw [List.getElem_append_left hjl]
      exact ⟨(a.same (Same.of_below hb0 d)).same (same _ _ hd e), b, c, Nat.le_trans hd hg.size, out _ _ hd e, f⟩
    · have hje : j = ps.length := by simp at hj; omega
      subst hje
      have hv2 : ∀ k, v.ownBlock = some k → ¬ (lo ≤ k ∧ k < hi) := fun k hk => by have := hv k hk; omega
      simp only [Nat.lt_irrefl, if_false]
      rw [List.getElem_append_right (Nat.le_refl _)]
      simp only [Nat.sub_self, List.getElem_cons_zero]
      exact ⟨hu.same (same _ _ h2 hv2), h1, hlh, Nat.le_trans h2 hg.size, out _ _ h2 hv2, hf⟩
  · have hj2 : j ≤ ps.length := by simp at hj; omega
    have hi2 : i < ps.length := by omega
    by_cases hjl : j < ps.length
    · simp only [hi2, hjl, if_true]
      exact k2 i j hij hjl
    · simp only [hi2, if_true, hjl, if_false]
      have := (k1 i hi2).2.2.2.1
      omega
/-- The whole list. -/
theorem kids_own {w : World} {base : Nat} {s : Value} {ps : List (Pt × Value)} {l : List Pt} (hl : ps.map Prod.fst = l) (hO : w.ownsRow base 27 6 s l.length (flat ps)) (hK : Kids w base s.ownBlock ps) :
    OwnI w false base w.heap.size l s := by
  subst hl
  rw [List.length_map] at hO
  obtain ⟨L, H, k1, k2⟩ := hK
  rcases hO.2 with ⟨rfl, hn⟩ | ⟨g, cap, cur, rfl, hg, hgg, hnc, hcm, hcs, _⟩
  · have : ps = [] := List.eq_nil_of_length_eq_zero hn
    subst this
    exact .nil _ _ rfl
  · have hlen : (ps.map Prod.fst).length = ps.length := List.length_map ..
    have key := OwnI.row (w := w) (m := false) base w.heap.size (ps.map Prod.fst) g cap cur (fun j => if h : j < ps.length then ps[j].2 else .slice none 0 0) L H hg (Array.getElem?_eq_some_iff.1 hgg).1 hgg (by rw [hlen]; exact hnc) hcs hcm
      (fun j hj => by
        rw [hlen] at hj
        simp only [hj, dif_pos, List.getElem_map]
        exact flat_cells hO j hj)
      (fun j hj => by
        rw [hlen] at hj
        simp only [List.getElem_map]
        exact (k1 j hj).2.2.2.2.2)
      (fun j hj => by
        rw [hlen] at hj
        obtain ⟨_, b, c, d, e, _⟩ := k1 j hj
        exact ⟨b, c, d, e g rfl⟩)
      (fun i j hij hj => k2 i j hij (by rw [hlen] at hj; exact hj)) (fun h => by cases h)
      (fun j hj => by
        rw [hlen] at hj
        simp only [hj, dif_pos, List.getElem_map]
        exact (k1 j hj).1)
    rw [hlen] at key
    exact key
end Go.Proofs.YtcgphlilijeifaaDoor.V
end
section
/-
  The program's Tell, and the values' own Part: their contracts.
-/
namespace Go.Proofs.YtcgphlilijeifaaDoor.V
open Go.RowKit

theorem infoP : (Tryd.prog.info? 27).map (fun i => (i.zero, i.size, i.bytes)) = some (some (.agg #[.int .u8 0, .bool false, .bool false, .string ⟨#[]⟩, .string ⟨#[]⟩, .slice none 0 0]), 6, 72) := by kernel_rfl
theorem own_below6 {w w' : World} {base : Nat} {e : TypeId} {v : Value} {n : Nat} {us : List Value} (h : w.ownsRow base e 6 v n us) (hb : Below w.heap.size w w') : w'.ownsRow base e 6 v n us := by
  refine ⟨h.1, ?_⟩
  rcases h.2 with hn | ⟨g, cap, cur, rfl, hg, hgg, rest⟩
  · exact .inl hn
  · exact .inr ⟨g, cap, cur, rfl, hg, (hb.block g (Array.getElem?_eq_some_iff.1 hgg).1).trans hgg, rest⟩
theorem own_cell6 {w w3 : World} {ob : Obj} {base : Nat} {e : TypeId} {v u : Value} {n b o : Nat} {us : List Value} (h : w.ownsRow base e 6 v n us) (hg : (w.alloc ob).grownBy w3 v.ownBlock) (hb : b < base) (hc : w.cell? ⟨b, o, none⟩ = some u) : w3.cell? ⟨b, o, none⟩ = some u := by
  have hlt : b < w.heap.size := World.block_lt_of_cell? w _ hc
  refine (World.cell?_of_block (hg.block b (by simp; omega) (fun e => by have := (World.ownsRow.lt h b e.symm).1; omega))).trans ?_
  exact (World.cell?_of_block (Below.heap_alloc w ob b hlt)).trans hc
theorem own_frozen6 {w w3 : World} {ob : Obj} {base : Nat} {e : TypeId} {v : Value} {n b o : Nat} {us : List Value} (h : w.ownsRow base e 6 v n us) (hg : (w.alloc ob).grownBy w3 v.ownBlock) (hb : b < base) (hlt : b < w.heap.size) (hc : w.frozen? ⟨b, o, none⟩ = false) : w3.frozen? ⟨b, o, none⟩ = false := by
  refine (World.frozen?_of_block (hg.block b (by simp; omega) (fun e => by have := (World.ownsRow.lt h b e.symm).1; omega))).trans ?_
  exact (World.frozen?_of_block (Below.heap_alloc w ob b hlt)).trans hc
theorem own_form6 {w : World} {base : Nat} {e : TypeId} {v : Value} {n : Nat} {us : List Value} (h : w.ownsRow base e 6 v n us) : ∃ a cap, v = .slice a n cap := by
  rcases h.2 with ⟨rfl, rfl⟩ | ⟨g, cap, cur, rfl, _⟩
  · exact ⟨none, 0, rfl⟩
  · exact ⟨_, cap, rfl⟩
theorem OwnI.form {w : World} {m : Bool} {lo hi : Nat} {l : List Pt} {v : Value} (h : OwnI w m lo hi l v) : ∃ a cap, v = .slice a l.length cap := by
  cases h with
  | nil _ _ _ => exact ⟨none, 0, rfl⟩
  | row _ _ _ g cap => exact ⟨_, cap, rfl⟩
/-- The six cells of a part that was laid. -/
theorem six_cells (w : World) (cs : Array Value) (T : TypeId) (hn : cs.size = 6) : ∀ j u, cs.toList[j]? = some u → (w.alloc (.cells cs T)).cell? ((⟨w.heap.size, 0, none⟩ : Addr).add j) = some u := by
  intro j u hj
  have e2 : (⟨w.heap.size, 0, none⟩ : Addr).add j = ⟨w.heap.size, j, none⟩ := by unfold Addr.add; split <;> simp_all
  rw [e2]
  have := cell_of_row (w.alloc (.cells cs T)) w.heap.size j cs T (0, 0) (heap_alloc_new w _)
  rw [this, ← hj, Array.getElem?_toList]

theorem Same.setCell {lo hi b c : Nat} {w : World} {u : Value} (h : b < lo) : Same lo hi w (w.setCell ⟨b, c, none⟩ u) := fun k h1 _ => Below.heap_setCell _ _ _ _ (by simp; omega)
theorem ba_nil {b : ByteArray} (h : b.toList.isEmpty = true) : b = ⟨#[]⟩ := ba_same (by rw [List.isEmpty_iff.1 h, Lib.toList_data])
theorem canon7 {p : Pt} (h : mayB p = true) (h7 : p.kind = 7) : p.yes = false ∧ p.neg = false ∧ p.mag = ⟨#[]⟩ ∧ p.raw = ⟨#[]⟩ := by
  have h1 := mayB_ok h
  unfold okOne at h1
  simp only [h7, Bool.and_eq_true] at h1
  obtain ⟨⟨⟨⟨_, h2⟩, h3⟩, _⟩, h5⟩ := h1
  simp only [Nat.reduceEqDiff, if_false, if_true, false_or, Nat.reduceBEq, Bool.false_or, Bool.and_eq_true, Bool.not_eq_true'] at h2 h3 h5
  exact ⟨h2, h3.1, ba_nil h3.2, ba_nil (by simpa using h5.1)⟩
/-- What a round leaves. -/
theorem kids_step {W1 w2 w3 : World} {T g cap k c : Nat} {s iv y : Value} {q : Pt} {ps : List (Pt × Value)} (ob : Obj) (hO1 : W1.ownsRow (T + 1) 27 6 s k (flat ps)) (hK1 : Kids W1 (T + 1) s.ownBlock ps)
    (hx : OwnI w2 false W1.heap.size w2.heap.size q.items iv) (hf : Fit q) (hb2 : Below W1.heap.size W1 w2) (hg : (w2.alloc ob).grownBy w3 s.ownBlock) (hl : s.ownBlock = some g ∨ g = (w2.alloc ob).heap.size)
    (hO3 : w3.ownsRow (T + 1) 27 6 (.slice (some ⟨g, 0, none⟩) (k + 1) cap) (k + 1) (flat ps ++ (cellsOf q iv).toList)) (hT : T + 1 ≤ W1.heap.size) :
    (w3.setCell ⟨T, c, none⟩ y).ownsRow (T + 1) 27 6 (.slice (some ⟨g, 0, none⟩) (k + 1) cap) (k + 1) (flat (ps ++ [(q, iv)])) ∧ Kids (w3.setCell ⟨T, c, none⟩ y) (T + 1) (some g) (ps ++ [(q, iv)]) ∧
      Below T W1 (w3.setCell ⟨T, c, none⟩ y) ∧ W1.heap.size ≤ (w3.setCell ⟨T, c, none⟩ y).heap.size := by
  have hba : Below W1.heap.size W1 (w2.alloc ob) := hb2.alloc hb2.size ob
  have hown : ∀ k, s.ownBlock = some k → T + 1 ≤ k ∧ k < W1.heap.size := World.ownsRow.lt hO1
  have hsz2 : (w2.alloc ob).heap.size = w2.heap.size + 1 := by simp
  have hxa : OwnI (w2.alloc ob) false W1.heap.size w2.heap.size q.items iv := hx.same (Same.of_below ((Below.refl w2.heap.size w2).alloc (Nat.le_refl _) ob) (Nat.le_refl _))
  have hK3 := Kids.snoc (v := s) (g := g) hxa hf hT (by omega) hb2.size (fun k hk => (hown k hk).2) ⟨W1, hK1, Nat.le_refl _, hba⟩ hg (by rcases hl with h | h; exact .inl h; exact .inr (Nat.le_of_eq h.symm))
  refine ⟨?_, ?_, ?_, ?_⟩
  · rw [flat_snoc]
    exact ownsRow_setCell_below hO3 (by simp) y
  · obtain ⟨L, H, k1, k2⟩ := hK3
    refine ⟨L, H, fun j hj => ?_, k2⟩
    obtain ⟨a, b, c2, d, e, f⟩ := k1 j hj
    exact ⟨a.same (fun k x y => Below.heap_setCell _ _ _ _ (by simp; omega)), b, c2, by simpa [World.setCell] using d, e, f⟩
  · exact (((hba.mono (B' := T) (by omega)).grown hg (by have := hb2.size; simp; omega) (fun k hk => by have := hown k hk; omega))).setCell (Nat.le_refl _) y
  · have h1 := hg.size
    have h2 := hb2.size
    have h4 : (w3.setCell ⟨T, c, none⟩ y).heap.size = w3.heap.size := by simp [World.setCell]
    omega

def TellPost (p : Pt) (w : World) (e : Ending) (w' : World) : Prop := ∃ a cap, e = .returned (.agg #[.int .u8 p.kind, .bool p.yes, .bool p.neg, .string p.mag, .string p.raw, .slice a p.items.length cap]) ∧
  OwnI w' false w.heap.size w'.heap.size p.items (.slice a p.items.length cap) ∧ Below w.heap.size w w'

set_option maxRecDepth 100000 in
set_option maxHeartbeats 4000000 in
theorem part_tuple (p : Pt) (h7 : p.kind = 7) (hmay : mayB p = true) (hfa : FitA p)
    (ih : ∀ q ∈ p.items, ∀ (v : Value) (w : World), mayB q = true → FitA q → VI w 0 w.heap.size q v → Calls Tryd.prog 37 #[v] w (TellPost q w))
    (a : Option Addr) (cap : Nat) (w : World) (hv : VI w 0 w.heap.size p (.iface 145 (.agg #[.slice a p.items.length cap]))) :
    Calls Tryd.prog 164 #[.agg #[.slice a p.items.length cap]] w (TellPost p w) := by
  have hlen := may_len hmay h7
  obtain ⟨F, hcells, hdeep⟩ : ∃ F : Nat → Value, (∀ j, j < p.items.length → ∃ g, a = some ⟨g, 0, none⟩ ∧ 0 ≤ g ∧ g < w.heap.size ∧ w.cell? ⟨g, j, none⟩ = some (F j)) ∧ ∀ j (h : j < p.items.length), VI w 0 w.heap.size p.items[j] (F j) := by
    cases hv with
    | tuple _ _ _ _ F hc cells deep => exact ⟨F, cells, deep⟩
  have HC := Lib.hid hcells
  have HD := Lib.hid hdeep
  have IH := Lib.hid ih
  have HM := Lib.hid hmay
  have HF := Lib.hid hfa
  have H7 := Lib.hid h7
  clear hv hcells hdeep ih hmay hfa h7
  go_enter Tryd.func164, Tryd.ntmps164
  go_wp2_with fail
  obtain ⟨W0, hW0⟩ : ∃ W0, W0 = ((w.alloc (.cells #[.slice a p.items.length cap] 145)).alloc (.cells #[.int .u8 0, .bool false, .bool false, .string ⟨#[]⟩, .string ⟨#[]⟩, .slice none 0 0] 27)).alloc
    (.cells #[.int .u8 7, .bool false, .bool false, .string ⟨#[]⟩, .string ⟨#[]⟩, .slice none 0 0] 27) := ⟨_, rfl⟩
  obtain ⟨T, hT⟩ : ∃ T, w.heap.size + 1 + 1 = T := ⟨_, rfl⟩
  have hB0 : Below w.heap.size w W0 := by rw [hW0]; exact ((((Below.refl _ _).alloc (Nat.le_refl _) _).alloc (by simp) _).alloc (by simp; omega) _)
  have hs0 : W0.heap.size = T + 1 := by rw [hW0, ← hT]; simp [go_sem]
  have t0 : W0.cell? ⟨T, 0, none⟩ = some (.int .u8 7) := by rw [hW0, ← hT]; simp [go_sem]
  have t1 : W0.cell? ⟨T, 1, none⟩ = some (.bool false) := by rw [hW0, ← hT]; simp [go_sem]
  have t2 : W0.cell? ⟨T, 2, none⟩ = some (.bool false) := by rw [hW0, ← hT]; simp [go_sem]
  have t3 : W0.cell? ⟨T, 3, none⟩ = some (.string ⟨#[]⟩) := by rw [hW0, ← hT]; simp [go_sem]
  have t4 : W0.cell? ⟨T, 4, none⟩ = some (.string ⟨#[]⟩) := by rw [hW0, ← hT]; simp [go_sem]
  have t5 : W0.cell? ⟨T, 5, none⟩ = some (.slice none 0 0) := by rw [hW0, ← hT]; simp [go_sem]
  have tf : W0.frozen? ⟨T, 5, none⟩ = false := by rw [hW0, ← hT]; simp [go_sem]
  have r0 : W0.cell? ⟨w.heap.size + 1, 0, none⟩ = some (.int .u8 0) := by rw [hW0]; simp [go_sem]
  have r1 : W0.cell? ⟨w.heap.size + 1, 1, none⟩ = some (.bool false) := by rw [hW0]; simp [go_sem]
  have r2 : W0.cell? ⟨w.heap.size + 1, 2, none⟩ = some (.bool false) := by rw [hW0]; simp [go_sem]
  have r3 : W0.cell? ⟨w.heap.size + 1, 3, none⟩ = some (.string ⟨#[]⟩) := by rw [hW0]; simp [go_sem]
  have r4 : W0.cell? ⟨w.heap.size + 1, 4, none⟩ = some (.string ⟨#[]⟩) := by rw [hW0]; simp [go_sem]
  have r5 : W0.cell? ⟨w.heap.size + 1, 5, none⟩ = some (.slice none 0 0) := by rw [hW0]; simp [go_sem]
  have rf : ∀ c, c < 6 → W0.frozen? ⟨w.heap.size + 1, c, none⟩ = false := fun c hc => by rw [hW0]; simp [go_sem]
  have HR := Lib.hid (And.intro r0 (And.intro r1 (And.intro r2 (And.intro r3 (And.intro r4 (And.intro r5 rf))))))
  rw [← hW0, hT]
  clear hW0 r0 r1 r2 r3 r4 r5 rf
  go_loopw [10] (fun i wr => ∃ (k : Nat) (s : Value) (ps : List (Pt × Value)), k ≤ p.items.length ∧ i = .int .i64 k ∧ wr.cell? ⟨T, 0, none⟩ = some (.int .u8 7) ∧ wr.cell? ⟨T, 1, none⟩ = some (.bool false) ∧ wr.cell? ⟨T, 2, none⟩ = some (.bool false) ∧
    wr.cell? ⟨T, 3, none⟩ = some (.string ⟨#[]⟩) ∧ wr.cell? ⟨T, 4, none⟩ = some (.string ⟨#[]⟩) ∧ wr.cell? ⟨T, 5, none⟩ = some s ∧ wr.frozen? ⟨T, 5, none⟩ = false ∧
    wr.ownsRow (T + 1) 27 6 s k (flat ps) ∧ RowKit.Hid (Kids wr (T + 1) s.ownBlock ps ∧ ps.map Prod.fst = p.items.take k) ∧ Below T W0 wr ∧ T + 1 ≤ wr.heap.size) (fun i _ => p.items.length - (intOf i).toNat)
  case atStart => exact ⟨0, .slice none 0 0, [], Nat.zero_le _, rfl, t0, t1, t2, t3, t4, t5, tf, World.ownsRow_nil _ _ _ _, Lib.hid ⟨Kids.nil _ _ _, rfl⟩, Below.refl _ _, by omega⟩
  case round =>
    clear t0 t1 t2 t3 t4 t5 tf
    obtain ⟨k, s, ps, hkl, rfl, t0, t1, t2, t3, t4, t5, tf, hO, HK, hB, hsz⟩ := hrel
    by_cases hlt : k < p.items.length
    · have q3 : decide (k < p.items.length) = true := by simpa using hlt
      obtain ⟨g0, rfl, _, hg0, hcell⟩ := HC.out k hlt
      have hBw : Below w.heap.size w wr := hB0.trans (hB.mono (by omega))
      have hcell2 := keep hBw hg0 hcell
      have hmem : p.items[k] ∈ p.items := List.getElem_mem _
      have hvi := Lib.hid (HD.out k hlt)
      obtain ⟨q, hq⟩ : ∃ q, p.items[k] = q := ⟨_, rfl⟩
      rw [hq] at hmem hvi
      have HQ := Lib.hid hq
      have hmq := Lib.hid (mayB_item HM.out hmem)
      have hfq := Lib.hid (HF.out.item hmem)
      clear hq hcell
      go_wp2_with fail
      obtain ⟨W1, hW1⟩ : ∃ W1, W1 = wr := ⟨_, rfl⟩
      subst hW1
      have hvi2 := Lib.hid (show VI W1.drew 0 W1.drew.heap.size q (F k) from hvi.out.later hBw.drew)
      have hWl : T < W1.heap.size := by omega
      have hWa : T < T + 1 := by omega
      obtain ⟨i0, hi, hz0, hz1, hz2⟩ := info_parts infoP
      go_region_law (first
        | (go_simp; go_at_call 37; refine (IH.out q hmem _ _ hmq.out hfq.out (by exact hvi2.out)).mono ?_; rintro e w2 ⟨a2, cap2, rfl, hx, hb0⟩; have hb2 := undrew hb0; have hx2 := Lib.hid hx; have hO2 := own_below6 hO hb2; have s5 := keep hb2 hWl t5; have f5 : w2.frozen? ⟨T, 5, none⟩ = false := (hb2.frozen (p := ⟨T, 5, none⟩) hWl).trans tf; have hWm : T < w2.heap.size := Nat.lt_of_lt_of_le hWl hb2.size; clear hx)
        | (refine step_append_lies _ rfl (.tmp 15) (.tmp 18) 25 rfl (T + 1) 27 i0 _ 6 72 Tryd.underlying25 hi hz0 hz1 hz2 rfl (by decide) s k (flat ps) (by simp [Act.eval, Act.put]) (hO2.alloc _) ⟨w2.heap.size, 0, none⟩ 1 1 (cellsOf q (.slice a2 q.items.length cap2)).toList (by simp [Act.eval, Act.put]) rfl (six_cells w2 _ _ rfl) (by intro y hy; simp [cellsOf] at hy; rcases hy with rfl | rfl | rfl | rfl | rfl | rfl <;> rfl) (by decide) (by unfold maxLen; omega) (by omega) (by simp; omega) _ rfl ?_; intro g cap3 w3 hO3 hg3 hlies hgl; have s3 := own_cell6 hO2 hg3 hWa s5; have f3 := own_frozen6 hO2 hg3 hWa hWm f5))
      all_goals
        go_wp2_with fail
        have ST := kids_step (c := 5) _ hO HK.out.1 hx2.out hfq.out.fit hb2 hg3 hlies hO3 (by omega) (y := .slice (some ⟨g, 0, none⟩) (k + 1) cap3)
        have hlp : ps.length = k := by have := congrArg List.length HK.out.2; simp at this; omega
        have HT : (ps ++ [(q, Value.slice a2 q.items.length cap2)]).map Prod.fst = p.items.take (k + 1) := by rw [List.map_append, HK.out.2, List.take_succ_eq_append_getElem hlt, HQ.out]; rfl
        have e0 := own_cell6 hO2 hg3 hWa (keep hb2 hWl t0)
        have e1 := own_cell6 hO2 hg3 hWa (keep hb2 hWl t1)
        have e2 := own_cell6 hO2 hg3 hWa (keep hb2 hWl t2)
        have e3 := own_cell6 hO2 hg3 hWa (keep hb2 hWl t3)
        have e4 := own_cell6 hO2 hg3 hWa (keep hb2 hWl t4)
        have oth : ∀ c u, c ≠ 5 → w3.cell? ⟨T, c, none⟩ = some u → (w3.setCell ⟨T, 5, none⟩ (.slice (some ⟨g, 0, none⟩) (k + 1) cap3)).cell? ⟨T, c, none⟩ = some u := fun c u hc h =>
          (World.cell?_setCell_other w3 ⟨T, 5, none⟩ ⟨T, c, none⟩ _ (by intro e; injection e with _ e; exact hc e.symm)).trans h
        refine ⟨⟨k + 1, .slice (some ⟨g, 0, none⟩) (k + 1) cap3, _, by omega, rfl, oth _ _ (by decide) e0, oth _ _ (by decide) e1, oth _ _ (by decide) e2, oth _ _ (by decide) e3, oth _ _ (by decide) e4,
          World.cell?_setCell_same w3 _ _ s3, (World.frozen?_setCell ..).trans f3, ST.1, Lib.hid ⟨ST.2.1, HT⟩, hB.trans ST.2.2.1, by have := ST.2.2.2; omega⟩, by simp [intOf]; omega⟩
    · have q3 : decide (k < p.items.length) = false := by simpa using hlt
      have hkl2 : k = p.items.length := by omega
      obtain ⟨a9, cap9, hs9⟩ := own_form6 hO
      have hown := Lib.hid (kids_own (HK.out.2.trans (List.take_of_length_le (by omega))) (hkl2 ▸ hO) HK.out.1)
      rw [hs9, hkl2] at hown
      rw [hs9] at t5
      rw [hkl2] at t5
      obtain ⟨r0, r1, r2, r3, r4, r5, rf⟩ := HR.out
      have hT2 : w.heap.size + 1 < T := by omega
      have c0 := keep hB hT2 r0
      have c1 := keep hB hT2 r1
      have c2 := keep hB hT2 r2
      have c3 := keep hB hT2 r3
      have c4 := keep hB hT2 r4
      have c5 := keep hB hT2 r5
      have z0 : wr.frozen? ⟨w.heap.size + 1, 0, none⟩ = false := (hB.frozen (p := ⟨w.heap.size + 1, 0, none⟩) hT2).trans (rf 0 (by decide))
      have z1 : wr.frozen? ⟨w.heap.size + 1, 1, none⟩ = false := (hB.frozen (p := ⟨w.heap.size + 1, 1, none⟩) hT2).trans (rf 1 (by decide))
      have z2 : wr.frozen? ⟨w.heap.size + 1, 2, none⟩ = false := (hB.frozen (p := ⟨w.heap.size + 1, 2, none⟩) hT2).trans (rf 2 (by decide))
      have z3 : wr.frozen? ⟨w.heap.size + 1, 3, none⟩ = false := (hB.frozen (p := ⟨w.heap.size + 1, 3, none⟩) hT2).trans (rf 3 (by decide))
      have z4 : wr.frozen? ⟨w.heap.size + 1, 4, none⟩ = false := (hB.frozen (p := ⟨w.heap.size + 1, 4, none⟩) hT2).trans (rf 4 (by decide))
      have z5 : wr.frozen? ⟨w.heap.size + 1, 5, none⟩ = false := (hB.frozen (p := ⟨w.heap.size + 1, 5, none⟩) hT2).trans (rf 5 (by decide))
      have hBw := Lib.hid (hB0.trans (hB.mono (by omega)))
      have hne := Lib.hid hT2
      clear hs9 hO HK rf r0 r1 r2 r3 r4 r5
      subst hkl2
      go_wp2_with fail
      have hSm : Same (T + 1) wr.heap.size wr ((((((wr.setCell ⟨w.heap.size + 1, 0, none⟩ (.int .u8 7)).setCell ⟨w.heap.size + 1, 1, none⟩ (.bool false)).setCell ⟨w.heap.size + 1, 2, none⟩ (.bool false)).setCell ⟨w.heap.size + 1, 3, none⟩ (.string ⟨#[]⟩)).setCell ⟨w.heap.size + 1, 4, none⟩ (.string ⟨#[]⟩)).setCell ⟨w.heap.size + 1, 5, none⟩ (.slice a9 p.items.length cap9)) :=
        (((((Same.setCell (by omega)).trans (Same.setCell (by omega))).trans (Same.setCell (by omega))).trans (Same.setCell (by omega))).trans (Same.setCell (by omega))).trans (Same.setCell (by omega))
      obtain ⟨k1, k2, k3, k4⟩ := canon7 HM.out H7.out
      refine bodyPost_ret (v := .agg #[.int .u8 7, .bool false, .bool false, .string ⟨#[]⟩, .string ⟨#[]⟩, .slice a9 p.items.length cap9]) (by simp [results, Tryd.results164, go_sem, c0, c1, c2, c3, c4, c5]) rfl
        ⟨a9, cap9, by rw [H7.out, k1, k2, k3, k4]; rfl, ((hown.out.same hSm).wide (by omega) (by simp [World.setCell])), ((((((hBw.out.setCell (by simp) _).setCell (by simp) _).setCell (by simp) _).setCell (by simp) _).setCell (by simp) _).setCell (by simp) _)⟩
end Go.Proofs.YtcgphlilijeifaaDoor.V
end
section
/-
  The program's Tell: its contract, for every value.
-/
namespace Go.Proofs.YtcgphlilijeifaaDoor.V
open Go.RowKit

theorem part_truth (y : Bool) (w : World) : Calls Tryd.prog 157 #[.agg #[.bool y]] w fun e w' => e = .returned (.agg #[.int .u8 1, .bool y, .bool false, .string ⟨#[]⟩, .string ⟨#[]⟩, .slice none 0 0]) ∧ Below w.heap.size w w' := by
  go_enter Tryd.func157, Tryd.ntmps157
  go_wp2_with fail
  exact bodyPost_ret (v := .agg #[.int .u8 1, .bool y, .bool false, .string ⟨#[]⟩, .string ⟨#[]⟩, .slice none 0 0]) (by simp [results, Tryd.results157, go_sem]) rfl ⟨rfl, ((Below.refl _ _).alloc (Nat.le_refl _) _).alloc (by simp) _⟩
theorem part_whole (b : Bool) (m : ByteArray) (w : World) : Calls Tryd.prog 160 #[.agg #[.bool b, .string m]] w fun e w' => e = .returned (.agg #[.int .u8 2, .bool false, .bool b, .string m, .string ⟨#[]⟩, .slice none 0 0]) ∧ Below w.heap.size w w' := by
  go_enter Tryd.func160, Tryd.ntmps160
  go_wp2_with fail
  exact bodyPost_ret (v := .agg #[.int .u8 2, .bool false, .bool b, .string m, .string ⟨#[]⟩, .slice none 0 0]) (by simp [results, Tryd.results160, go_sem]) rfl ⟨rfl, ((Below.refl _ _).alloc (Nat.le_refl _) _).alloc (by simp) _⟩
theorem part_row (k : Nat) (r : ByteArray) (w : World) : Calls Tryd.prog 167 #[.agg #[.int .u8 k, .string r]] w fun e w' => e = .returned (.agg #[.int .u8 k, .bool false, .bool false, .string ⟨#[]⟩, .string r, .slice none 0 0]) ∧ Below w.heap.size w w' := by
  go_enter Tryd.func167, Tryd.ntmps167
  go_wp2_with fail
  exact bodyPost_ret (v := .agg #[.int .u8 k, .bool false, .bool false, .string ⟨#[]⟩, .string r, .slice none 0 0]) (by simp [results, Tryd.results167, go_sem]) rfl ⟨rfl, ((Below.refl _ _).alloc (Nat.le_refl _) _).alloc (by simp) _⟩

/-- What a part that may be has beside its own fields: nothing. -/
theorem canon {p : Pt} (h : mayB p = true) : (p.kind ≠ 1 → p.yes = false) ∧ (p.kind ≠ 2 → p.neg = false ∧ p.mag = ⟨#[]⟩) ∧ (p.kind ≠ 7 → p.items = []) ∧ (p.kind = 0 ∨ p.kind = 1 ∨ p.kind = 2 ∨ p.kind = 7 → p.raw = ⟨#[]⟩) := by
  have h1 := mayB_ok h
  unfold okOne at h1
  simp only [Bool.and_eq_true] at h1
  obtain ⟨⟨⟨⟨_, h2⟩, h3⟩, h4⟩, h5⟩ := h1
  refine ⟨fun k => ?_, fun k => ?_, fun k => ?_, fun k => ?_⟩
  · simpa [k] using h2
  · have : p.neg = false ∧ p.mag.toList = [] := by simpa [k] using h3
    exact ⟨this.1, ba_nil (by rw [this.2]; rfl)⟩
  · have : (p.kind == 7) = false := by simpa using k
    rw [this, Bool.false_or, List.isEmpty_iff] at h4
    exact h4
  · refine ba_nil ?_
    rcases k with k | k | k | k <;> simp [k] at h5 ⊢
    · exact h5
    · exact h5
    · exact h5.1
    · exact h5.1
theorem tell_flat {p : Pt} {w w' : World} (hi : p.items = []) (hb : Below w.heap.size w w') : OwnI w' false w.heap.size w'.heap.size p.items (.slice none p.items.length 0) ∧ Below w.heap.size w w' := by
  rw [hi]; exact ⟨.nil _ _ rfl, hb⟩

/-- The result's place, behind a call. -/
theorem res_cells {w w1 : World} (hb : Below (w.alloc (.cells #[.int .u8 0, .bool false, .bool false, .string ⟨#[]⟩, .string ⟨#[]⟩, .slice none 0 0] 27)).heap.size (w.alloc (.cells #[.int .u8 0, .bool false, .bool false, .string ⟨#[]⟩, .string ⟨#[]⟩, .slice none 0 0] 27)) w1) :
    w1.cell? ⟨w.heap.size, 0, none⟩ = some (.int .u8 0) ∧ w1.cell? ⟨w.heap.size, 1, none⟩ = some (.bool false) ∧ w1.cell? ⟨w.heap.size, 2, none⟩ = some (.bool false) ∧ w1.cell? ⟨w.heap.size, 3, none⟩ = some (.string ⟨#[]⟩) ∧ w1.cell? ⟨w.heap.size, 4, none⟩ = some (.string ⟨#[]⟩) ∧
      w1.cell? ⟨w.heap.size, 5, none⟩ = some (.slice none 0 0) ∧ w1.frozen? ⟨w.heap.size, 0, none⟩ = false ∧ w1.frozen? ⟨w.heap.size, 1, none⟩ = false ∧ w1.frozen? ⟨w.heap.size, 2, none⟩ = false ∧ w1.frozen? ⟨w.heap.size, 3, none⟩ = false ∧ w1.frozen? ⟨w.heap.size, 4, none⟩ = false ∧ w1.frozen? ⟨w.heap.size, 5, none⟩ = false ∧ w.heap.size < w1.heap.size := by
  have hlt : w.heap.size < (w.alloc (.cells #[.int .u8 0, .bool false, .bool false, .string ⟨#[]⟩, .string ⟨#[]⟩, .slice none 0 0] 27)).heap.size := by simp
  have z : ∀ c, w1.frozen? ⟨w.heap.size, c, none⟩ = false := fun c => (hb.frozen (p := ⟨w.heap.size, c, none⟩) hlt).trans (by simp)
  exact ⟨keep hb hlt (by simp), keep hb hlt (by simp), keep hb hlt (by simp), keep hb hlt (by simp), keep hb hlt (by simp), keep hb hlt (by simp), z 0, z 1, z 2, z 3, z 4, z 5, Nat.lt_of_lt_of_le hlt hb.size⟩
set_option maxHeartbeats 2000000 in
theorem tell_any (p : Pt) : ∀ (v : Value) (w : World), mayB p = true → FitA p → VI w 0 w.heap.size p v → Calls Tryd.prog 37 #[v] w (TellPost p w) := by
  induction p using Pt.ind with
  | h p ih =>
  intro v w hmay hfa hv
  have HV := Lib.hid hv
  obtain ⟨n1, n2, n3, n4⟩ := canon hmay
  cases hv with
  | null _ h =>
    have y1 := n1 (by omega)
    obtain ⟨y2, y3⟩ := n2 (by omega)
    have y4 := n3 (by omega)
    have y5 := n4 (.inl h)
    have HE := Lib.hid (show Value.agg #[.int .u8 p.kind, .bool p.yes, .bool p.neg, .string p.mag, .string p.raw, .slice none p.items.length 0] = .agg #[.int .u8 0, .bool false, .bool false, .string ⟨#[]⟩, .string ⟨#[]⟩, .slice none 0 0] by rw [h, y1, y2, y3, y4, y5]; rfl)
    have H4 := Lib.hid y4
    clear n1 n2 n3 n4 y1 y2 y3 y4 y5 h
    go_enter Tryd.func37, Tryd.ntmps37
    go_wp2_with fail
    exact bodyPost_ret (v := .agg #[.int .u8 0, .bool false, .bool false, .string ⟨#[]⟩, .string ⟨#[]⟩, .slice none 0 0]) (by simp [results, Tryd.results37, go_sem]) rfl
      ⟨none, 0, by rw [HE.out], tell_flat H4.out ((Below.refl _ _).alloc (Nat.le_refl _) _)⟩
  | truth _ h =>
    obtain ⟨y2, y3⟩ := n2 (by omega)
    have y4 := n3 (by omega)
    have y5 := n4 (by omega)
    have HE := Lib.hid (show Value.agg #[.int .u8 p.kind, .bool p.yes, .bool p.neg, .string p.mag, .string p.raw, .slice none p.items.length 0] = .agg #[.int .u8 1, .bool p.yes, .bool false, .string ⟨#[]⟩, .string ⟨#[]⟩, .slice none 0 0] by rw [h, y2, y3, y4, y5]; rfl)
    have H4 := Lib.hid y4
    have m1 : ∀ w : World, (method 338 140 (.agg #[.bool p.yes]) "Part").run Tryd.prog w = .ok (157, .agg #[.bool p.yes]) w := fun _ => by kernel_rfl
    clear n1 n2 n3 n4 y2 y3 y4 y5 h
    go_enter Tryd.func37, Tryd.ntmps37
    go_wp2_with fail
    refine (part_truth p.yes _).mono ?_
    rintro e w1 ⟨rfl, hb1⟩
    have hB := ((Below.refl w.heap.size w).alloc (Nat.le_refl _) (.cells #[.int .u8 0, .bool false, .bool false, .string ⟨#[]⟩, .string ⟨#[]⟩, .slice none 0 0] 27)).trans (hb1.mono (by simp))
    obtain ⟨c0, c1, c2, c3, c4, c5, z0, z1, z2, z3, z4, z5, hlt⟩ := res_cells hb1
    clear hb1
    go_wp2_with fail
    exact bodyPost_ret (v := .agg #[.int .u8 1, .bool p.yes, .bool false, .string ⟨#[]⟩, .string ⟨#[]⟩, .slice none 0 0]) (by simp [results, Tryd.results37, go_sem, c0, c1, c2, c3, c4, c5]) rfl
      ⟨none, 0, by rw [HE.out], tell_flat H4.out ((((((hB.setCell (Nat.le_refl _) _).setCell (Nat.le_refl _) _).setCell (Nat.le_refl _) _).setCell (Nat.le_refl _) _).setCell (Nat.le_refl _) _).setCell (Nat.le_refl _) _)⟩
  | whole _ h =>
    have y1 := n1 (by omega)
    have y4 := n3 (by omega)
    have y5 := n4 (by omega)
    have HE := Lib.hid (show Value.agg #[.int .u8 p.kind, .bool p.yes, .bool p.neg, .string p.mag, .string p.raw, .slice none p.items.length 0] = .agg #[.int .u8 2, .bool false, .bool p.neg, .string p.mag, .string ⟨#[]⟩, .slice none 0 0] by rw [h, y1, y4, y5]; rfl)
    have H4 := Lib.hid y4
    have m1 : ∀ w : World, (method 338 142 (.agg #[.bool p.neg, .string p.mag]) "Part").run Tryd.prog w = .ok (160, .agg #[.bool p.neg, .string p.mag]) w := fun _ => by kernel_rfl
    clear n1 n2 n3 n4 y1 y4 y5 h
    go_enter Tryd.func37, Tryd.ntmps37
    go_wp2_with fail
    refine (part_whole p.neg p.mag _).mono ?_
    rintro e w1 ⟨rfl, hb1⟩
    have hB := ((Below.refl w.heap.size w).alloc (Nat.le_refl _) (.cells #[.int .u8 0, .bool false, .bool false, .string ⟨#[]⟩, .string ⟨#[]⟩, .slice none 0 0] 27)).trans (hb1.mono (by simp))
    obtain ⟨c0, c1, c2, c3, c4, c5, z0, z1, z2, z3, z4, z5, hlt⟩ := res_cells hb1
    clear hb1
    go_wp2_with fail
    exact bodyPost_ret (v := .agg #[.int .u8 2, .bool false, .bool p.neg, .string p.mag, .string ⟨#[]⟩, .slice none 0 0]) (by simp [results, Tryd.results37, go_sem, c0, c1, c2, c3, c4, c5]) rfl
      ⟨none, 0, by rw [HE.out], tell_flat H4.out ((((((hB.setCell (Nat.le_refl _) _).setCell (Nat.le_refl _) _).setCell (Nat.le_refl _) _).setCell (Nat.le_refl _) _).setCell (Nat.le_refl _) _).setCell (Nat.le_refl _) _)⟩
  | row _ h0 h1 h2 h7 =>
    have y1 := n1 h1
    obtain ⟨y2, y3⟩ := n2 h2
    have y4 := n3 h7
    have HE := Lib.hid (show Value.agg #[.int .u8 p.kind, .bool p.yes, .bool p.neg, .string p.mag, .string p.raw, .slice none p.items.length 0] = .agg #[.int .u8 p.kind, .bool false, .bool false, .string ⟨#[]⟩, .string p.raw, .slice none 0 0] by rw [y1, y2, y3, y4]; rfl)
    have H4 := Lib.hid y4
    have m1 : ∀ w : World, (method 338 147 (.agg #[.int .u8 p.kind, .string p.raw]) "Part").run Tryd.prog w = .ok (167, .agg #[.int .u8 p.kind, .string p.raw]) w := fun _ => by kernel_rfl
    clear n1 n2 n3 n4 y1 y2 y3 y4 h0 h1 h2 h7
    go_enter Tryd.func37, Tryd.ntmps37
    go_wp2_with fail
    refine (part_row p.kind p.raw _).mono ?_
    rintro e w1 ⟨rfl, hb1⟩
    have hB := ((Below.refl w.heap.size w).alloc (Nat.le_refl _) (.cells #[.int .u8 0, .bool false, .bool false, .string ⟨#[]⟩, .string ⟨#[]⟩, .slice none 0 0] 27)).trans (hb1.mono (by simp))
    obtain ⟨c0, c1, c2, c3, c4, c5, z0, z1, z2, z3, z4, z5, hlt⟩ := res_cells hb1
    clear hb1
    go_wp2_with fail
    exact bodyPost_ret (v := .agg #[.int .u8 p.kind, .bool false, .bool false, .string ⟨#[]⟩, .string p.raw, .slice none 0 0]) (by simp [results, Tryd.results37, go_sem, c0, c1, c2, c3, c4, c5]) rfl
      ⟨none, 0, by rw [HE.out], tell_flat H4.out ((((((hB.setCell (Nat.le_refl _) _).setCell (Nat.le_refl _) _).setCell (Nat.le_refl _) _).setCell (Nat.le_refl _) _).setCell (Nat.le_refl _) _).setCell (Nat.le_refl _) _)⟩
  | tuple _ h a cap F hc cells deep =>
    have m1 : ∀ w : World, (method 338 145 (.agg #[.slice a p.items.length cap]) "Part").run Tryd.prog w = .ok (164, .agg #[.slice a p.items.length cap]) w := fun _ => by kernel_rfl
    have H7 := Lib.hid h
    have HM := Lib.hid hmay
    have HF := Lib.hid hfa
    have IH := Lib.hid ih
    clear n1 n2 n3 n4 h hmay hfa ih cells deep
    go_enter Tryd.func37, Tryd.ntmps37
    go_wp2_with fail
    refine (part_tuple p H7.out HM.out HF.out IH.out a cap _ (HV.out.later ((Below.refl _ _).alloc (Nat.le_refl _) _))).mono ?_
    rintro e w1 ⟨a2, cap2, rfl, hx, hb1⟩
    have hB := ((Below.refl w.heap.size w).alloc (Nat.le_refl _) (.cells #[.int .u8 0, .bool false, .bool false, .string ⟨#[]⟩, .string ⟨#[]⟩, .slice none 0 0] 27)).trans (hb1.mono (by simp))
    obtain ⟨c0, c1, c2, c3, c4, c5, z0, z1, z2, z3, z4, z5, hlt⟩ := res_cells hb1
    have HX := Lib.hid (show OwnI w1 false (w.heap.size + 1) w1.heap.size p.items (.slice a2 p.items.length cap2) from hx.wide (by simp) (Nat.le_refl _))
    clear hb1 hx
    go_wp2_with fail
    have hSm : Same (w.heap.size + 1) w1.heap.size w1 ((((((w1.setCell ⟨w.heap.size, 0, none⟩ (.int .u8 p.kind)).setCell ⟨w.heap.size, 1, none⟩ (.bool p.yes)).setCell ⟨w.heap.size, 2, none⟩ (.bool p.neg)).setCell ⟨w.heap.size, 3, none⟩ (.string p.mag)).setCell ⟨w.heap.size, 4, none⟩ (.string p.raw)).setCell ⟨w.heap.size, 5, none⟩ (.slice a2 p.items.length cap2)) :=
      (((((Same.setCell (by omega)).trans (Same.setCell (by omega))).trans (Same.setCell (by omega))).trans (Same.setCell (by omega))).trans (Same.setCell (by omega))).trans (Same.setCell (by omega))
    exact bodyPost_ret (v := .agg #[.int .u8 p.kind, .bool p.yes, .bool p.neg, .string p.mag, .string p.raw, .slice a2 p.items.length cap2]) (by simp [results, Tryd.results37, go_sem, c0, c1, c2, c3, c4, c5]) rfl
      ⟨a2, cap2, rfl, (HX.out.same hSm).wide (by omega) (by simp [World.setCell]), ((((((hB.setCell (Nat.le_refl _) _).setCell (Nat.le_refl _) _).setCell (Nat.le_refl _) _).setCell (Nat.le_refl _) _).setCell (Nat.le_refl _) _).setCell (Nat.le_refl _) _)⟩
end Go.Proofs.YtcgphlilijeifaaDoor.V
end
section
/-
  What can be asked of a value: AsNumber, AsRaw, AsList, Kind, Num, Bytes, Len, At: the contracts.
-/
namespace Go.Proofs.YtcgphlilijeifaaDoor.V
open Go.RowKit

theorem has_Number_truth (V : Value) (w : World) : (Instr.typeAssert (.iface 140 V) 33 106 true).run Tryd.prog w = .ok (.tuple #[.nilIface, .bool false]) w := run_typeAssert_lacksB Tryd.underlying106 (by kernel_rfl) (by kernel_rfl) V _ w
theorem has_Number_whole (V : Value) (w : World) : (Instr.typeAssert (.iface 142 V) 33 106 true).run Tryd.prog w = .ok (.tuple #[.iface 142 V, .bool true]) w := run_typeAssert_hasB Tryd.underlying106 (by kernel_rfl) V _ w
theorem has_Number_row (V : Value) (w : World) : (Instr.typeAssert (.iface 147 V) 33 106 true).run Tryd.prog w = .ok (.tuple #[.nilIface, .bool false]) w := run_typeAssert_lacksB Tryd.underlying106 (by kernel_rfl) (by kernel_rfl) V _ w
theorem has_Number_tuple (V : Value) (w : World) : (Instr.typeAssert (.iface 145 V) 33 106 true).run Tryd.prog w = .ok (.tuple #[.nilIface, .bool false]) w := run_typeAssert_lacksB Tryd.underlying106 (by kernel_rfl) (by kernel_rfl) V _ w
theorem has_Number_nil (w : World) : (Instr.typeAssert .nilIface 33 106 true).run Tryd.prog w = .ok (.tuple #[.nilIface, .bool false]) w := by kernel_rfl
theorem has_Raw_truth (V : Value) (w : World) : (Instr.typeAssert (.iface 140 V) 33 92 true).run Tryd.prog w = .ok (.tuple #[.nilIface, .bool false]) w := run_typeAssert_lacksB Tryd.underlying92 (by kernel_rfl) (by kernel_rfl) V _ w
theorem has_Raw_whole (V : Value) (w : World) : (Instr.typeAssert (.iface 142 V) 33 92 true).run Tryd.prog w = .ok (.tuple #[.nilIface, .bool false]) w := run_typeAssert_lacksB Tryd.underlying92 (by kernel_rfl) (by kernel_rfl) V _ w
theorem has_Raw_row (V : Value) (w : World) : (Instr.typeAssert (.iface 147 V) 33 92 true).run Tryd.prog w = .ok (.tuple #[.iface 147 V, .bool true]) w := run_typeAssert_hasB Tryd.underlying92 (by kernel_rfl) V _ w
theorem has_Raw_tuple (V : Value) (w : World) : (Instr.typeAssert (.iface 145 V) 33 92 true).run Tryd.prog w = .ok (.tuple #[.nilIface, .bool false]) w := run_typeAssert_lacksB Tryd.underlying92 (by kernel_rfl) (by kernel_rfl) V _ w
theorem has_Raw_nil (w : World) : (Instr.typeAssert .nilIface 33 92 true).run Tryd.prog w = .ok (.tuple #[.nilIface, .bool false]) w := by kernel_rfl
theorem has_List_truth (V : Value) (w : World) : (Instr.typeAssert (.iface 140 V) 33 85 true).run Tryd.prog w = .ok (.tuple #[.nilIface, .bool false]) w := run_typeAssert_lacksB Tryd.underlying85 (by kernel_rfl) (by kernel_rfl) V _ w
theorem has_List_whole (V : Value) (w : World) : (Instr.typeAssert (.iface 142 V) 33 85 true).run Tryd.prog w = .ok (.tuple #[.nilIface, .bool false]) w := run_typeAssert_lacksB Tryd.underlying85 (by kernel_rfl) (by kernel_rfl) V _ w
theorem has_List_row (V : Value) (w : World) : (Instr.typeAssert (.iface 147 V) 33 85 true).run Tryd.prog w = .ok (.tuple #[.nilIface, .bool false]) w := run_typeAssert_lacksB Tryd.underlying85 (by kernel_rfl) (by kernel_rfl) V _ w
theorem has_List_tuple (V : Value) (w : World) : (Instr.typeAssert (.iface 145 V) 33 85 true).run Tryd.prog w = .ok (.tuple #[.iface 145 V, .bool true]) w := run_typeAssert_hasB Tryd.underlying85 (by kernel_rfl) V _ w
theorem has_List_nil (w : World) : (Instr.typeAssert .nilIface 33 85 true).run Tryd.prog w = .ok (.tuple #[.nilIface, .bool false]) w := by kernel_rfl

/-- A value asked for as something. -/
def asked (t : Bool) (v : Value) : Value := if t then v else .nilIface

set_option maxHeartbeats 1000000 in
theorem asNumber_any (p : Pt) (v : Value) (w : World) {W : World} {lo hi : Nat} (hv : VI W lo hi p v) (hk : p.kind ≤ 7) (t : Bool) (ht : (p.kind == 2) = t) :
    Calls Tryd.prog 90 #[v] w fun e w' => e = .returned (.tuple #[asked t v, .bool t]) ∧ w = w' := by
  have f1 := has_Number_truth
  have f2 := has_Number_whole
  have f3 := has_Number_row
  have f4 := has_Number_tuple
  have f5 := has_Number_nil
  cases hv with
  | null _ h =>
    obtain rfl : t = false := by rw [← ht]; simp [h]
    clear ht hk h
    go_enter Tryd.func90, Tryd.ntmps90
    go_wp2_with fail
    go_ret2
    exact ⟨rfl, rfl⟩
  | truth _ h =>
    obtain rfl : t = false := by rw [← ht]; simp [h]
    clear ht hk h
    go_enter Tryd.func90, Tryd.ntmps90
    go_wp2_with fail
    go_ret2
    exact ⟨rfl, rfl⟩
  | whole _ h =>
    obtain rfl : t = true := by rw [← ht]; simp [h]
    clear ht hk h
    go_enter Tryd.func90, Tryd.ntmps90
    go_wp2_with fail
    go_ret2
    exact ⟨rfl, rfl⟩
  | row _ h0 h1 h2 h7 =>
    obtain rfl : t = false := by rw [← ht]; simp; omega
    clear ht hk h0 h1 h2 h7
    go_enter Tryd.func90, Tryd.ntmps90
    go_wp2_with fail
    go_ret2
    exact ⟨rfl, rfl⟩
  | tuple _ h a cap F hc cells deep =>
    obtain rfl : t = false := by rw [← ht]; simp [h]
    clear ht hk h cells deep hc
    go_enter Tryd.func90, Tryd.ntmps90
    go_wp2_with fail
    go_ret2
    exact ⟨rfl, rfl⟩
theorem AsNumber_any (p : Pt) (v : Value) (w : World) {W : World} {lo hi : Nat} (hv : VI W lo hi p v) (hk : p.kind ≤ 7) (t : Bool) (ht : (p.kind == 2) = t) :
    Calls Tryd.prog 53 #[v] w fun e w' => e = .returned (.tuple #[asked t v, .bool t]) ∧ w = w' := by
  have HV := Lib.hid hv
  have HT := Lib.hid ht
  clear ht hv
  go_enter Tryd.func53, Tryd.ntmps53
  go_wp2_with fail
  refine (asNumber_any p v _ HV.out hk t HT.out).mono ?_
  rintro e w1 ⟨rfl, rfl⟩
  go_wp2_with fail
  go_ret2
  exact ⟨rfl, rfl⟩

set_option maxHeartbeats 1000000 in
theorem asRaw_any (p : Pt) (v : Value) (w : World) {W : World} {lo hi : Nat} (hv : VI W lo hi p v) (hk : p.kind ≤ 7) (t : Bool) (ht : (rawB p) = t) :
    Calls Tryd.prog 83 #[v] w fun e w' => e = .returned (.tuple #[asked t v, .bool t]) ∧ w = w' := by
  have f1 := has_Raw_truth
  have f2 := has_Raw_whole
  have f3 := has_Raw_row
  have f4 := has_Raw_tuple
  have f5 := has_Raw_nil
  cases hv with
  | null _ h =>
    obtain rfl : t = false := by rw [← ht]; simp [rawB, h]
    clear ht hk h
    go_enter Tryd.func83, Tryd.ntmps83
    go_wp2_with fail
    go_ret2
    exact ⟨rfl, rfl⟩
  | truth _ h =>
    obtain rfl : t = false := by rw [← ht]; simp [rawB, h]
    clear ht hk h
    go_enter Tryd.func83, Tryd.ntmps83
    go_wp2_with fail
    go_ret2
    exact ⟨rfl, rfl⟩
  | whole _ h =>
    obtain rfl : t = false := by rw [← ht]; simp [rawB, h]
    clear ht hk h
    go_enter Tryd.func83, Tryd.ntmps83
    go_wp2_with fail
    go_ret2
    exact ⟨rfl, rfl⟩
  | row _ h0 h1 h2 h7 =>
    obtain rfl : t = true := by rw [← ht]; simp [rawB]; omega
    clear ht hk h0 h1 h2 h7
    go_enter Tryd.func83, Tryd.ntmps83
    go_wp2_with fail
    go_ret2
    exact ⟨rfl, rfl⟩
  | tuple _ h a cap F hc cells deep =>
    obtain rfl : t = false := by rw [← ht]; simp [rawB, h]
    clear ht hk h cells deep hc
    go_enter Tryd.func83, Tryd.ntmps83
    go_wp2_with fail
    go_ret2
    exact ⟨rfl, rfl⟩
theorem AsRaw_any (p : Pt) (v : Value) (w : World) {W : World} {lo hi : Nat} (hv : VI W lo hi p v) (hk : p.kind ≤ 7) (t : Bool) (ht : (rawB p) = t) :
    Calls Tryd.prog 43 #[v] w fun e w' => e = .returned (.tuple #[asked t v, .bool t]) ∧ w = w' := by
  have HV := Lib.hid hv
  have HT := Lib.hid ht
  clear ht hv
  go_enter Tryd.func43, Tryd.ntmps43
  go_wp2_with fail
  refine (asRaw_any p v _ HV.out hk t HT.out).mono ?_
  rintro e w1 ⟨rfl, rfl⟩
  go_wp2_with fail
  go_ret2
  exact ⟨rfl, rfl⟩

set_option maxHeartbeats 1000000 in
theorem asList_any (p : Pt) (v : Value) (w : World) {W : World} {lo hi : Nat} (hv : VI W lo hi p v) (hk : p.kind ≤ 7) (t : Bool) (ht : (p.kind == 7) = t) :
    Calls Tryd.prog 82 #[v] w fun e w' => e = .returned (.tuple #[asked t v, .bool t]) ∧ w = w' := by
  have f1 := has_List_truth
  have f2 := has_List_whole
  have f3 := has_List_row
  have f4 := has_List_tuple
  have f5 := has_List_nil
  cases hv with
  | null _ h =>
    obtain rfl : t = false := by rw [← ht]; simp [h]
    clear ht hk h
    go_enter Tryd.func82, Tryd.ntmps82
    go_wp2_with fail
    go_ret2
    exact ⟨rfl, rfl⟩
  | truth _ h =>
    obtain rfl : t = false := by rw [← ht]; simp [h]
    clear ht hk h
    go_enter Tryd.func82, Tryd.ntmps82
    go_wp2_with fail
    go_ret2
    exact ⟨rfl, rfl⟩
  | whole _ h =>
    obtain rfl : t = false := by rw [← ht]; simp [h]
    clear ht hk h
    go_enter Tryd.func82, Tryd.ntmps82
    go_wp2_with fail
    go_ret2
    exact ⟨rfl, rfl⟩
  | row _ h0 h1 h2 h7 =>
    obtain rfl : t = false := by rw [← ht]; simp; omega
    clear ht hk h0 h1 h2 h7
    go_enter Tryd.func82, Tryd.ntmps82
    go_wp2_with fail
    go_ret2
    exact ⟨rfl, rfl⟩
  | tuple _ h a cap F hc cells deep =>
    obtain rfl : t = true := by rw [← ht]; simp [h]
    clear ht hk h cells deep hc
    go_enter Tryd.func82, Tryd.ntmps82
    go_wp2_with fail
    go_ret2
    exact ⟨rfl, rfl⟩
theorem AsList_any (p : Pt) (v : Value) (w : World) {W : World} {lo hi : Nat} (hv : VI W lo hi p v) (hk : p.kind ≤ 7) (t : Bool) (ht : (p.kind == 7) = t) :
    Calls Tryd.prog 42 #[v] w fun e w' => e = .returned (.tuple #[asked t v, .bool t]) ∧ w = w' := by
  have HV := Lib.hid hv
  have HT := Lib.hid ht
  clear ht hv
  go_enter Tryd.func42, Tryd.ntmps42
  go_wp2_with fail
  refine (asList_any p v _ HV.out hk t HT.out).mono ?_
  rintro e w1 ⟨rfl, rfl⟩
  go_wp2_with fail
  go_ret2
  exact ⟨rfl, rfl⟩

theorem kind_truth (y : Bool) (w : World) : Calls Tryd.prog 156 #[.agg #[.bool y]] w fun e w' => e = .returned (.int .u8 1) ∧ Below w.heap.size w w' := by
  go_enter Tryd.func156, Tryd.ntmps156
  go_wp2_with fail
  go_ret
  exact ⟨rfl, (Below.refl _ _).alloc (Nat.le_refl _) _⟩
theorem kind_whole (b : Bool) (m : ByteArray) (w : World) : Calls Tryd.prog 158 #[.agg #[.bool b, .string m]] w fun e w' => e = .returned (.int .u8 2) ∧ Below w.heap.size w w' := by
  go_enter Tryd.func158, Tryd.ntmps158
  go_wp2_with fail
  go_ret
  exact ⟨rfl, (Below.refl _ _).alloc (Nat.le_refl _) _⟩
theorem kind_row (k : Nat) (r : ByteArray) (w : World) : Calls Tryd.prog 166 #[.agg #[.int .u8 k, .string r]] w fun e w' => e = .returned (.int .u8 k) ∧ Below w.heap.size w w' := by
  go_enter Tryd.func166, Tryd.ntmps166
  go_wp2_with fail
  go_ret
  exact ⟨rfl, (Below.refl _ _).alloc (Nat.le_refl _) _⟩
theorem kind_tuple (a : Option Addr) (n cap : Nat) (w : World) : Calls Tryd.prog 162 #[.agg #[.slice a n cap]] w fun e w' => e = .returned (.int .u8 7) ∧ Below w.heap.size w w' := by
  go_enter Tryd.func162, Tryd.ntmps162
  go_wp2_with fail
  go_ret
  exact ⟨rfl, (Below.refl _ _).alloc (Nat.le_refl _) _⟩
theorem bytes_row (k : Nat) (r : ByteArray) (w : World) : Calls Tryd.prog 165 #[.agg #[.int .u8 k, .string r]] w fun e w' => e = .returned (.string r) ∧ Below w.heap.size w w' := by
  go_enter Tryd.func165, Tryd.ntmps165
  go_wp2_with fail
  go_ret
  exact ⟨rfl, (Below.refl _ _).alloc (Nat.le_refl _) _⟩
theorem len_tuple (a : Option Addr) (n cap : Nat) (w : World) : Calls Tryd.prog 163 #[.agg #[.slice a n cap]] w fun e w' => e = .returned (.int .i64 n) ∧ Below w.heap.size w w' := by
  go_enter Tryd.func163, Tryd.ntmps163
  go_wp2_with fail
  go_ret
  exact ⟨rfl, (Below.refl _ _).alloc (Nat.le_refl _) _⟩
theorem num_whole (b : Bool) (m : ByteArray) (w : World) : Calls Tryd.prog 159 #[.agg #[.bool b, .string m]] w fun e w' => e = .returned (.agg #[.bool b, .string m]) ∧ Below w.heap.size w w' := by
  go_enter Tryd.func159, Tryd.ntmps159
  go_wp2_with fail
  exact bodyPost_ret (v := .agg #[.bool b, .string m]) (by simp [results, Tryd.results159, go_sem]) rfl ⟨rfl, ((Below.refl _ _).alloc (Nat.le_refl _) _).alloc (by simp) _⟩
theorem at_in (g n cap j : Nat) (u : Value) (w : World) (hn : n ≤ 9223372036854775807) (hj : j < n) (hc : w.cell? ⟨g, j, none⟩ = some u) :
    Calls Tryd.prog 161 #[.agg #[.slice (some ⟨g, 0, none⟩) n cap], .int .i64 j] w fun e w' => e = .returned u ∧ Below w.heap.size w w' := by
  have hlt : g < w.heap.size := World.block_lt_of_cell? w _ hc
  have q1 : decide ((n : Int) ≤ (j : Int)) = false := by simp; omega
  have q2 : decide (n ≤ j) = false := by simp; omega
  go_enter Tryd.func161, Tryd.ntmps161
  go_wp2_with fail
  go_ret
  exact ⟨rfl, (Below.refl _ _).alloc (Nat.le_refl _) _⟩
theorem at_out (a : Option Addr) (n cap : Nat) (i : Int) (w : World) (hi : i < 0 ∨ (n : Int) ≤ i) :
    Calls Tryd.prog 161 #[.agg #[.slice a n cap], .int .i64 i] w fun e w' => e = .returned .nilIface ∧ Below w.heap.size w w' := by
  by_cases h0 : i < 0
  · have q0 : decide (i < 0) = true := by simpa using h0
    clear hi
    go_enter Tryd.func161, Tryd.ntmps161
    go_wp2_with fail
    go_ret
    exact ⟨rfl, (Below.refl _ _).alloc (Nat.le_refl _) _⟩
  · have q0 : decide (i < 0) = false := by simpa using h0
    have q1 : decide ((n : Int) ≤ i) = true := by simp; omega
    clear hi
    go_enter Tryd.func161, Tryd.ntmps161
    go_wp2_with fail
    go_ret
    exact ⟨rfl, (Below.refl _ _).alloc (Nat.le_refl _) _⟩
end Go.Proofs.YtcgphlilijeifaaDoor.V
end
section
/-
  The program's Depth: its contract.
-/
namespace Go.Proofs.YtcgphlilijeifaaDoor.V
open Go.RowKit

set_option maxRecDepth 100000 in
set_option maxHeartbeats 2000000 in
theorem depth_any (p : Pt) : ∀ (v : Value) (w : World), mayB p = true → depthP p ≤ 1000 → VI w 0 w.heap.size p v →
    Calls Tryd.prog 81 #[v] w fun e w' => e = .returned (.int .i64 (depthP p)) ∧ Below w.heap.size w w' := by
  induction p using Pt.ind with
  | h p ih =>
  intro v w hmay hdp hv
  have f1 := has_List_truth
  have f2 := has_List_whole
  have f3 := has_List_row
  have f4 := has_List_tuple
  have f5 := has_List_nil
  by_cases h7 : p.kind = 7
  · have hlen := may_len hmay h7
    have hD : depthP p = depthL p.items + 1 := by rw [depthP_eq, if_pos h7]
    have hdl : depthL p.items ≤ 999 := by omega
    have HD := Lib.hid hD
    obtain ⟨a, cap, F, rfl, hcells, hdeep⟩ : ∃ (a : Option Addr) (cap : Nat) (F : Nat → Value), v = .iface 145 (.agg #[.slice a p.items.length cap]) ∧ (∀ j, j < p.items.length → ∃ g, a = some ⟨g, 0, none⟩ ∧ 0 ≤ g ∧ g < w.heap.size ∧ w.cell? ⟨g, j, none⟩ = some (F j)) ∧ ∀ j (h : j < p.items.length), VI w 0 w.heap.size p.items[j] (F j) := by
      cases hv with
      | null _ h => omega
      | truth _ h => omega
      | whole _ h => omega
      | row _ _ _ _ h => omega
      | tuple _ _ a cap F hc cells deep => exact ⟨a, cap, F, rfl, cells, deep⟩
    have m1 : ∀ w : World, (method 338 145 (.agg #[.slice a p.items.length cap]) "Len").run Tryd.prog w = .ok (163, .agg #[.slice a p.items.length cap]) w := fun _ => by kernel_rfl
    have m2 : ∀ w : World, (method 338 145 (.agg #[.slice a p.items.length cap]) "At").run Tryd.prog w = .ok (161, .agg #[.slice a p.items.length cap]) w := fun _ => by kernel_rfl
    have HC := Lib.hid hcells
    have HDp := Lib.hid hdeep
    have IH := Lib.hid ih
    have HM := Lib.hid hmay
    clear hv hcells hdeep ih hmay h7 hD hdp
    go_enter Tryd.func81, Tryd.ntmps81
    go_wp2_with fail
    refine (len_tuple _ _ _ _).mono ?_
    rintro e w1 ⟨rfl, hb1⟩
    go_wp2_with fail
    go_loopw [5, 16] (fun m i wr => ∃ k : Nat, k ≤ p.items.length ∧ i = .int .i64 k ∧ m = .int .i64 (depthL (p.items.take k)) ∧ Below w.heap.size w wr) (fun _ i _ => p.items.length - (intOf i).toNat)
    case atStart => exact ⟨0, Nat.zero_le _, rfl, by rw [List.take_zero, depthL_nil]; rfl, hb1⟩
    case round =>
      clear hb1
      obtain ⟨k, hkl, rfl, rfl, hB⟩ := hrel
      have hdk := depthL_take_le p.items k
      by_cases hlt : k < p.items.length
      · have q3 : decide (k < p.items.length) = true := by simpa using hlt
        obtain ⟨g0, rfl, _, hg0, hcell⟩ := HC.out k hlt
        have HE := Lib.hid (depthL_take hlt)
        have hmem : p.items[k] ∈ p.items := List.getElem_mem _
        have hdq := depthL_mem hmem
        have hvi := Lib.hid (HDp.out k hlt)
        obtain ⟨q, hq⟩ : ∃ q, p.items[k] = q := ⟨_, rfl⟩
        rw [hq] at HE hmem hdq hvi
        have hmq := Lib.hid (mayB_item HM.out hmem)
        have hcell2 := Lib.hid (keep hB hg0 hcell)
        obtain ⟨M, hM⟩ : ∃ M, depthL (p.items.take k) = M := ⟨_, rfl⟩
        rw [hM] at hdk HE ⊢
        clear hM hq hcell
        go_wp2_with fail
        refine (at_in g0 _ cap k (F k) _ (by omega) hlt hcell2.out).mono ?_
        rintro e w2 ⟨rfl, hb2⟩
        have hB2 := hB.trans (hb2.mono hB.size)
        go_wp2_with fail
        refine (IH.out q hmem (F k) _ hmq.out (by omega) (hvi.out.later hB2)).mono ?_
        rintro e w3 ⟨rfl, hb3⟩
        have hB3 := hB2.trans (hb3.mono hB2.size)
        clear hB hB2 hb2 hb3
        go_wp2_with fail
        refine ⟨⟨k + 1, by omega, rfl, ?_, hB3⟩, by simp [intOf]; omega⟩
        rw [HE.out]
        exact congrArg (Value.int .i64) (by split <;> omega)
      · have q3 : decide (k < p.items.length) = false := by simpa using hlt
        have HT := Lib.hid (show p.items.take k = p.items from List.take_of_length_le (by omega))
        go_wp2_with fail
        go_ret
        exact ⟨by rw [HD.out, HT.out]; rfl, hB⟩
  · have HD := Lib.hid (show depthP p = 0 by rw [depthP_eq, if_neg h7])
    clear hmay hdp ih
    cases hv with
    | null _ h =>
      clear h h7
      go_enter Tryd.func81, Tryd.ntmps81
      go_wp2_with fail
      go_ret
      exact ⟨by rw [HD.out]; rfl, Below.refl _ _⟩
    | truth _ h =>
      clear h h7
      go_enter Tryd.func81, Tryd.ntmps81
      go_wp2_with fail
      go_ret
      exact ⟨by rw [HD.out]; rfl, Below.refl _ _⟩
    | whole _ h =>
      clear h h7
      go_enter Tryd.func81, Tryd.ntmps81
      go_wp2_with fail
      go_ret
      exact ⟨by rw [HD.out]; rfl, Below.refl _ _⟩
    | row _ h0 h1 h2 h =>
      clear h0 h1 h2 h h7
      go_enter Tryd.func81, Tryd.ntmps81
      go_wp2_with fail
      go_ret
      exact ⟨by rw [HD.out]; rfl, Below.refl _ _⟩
    | tuple _ h a cap F hc cells deep => exact absurd h h7
theorem Depth_any (p : Pt) (v : Value) (w : World) (hmay : mayB p = true) (hdp : depthP p ≤ 1000) (hv : VI w 0 w.heap.size p v) :
    Calls Tryd.prog 41 #[v] w fun e w' => e = .returned (.int .i64 (depthP p)) ∧ Below w.heap.size w w' := by
  have HM := Lib.hid hmay
  have HV := Lib.hid hv
  clear hmay hv
  go_enter Tryd.func41, Tryd.ntmps41
  go_wp2_with fail
  refine (depth_any p v _ HM.out hdp HV.out).mono ?_
  rintro e w1 ⟨rfl, hb1⟩
  go_wp2_with fail
  go_ret
  exact ⟨rfl, hb1⟩
end Go.Proofs.YtcgphlilijeifaaDoor.V
end
