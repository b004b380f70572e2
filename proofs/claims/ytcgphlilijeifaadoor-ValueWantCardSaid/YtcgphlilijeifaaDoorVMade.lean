/-
  The program's made and Make: their contracts.
-/
import Derived.Test.YtcgphlilijeifaaDoorVRefB
import Derived.Deep.AppendLies
import Derived.Deep.RegionLaw
namespace Go.Proofs.YtcgphlilijeifaaDoor.V
open Go.RowKit

theorem infoV : (Tryd.prog.info? 33).map (fun i => (i.zero, i.size, i.bytes)) = some (some .nilIface, 1, 16) := by kernel_rfl

/-- The values us stand for the parts l; each one's memory lies from base on, behind hi nothing, none of it in block g. -/
def Vals (w : World) (base : Nat) (g : Option Nat) (l : List Pt) (us : List Value) : Prop :=
  us.length = l.length ∧ ∀ j (h : j < l.length), ∃ u lo hi, us[j]? = some u ∧ VI w lo hi l[j] u ∧ base ≤ lo ∧ hi ≤ w.heap.size ∧ ∀ k, g = some k → k < lo ∨ hi ≤ k
theorem Vals.nil (w : World) (base : Nat) (g : Option Nat) : Vals w base g [] [] := ⟨rfl, fun j h => by cases h⟩
theorem Vals.below {w w' : World} {base : Nat} {g : Option Nat} {l : List Pt} {us : List Value} (h : Vals w base g l us) (hb : Below w.heap.size w w') : Vals w' base g l us :=
  ⟨h.1, fun j hj => by
    obtain ⟨u, lo, hi, h1, h2, h3, h4, h5⟩ := h.2 j hj
    exact ⟨u, lo, hi, h1, h2.same (Same.of_below hb h4), h3, Nat.le_trans h4 hb.size, h5⟩⟩
/-- Behind an append: one more. -/
theorem Vals.snoc {w w' : World} {base g lo hi : Nat} {v : Value} {l : List Pt} {us : List Value} {p : Pt} {u : Value} (h : Vals w base v.ownBlock l us) (hu : VI w lo hi p u) (h1 : base ≤ lo) (h2 : hi ≤ w.heap.size)
    (hv : ∀ k, v.ownBlock = some k → k < lo ∨ hi ≤ k) (hg : w.grownBy w' v.ownBlock) (hw : v.ownBlock = some g ∨ w.heap.size ≤ g) : Vals w' base (some g) (l ++ [p]) (us ++ [u]) := by
  have same : ∀ lo hi, hi ≤ w.heap.size → (∀ k, v.ownBlock = some k → k < lo ∨ hi ≤ k) → Same lo hi w w' := fun lo hi a b k c d => hg.block k (by omega) (fun e => by have := b k e.symm; omega)
  have out : ∀ lo hi, hi ≤ w.heap.size → (∀ k, v.ownBlock = some k → k < lo ∨ hi ≤ k) → ∀ k, some g = some k → k < lo ∨ hi ≤ k := fun lo hi a b k e => by
    have e := Option.some.inj e
    subst e
    rcases hw with e | e
    · exact b _ e
    · exact .inr (by omega)
  refine ⟨by simp [h.1], fun j hj => ?_⟩
  by_cases hjl : j < l.length
  · obtain ⟨x, lo2, hi2, a1, a2, a3, a4, a5⟩ := h.2 j hjl
    refine ⟨x, lo2, hi2, ?_, ?_, a3, Nat.le_trans a4 hg.size, out _ _ a4 a5⟩
    · rw [List.getElem?_append_left (by rw [h.1]; exact hjl)]; exact a1
    · rw [List.getElem_append_left hjl]; exact a2.same (same _ _ a4 a5)
  · have hje : j = l.length := by simp at hj; omega
    subst hje
    refine ⟨u, lo, hi, ?_, ?_, h1, Nat.le_trans h2 hg.size, out _ _ h2 hv⟩
    · rw [List.getElem?_append_right (by rw [h.1]; exact Nat.le_refl _), h.1]; simp
    · rw [List.getElem_append_right (Nat.le_refl _)]; simpa using hu.same (same _ _ h2 hv)

theorem undrew {w w' : World} (h : Below w.drew.heap.size w.drew w') : Below w.heap.size w w' := ⟨h.os, h.tape, h.output, h.size, h.block⟩
theorem one_cell (w : World) (x : Value) (T : TypeId) : ∀ j u, [x][j]? = some u → (w.alloc (.cells #[x] T)).cell? ((⟨w.heap.size, 0, none⟩ : Addr).add j) = some u := by
  intro j u hj
  match j, hj with
  | 0, hj => simp at hj; subst hj; simp [Addr.add]
theorem own_below {w w' : World} {base : Nat} {e : TypeId} {v : Value} {n : Nat} {us : List Value} (h : w.ownsRow base e 1 v n us) (hb : Below w.heap.size w w') : w'.ownsRow base e 1 v n us := by
  refine ⟨h.1, ?_⟩
  rcases h.2 with hn | ⟨g, cap, cur, rfl, hg, hgg, rest⟩
  · exact .inl hn
  · exact .inr ⟨g, cap, cur, rfl, hg, (hb.block g (Array.getElem?_eq_some_iff.1 hgg).1).trans hgg, rest⟩
theorem own_cell {w w3 : World} {ob : Obj} {base : Nat} {e : TypeId} {v u : Value} {n b o : Nat} {us : List Value} (h : w.ownsRow base e 1 v n us) (hg : (w.alloc ob).grownBy w3 v.ownBlock) (hb : b < base) (hc : w.cell? ⟨b, o, none⟩ = some u) : w3.cell? ⟨b, o, none⟩ = some u := by
  have hlt : b < w.heap.size := World.block_lt_of_cell? w _ hc
  refine (World.cell?_of_block (hg.block b (by simp; omega) (fun e => by have := (World.ownsRow.lt h b e.symm).1; omega))).trans ?_
  exact (World.cell?_of_block (Below.heap_alloc w ob b hlt)).trans hc
theorem own_frozen {w w3 : World} {ob : Obj} {base : Nat} {e : TypeId} {v : Value} {n b o : Nat} {us : List Value} (h : w.ownsRow base e 1 v n us) (hg : (w.alloc ob).grownBy w3 v.ownBlock) (hb : b < base) (hlt : b < w.heap.size) (hc : w.frozen? ⟨b, o, none⟩ = false) : w3.frozen? ⟨b, o, none⟩ = false := by
  refine (World.frozen?_of_block (hg.block b (by simp; omega) (fun e => by have := (World.ownsRow.lt h b e.symm).1; omega))).trans ?_
  exact (World.frozen?_of_block (Below.heap_alloc w ob b hlt)).trans hc
theorem may_len {p : Pt} (h : mayB p = true) (h7 : p.kind = 7) : p.items.length ≤ 1024 := by
  have h1 := mayB_ok h
  unfold okOne at h1
  simp only [h7, Bool.and_eq_true] at h1
  have h2 := h1.2
  simp at h2
  exact h2.2
theorem VI.nilOf {w : World} {lo hi : Nat} {p : Pt} {v : Value} (h : VI w lo hi p v) (h0 : p.kind = 0) : v = .nilIface := by
  cases h with
  | null _ _ => rfl
  | truth _ h => omega
  | whole _ h => omega
  | row _ h _ _ _ => omega
  | tuple _ h _ _ _ _ _ _ => omega
theorem VI.ifaceOf {w : World} {lo hi : Nat} {p : Pt} {v : Value} (h : VI w lo hi p v) (h0 : p.kind ≠ 0) : ∃ T V, v = .iface T V := by
  cases h with
  | null _ h => omega
  | truth _ h => exact ⟨_, _, rfl⟩
  | whole _ h => exact ⟨_, _, rfl⟩
  | row _ h _ _ _ => exact ⟨_, _, rfl⟩
  | tuple _ h _ _ _ _ _ _ => exact ⟨_, _, rfl⟩
/-- What a round leaves. -/
theorem made_step {W1 w2 w3 : World} {T g cap k : Nat} {s x y : Value} {q : Pt} {l : List Pt} {us : List Value} (ob : Obj) (hO1 : W1.ownsRow (T + 1) 33 1 s k us) (hV1 : Vals W1 (T + 1) s.ownBlock l us)
    (hx : VI w2 W1.heap.size w2.heap.size q x) (hb2 : Below W1.heap.size W1 w2) (hg : (w2.alloc ob).grownBy w3 s.ownBlock) (hl : s.ownBlock = some g ∨ g = (w2.alloc ob).heap.size)
    (hO3 : w3.ownsRow (T + 1) 33 1 (.slice (some ⟨g, 0, none⟩) (k + 1) cap) (k + 1) (us ++ [x])) (hT : T + 1 ≤ W1.heap.size) :
    (w3.setCell ⟨T, 0, none⟩ y).ownsRow (T + 1) 33 1 (.slice (some ⟨g, 0, none⟩) (k + 1) cap) (k + 1) (us ++ [x]) ∧ Vals (w3.setCell ⟨T, 0, none⟩ y) (T + 1) (some g) (l ++ [q]) (us ++ [x]) ∧
      Below T W1 (w3.setCell ⟨T, 0, none⟩ y) ∧ W1.heap.size ≤ (w3.setCell ⟨T, 0, none⟩ y).heap.size := by
  have hba : Below W1.heap.size W1 (w2.alloc ob) := hb2.alloc hb2.size ob
  have hown : ∀ k, s.ownBlock = some k → T + 1 ≤ k ∧ k < W1.heap.size := World.ownsRow.lt hO1
  have hV := hV1.below hba
  have hxa : VI (w2.alloc ob) W1.heap.size w2.heap.size q x := hx.same (Same.of_below ((Below.refl w2.heap.size w2).alloc (Nat.le_refl _) ob) (Nat.le_refl _))
  have hV3 := Vals.snoc (v := s) (g := g) hV hxa hT (by simp) (fun k hk => .inl (hown k hk).2) hg (by rcases hl with h | h; exact .inl h; exact .inr (Nat.le_of_eq h.symm))
  refine ⟨ownsRow_setCell_below hO3 (by simp) y, ⟨hV3.1, fun j hj => ?_⟩, ?_, ?_⟩
  · obtain ⟨u, lo, hi, h1, h2, h3, h4, h5⟩ := hV3.2 j hj
    exact ⟨u, lo, hi, h1, h2.same (fun k a b => Below.heap_setCell _ _ _ _ (by simp; omega)), h3, by simpa [World.setCell] using h4, h5⟩
  · exact (((hba.mono (B' := T) (by omega)).grown hg (by have := hb2.size; simp; omega) (fun k hk => by have := hown k hk; omega))).setCell (Nat.le_refl _) y
  · have h1 := hg.size
    have h2 := hb2.size
    have h3 : (w2.alloc ob).heap.size = w2.heap.size + 1 := by simp
    have h4 : (w3.setCell ⟨T, 0, none⟩ y).heap.size = w3.heap.size := by simp [World.setCell]
    omega
def MadePost (p : Pt) (w : World) (e : Ending) (w' : World) : Prop := ∃ u, e = .returned u ∧ VI w' w.heap.size w'.heap.size p u ∧ Below w.heap.size w w'
theorem made_end {p : Pt} {w : World} {u : Value} (h : VI w w.heap.size w.heap.size p u) (ob : Obj) (_h1 : True) (_h2 : True) : MadePost p w (.returned u) (w.alloc ob) :=
  ⟨u, rfl, (h.same (fun k a b => by omega)).wide (Nat.le_refl _) (by simp), (Below.refl _ _).alloc (Nat.le_refl _) _⟩
theorem may_kind7 {p : Pt} (h : mayB p = true) : p.kind ≤ 7 := by
  have h1 := mayB_ok h
  unfold okOne at h1
  simp only [Bool.and_eq_true, decide_eq_true_eq] at h1
  exact h1.1.1.1.1
theorem own_form {w : World} {base : Nat} {e : TypeId} {v : Value} {n : Nat} {us : List Value} (h : w.ownsRow base e 1 v n us) : ∃ a cap, v = .slice a n cap := by
  rcases h.2 with ⟨rfl, rfl⟩ | ⟨g, cap, cur, rfl, _⟩
  · exact ⟨none, 0, rfl⟩
  · exact ⟨_, cap, rfl⟩
/-- The list that was made, as a value. -/
theorem vals_tuple {w : World} {base : Nat} {p : Pt} {s : Value} {us : List Value} (h7 : p.kind = 7) (hO : w.ownsRow base 33 1 s p.items.length us) (hV : Vals w base s.ownBlock p.items us) :
    VI w base w.heap.size p (.iface 145 (.agg #[s])) := by
  have hd : ∀ j (h : j < p.items.length), VI w base w.heap.size p.items[j] (us.getD j .nilIface) := fun j hj => by
    obtain ⟨u, lo, hi, h1, h2, h3, h4, _⟩ := hV.2 j hj
    rw [List.getD, h1]
    exact h2.wide h3 h4
  rcases hO.2 with ⟨rfl, hn⟩ | ⟨g, cap, cur, rfl, hg, hgg, hnc, _⟩
  · rw [show Value.slice none 0 0 = Value.slice none p.items.length 0 from by rw [hn]]
    exact VI.tuple p h7 none 0 (fun j => us.getD j .nilIface) (by omega) (fun j hj => by omega) hd
  · refine VI.tuple p h7 _ cap (fun j => us.getD j .nilIface) hnc (fun j hj => ⟨g, rfl, hg, (Array.getElem?_eq_some_iff.1 hgg).1, ?_⟩) hd
    have hj2 : j < us.length := by rw [hV.1]; exact hj
    have := World.ownsRow.cells hO (g := g) rfl j (us.getD j .nilIface) (by rw [List.getD, List.getElem?_eq_getElem hj2]; rfl)
    have e : (⟨g, 0, none⟩ : Addr).add j = ⟨g, j, none⟩ := by unfold Addr.add; split <;> simp_all
    rw [e] at this
    exact this

set_option maxRecDepth 100000 in
set_option maxHeartbeats 2000000 in
theorem made_any (p : Pt) : ∀ (v : Value) (w : World), mayB p = true → Fit p → PI w 0 w.heap.size p.items v →
    Calls Tryd.prog 49 #[.agg #[.int .u8 p.kind, .bool p.yes, .bool p.neg, .string p.mag, .string p.raw, v]] w (MadePost p w) := by
  induction p using Pt.ind with
  | h p ih =>
  intro v w hmay hf hp
  obtain ⟨a, cap, rfl, _, hat⟩ := hp.open
  by_cases h7 : p.kind = 7
  · have e0 : ((p.kind : Int) == 0) = false := beq_eq_false_iff_ne.2 (by omega)
    have e1 : ((p.kind : Int) == 1) = false := beq_eq_false_iff_ne.2 (by omega)
    have e2 : ((p.kind : Int) == 2) = false := beq_eq_false_iff_ne.2 (by omega)
    have e7 : ((p.kind : Int) == 7) = true := beq_iff_eq.2 (by omega)
    have HA := Lib.hid hat
    have IH := Lib.hid ih
    have hlen := may_len hmay h7
    have HM := Lib.hid hmay
    have H7 := Lib.hid h7
    have hl := hf.l
    clear hat ih hp hmay h7
    go_enter Tryd.func49, Tryd.ntmps49
    go_wp2_with fail
    go_loopw [27] (fun i wr => ∃ (k : Nat) (s : Value) (us : List Value), k ≤ p.items.length ∧ i = .int .i64 k ∧ wr.cell? ⟨w.heap.size + 1, 0, none⟩ = some s ∧ wr.frozen? ⟨w.heap.size + 1, 0, none⟩ = false ∧
      wr.ownsRow (w.heap.size + 2) 33 1 s k us ∧ RowKit.Hid (Vals wr (w.heap.size + 2) s.ownBlock (p.items.take k) us) ∧ Below w.heap.size w wr ∧ w.heap.size + 2 ≤ wr.heap.size) (fun i _ => p.items.length - (intOf i).toNat)
    case atStart => exact ⟨0, .slice none 0 0, [], Nat.zero_le _, rfl, by simp, by simp, World.ownsRow_nil _ _ _ _, Vals.nil _ _ _, ((Below.refl _ _).alloc (Nat.le_refl _) _).alloc (by simp) _, by simp⟩
    case round =>
      obtain ⟨k, s, us, hkl, rfl, hts, htf, hO, HV, hB, hsz⟩ := hrel
      by_cases hlt : k < p.items.length
      · have q3 : decide (k < p.items.length) = true := by simpa using hlt
        obtain ⟨b, off, u, rfl, _, hb, hc, hfit, hpi⟩ := HA.out k hlt
        obtain ⟨d0, d1, d2, d3, d4, d5⟩ := hc.same (Same.of_below hB (Nat.le_refl _)) (Nat.zero_le _) hb
        have hmem : p.items[k] ∈ p.items := List.getElem_mem _
        have hmq := Lib.hid (mayB_item HM.out hmem)
        obtain ⟨q, hq⟩ : ∃ q, p.items[k] = q := ⟨_, rfl⟩
        rw [hq] at d0 d1 d2 d3 d4 hfit hpi hmem hmq
        have HQ := Lib.hid hq
        clear hq
        obtain ⟨a2, cap2, rfl, _, _⟩ := hpi.open
        have hpi2 := Lib.hid hpi
        clear hc hpi
        go_wp2_with fail
        obtain ⟨W1, hW1⟩ : ∃ W1, W1 = wr.alloc (.cells #[.int .u8 q.kind, .bool q.yes, .bool q.neg, .string q.mag, .string q.raw, .slice a2 q.items.length cap2] 27) := ⟨_, rfl⟩
        have hB1 : Below wr.heap.size wr W1 := by rw [hW1]; exact (Below.refl _ _).alloc (Nat.le_refl _) _
        have hO1 : W1.ownsRow (w.heap.size + 2) 33 1 s k us := by rw [hW1]; exact hO.alloc _
        have hV1 := Lib.hid (HV.out.below hB1)
        have t1 : W1.cell? ⟨w.heap.size + 1, 0, none⟩ = some s := keep hB1 (by omega) hts
        have t2 : W1.frozen? ⟨w.heap.size + 1, 0, none⟩ = false := (hB1.frozen (p := ⟨w.heap.size + 1, 0, none⟩) (by simp; omega)).trans htf
        have x0 : W1.cell? ⟨wr.heap.size, 0, none⟩ = some (.int .u8 q.kind) := by rw [hW1]; simp
        have x1 : W1.cell? ⟨wr.heap.size, 1, none⟩ = some (.bool q.yes) := by rw [hW1]; simp
        have x2 : W1.cell? ⟨wr.heap.size, 2, none⟩ = some (.bool q.neg) := by rw [hW1]; simp
        have x3 : W1.cell? ⟨wr.heap.size, 3, none⟩ = some (.string q.mag) := by rw [hW1]; simp
        have x4 : W1.cell? ⟨wr.heap.size, 4, none⟩ = some (.string q.raw) := by rw [hW1]; simp
        have x5 : W1.cell? ⟨wr.heap.size, 5, none⟩ = some (.slice a2 q.items.length cap2) := by rw [hW1]; simp
        have hBW : Below w.heap.size w W1 := hB.trans (hB1.mono (by omega))
        have hpi3 := Lib.hid (show PI W1.drew 0 W1.drew.heap.size q.items (.slice a2 q.items.length cap2) from hpi2.out.later hBW.drew)
        have hWs : w.heap.size + 2 ≤ W1.heap.size := by have := hB1.size; omega
        have hWa : w.heap.size + 1 < w.heap.size + 2 := by omega
        have hWl : w.heap.size + 1 < W1.heap.size := by omega
        rw [← hW1]
        clear hW1 hB1 hB hO HV hts htf d0 d1 d2 d3 d4 d5 hb hpi2
        obtain ⟨i0, hi, hz0, hz1, hz2⟩ := info_parts infoV
        by_cases hq0 : q.kind = 0
        · have HQ0 := Lib.hid hq0
          clear hq0
          go_region_law (first
            | (go_simp; go_at_call 49; refine (IH.out q hmem _ _ hmq.out hfit (by exact hpi3.out)).mono ?_; rintro e w2 ⟨x, rfl, hx, hb0⟩; have hb2 := undrew hb0; have hxe := hx.nilOf HQ0.out; rw [hxe] at hx ⊢; clear hxe; have hx2 := Lib.hid hx; have hO2 := own_below hO1 hb2; have s2 := keep hb2 hWl t1; have f2 : w2.frozen? ⟨w.heap.size + 1, 0, none⟩ = false := (hb2.frozen (p := ⟨w.heap.size + 1, 0, none⟩) hWl).trans t2; have hWm : w.heap.size + 1 < w2.heap.size := Nat.lt_of_lt_of_le hWl hb2.size; clear hx)
            | (refine step_append_lies _ rfl (.tmp 32) (.tmp 35) 143 rfl (w.heap.size + 2) 33 i0 .nilIface 1 16 Tryd.underlying143 hi hz0 hz1 hz2 rfl (by decide) s k us (by simp [Act.eval, Act.put]) (hO2.alloc _) ⟨w2.heap.size, 0, none⟩ 1 1 [.nilIface] (by simp [Act.eval, Act.put]) rfl (one_cell w2 _ _) (by intro y hy; simp at hy; subst hy; rfl) (by decide) (by unfold maxLen; omega) (by omega) (by simp; omega) _ rfl ?_; intro g cap3 w3 hO3 hg3 hlies hgl; have s3 := own_cell hO2 hg3 hWa s2; have f3 := own_frozen hO2 hg3 hWa hWm f2))
          all_goals
            go_wp2_with fail
            have ST := made_step _ hO1 hV1.out hx2.out hb2 hg3 hlies hO3 (by omega) (y := .slice (some ⟨g, 0, none⟩) (k + 1) cap3)
            have HT : p.items.take (k + 1) = p.items.take k ++ [q] := by rw [List.take_succ_eq_append_getElem hlt, HQ.out]
            refine ⟨⟨k + 1, .slice (some ⟨g, 0, none⟩) (k + 1) cap3, _, by omega, rfl, World.cell?_setCell_same w3 _ _ s3, (World.frozen?_setCell ..).trans f3, ST.1, Lib.hid (by rw [HT]; exact ST.2.1), hBW.trans (ST.2.2.1.mono (by omega)), by have := ST.2.2.2; omega⟩, by simp [intOf]; omega⟩
        · have HQ0 := Lib.hid hq0
          clear hq0
          go_region_law (first
            | (go_simp; go_at_call 49; refine (IH.out q hmem _ _ hmq.out hfit (by exact hpi3.out)).mono ?_; rintro e w2 ⟨x, rfl, hx, hb0⟩; have hb2 := undrew hb0; obtain ⟨T0, V0, hxe⟩ := hx.ifaceOf HQ0.out; rw [hxe] at hx ⊢; clear hxe; have hx2 := Lib.hid hx; have hO2 := own_below hO1 hb2; have s2 := keep hb2 hWl t1; have f2 : w2.frozen? ⟨w.heap.size + 1, 0, none⟩ = false := (hb2.frozen (p := ⟨w.heap.size + 1, 0, none⟩) hWl).trans t2; have hWm : w.heap.size + 1 < w2.heap.size := Nat.lt_of_lt_of_le hWl hb2.size; clear hx)
            | (refine step_append_lies _ rfl (.tmp 32) (.tmp 35) 143 rfl (w.heap.size + 2) 33 i0 .nilIface 1 16 Tryd.underlying143 hi hz0 hz1 hz2 rfl (by decide) s k us (by simp [Act.eval, Act.put]) (hO2.alloc _) ⟨w2.heap.size, 0, none⟩ 1 1 [.iface T0 V0] (by simp [Act.eval, Act.put]) rfl (one_cell w2 _ _) (by intro y hy; simp at hy; subst hy; rfl) (by decide) (by unfold maxLen; omega) (by omega) (by simp; omega) _ rfl ?_; intro g cap3 w3 hO3 hg3 hlies hgl; have s3 := own_cell hO2 hg3 hWa s2; have f3 := own_frozen hO2 hg3 hWa hWm f2))
          all_goals
            go_wp2_with fail
            have ST := made_step _ hO1 hV1.out hx2.out hb2 hg3 hlies hO3 (by omega) (y := .slice (some ⟨g, 0, none⟩) (k + 1) cap3)
            have HT : p.items.take (k + 1) = p.items.take k ++ [q] := by rw [List.take_succ_eq_append_getElem hlt, HQ.out]
            refine ⟨⟨k + 1, .slice (some ⟨g, 0, none⟩) (k + 1) cap3, _, by omega, rfl, World.cell?_setCell_same w3 _ _ s3, (World.frozen?_setCell ..).trans f3, ST.1, Lib.hid (by rw [HT]; exact ST.2.1), hBW.trans (ST.2.2.1.mono (by omega)), by have := ST.2.2.2; omega⟩, by simp [intOf]; omega⟩
      · have q3 : decide (k < p.items.length) = false := by simpa using hlt
        have hkl2 : k = p.items.length := by omega
        have hT : p.items.take k = p.items := List.take_of_length_le (by omega)
        rw [hT] at HV
        obtain ⟨a9, cap9, hs9⟩ := own_form hO
        have hVI := Lib.hid (vals_tuple H7.out (hkl2 ▸ hO) HV.out)
        rw [hs9] at hts hVI
        rw [hkl2] at hts hVI
        clear hT hO HV hs9
        subst hkl2
        go_wp2_with fail
        go_ret
        exact ⟨_, rfl, hVI.out.wide (by omega) (Nat.le_refl _), hB⟩
  · have hk := may_kind7 hmay
    have H7 := Lib.hid h7
    rcases (show p.kind = 0 ∨ p.kind = 1 ∨ p.kind = 2 ∨ (p.kind ≠ 0 ∧ p.kind ≠ 1 ∧ p.kind ≠ 2 ∧ p.kind ≠ 7) by omega) with h | h | h | ⟨h0, h1, h2, h7⟩
    · have HV := Lib.hid (VI.null (w := w) (lo := w.heap.size) (hi := w.heap.size) p h)
      have e0 : ((p.kind : Int) == 0) = true := beq_iff_eq.2 (by omega)
      clear h h7 hmay
      go_enter Tryd.func49, Tryd.ntmps49
      go_wp2_with fail
      go_ret
      exact made_end HV.out _ (by simp) (by simp)
    · have HV := Lib.hid (VI.truth (w := w) (lo := w.heap.size) (hi := w.heap.size) p h)
      have e0 : ((p.kind : Int) == 0) = false := beq_eq_false_iff_ne.2 (by omega)
      have e1 : ((p.kind : Int) == 1) = true := beq_iff_eq.2 (by omega)
      clear h h7 hmay
      go_enter Tryd.func49, Tryd.ntmps49
      go_wp2_with fail
      go_ret
      exact made_end HV.out _ (by simp) (by simp)
    · have HV := Lib.hid (VI.whole (w := w) (lo := w.heap.size) (hi := w.heap.size) p h)
      have e0 : ((p.kind : Int) == 0) = false := beq_eq_false_iff_ne.2 (by omega)
      have e1 : ((p.kind : Int) == 1) = false := beq_eq_false_iff_ne.2 (by omega)
      have e2 : ((p.kind : Int) == 2) = true := beq_iff_eq.2 (by omega)
      clear h h7 hmay
      go_enter Tryd.func49, Tryd.ntmps49
      go_wp2_with fail
      go_ret
      exact made_end HV.out _ (by simp) (by simp)
    · have HV := Lib.hid (VI.row (w := w) (lo := w.heap.size) (hi := w.heap.size) p h0 h1 h2 h7)
      have e0 : ((p.kind : Int) == 0) = false := beq_eq_false_iff_ne.2 (by omega)
      have e1 : ((p.kind : Int) == 1) = false := beq_eq_false_iff_ne.2 (by omega)
      have e2 : ((p.kind : Int) == 2) = false := beq_eq_false_iff_ne.2 (by omega)
      have e7 : ((p.kind : Int) == 7) = false := beq_eq_false_iff_ne.2 (by omega)
      clear h0 h1 h2 h7 hmay
      go_enter Tryd.func49, Tryd.ntmps49
      go_wp2_with fail
      go_ret
      exact made_end HV.out _ (by simp) (by simp)
end Go.Proofs.YtcgphlilijeifaaDoor.V
