/-
  The program's Tell, and the values' own Part: their contracts.
-/
import Derived.Test.YtcgphlilijeifaaDoorVKids
namespace Go.Proofs.YtcgphlilijeifaaDoor.V
open Go.RowKit

theorem infoP : (Tryd.prog.info? 27).map (fun i => (i.zero, i.size, i.bytes)) = some (some (.agg #[.int .u8 0, .bool false, .bool false, .string ⟨#[]⟩, .string ⟨#[]⟩, .slice none 0 0]), 6, 72) := by kernel_rfl
theorem own_below6 {w w' : World} {base : Nat} {e : TypeId} {v : Value} {n : Nat} {us : List Value} (h : w.ownsRow base e 6 v n us) (hb : Below w.heap.size w w') : w'.ownsRow base e 6 v n us := by
  refine ⟨h.1, ?_⟩
  rcases h.2 with hn | ⟨g, cap, cur, rfl, hg, hgg, rest⟩
  · exact .inl hn
  · exact .inr ⟨g, cap, cur, rfl, hg, (hb.block g (Array.getElem?_eq_some_iff.1 hgg).1).trans hgg, rest⟩
theorem own_cell6 {w w3 : World} {ob : Obj} {base : Nat} {e : TypeId} {v u : Value} {n b o : Nat} {us : List Value} (h : w.ownsRow base e 6 v n us) (hg : (w.alloc ob).grownBy w3 v.ownBlock) (hb : b < base) (hc : w.cell? ⟨b, o, none⟩ = some u) : w3.cell? ⟨b, o, none⟩ = some u := by
  have hlt : b < w.heap.size := World.block_lt_of_cell? w _ hc
  refine (World.cell?_of_block (hg.block b (by simp; omega) (fun e => by have := (World.ownsRow.lt h b e.symm).1; omega))).trans ?_
  exact (World.cell?_of_block (Below.heap_alloc w ob b hlt)).trans hc
theorem own_frozen6 {w w3 : World} {ob : Obj} {base : Nat} {e : TypeId} {v : Value} {n b o : Nat} {us : List Value} (h : w.ownsRow base e 6 v n us) (hg : (w.alloc ob).grownBy w3 v.ownBlock) (hb : b < base) (hlt : b < w.heap.size) (hc : w.frozen? ⟨b, o, none⟩ = false) : w3.frozen? ⟨b, o, none⟩ = false := by
  refine (World.frozen?_of_block (hg.block b (by simp; omega) (fun e => by have := (World.ownsRow.lt h b e.symm).1; omega))).trans ?_
  exact (World.frozen?_of_block (Below.heap_alloc w ob b hlt)).trans hc
theorem own_form6 {w : World} {base : Nat} {e : TypeId} {v : Value} {n : Nat} {us : List Value} (h : w.ownsRow base e 6 v n us) : ∃ a cap, v = .slice a n cap := by
  rcases h.2 with ⟨rfl, rfl⟩ | ⟨g, cap, cur, rfl, _⟩
  · exact ⟨none, 0, rfl⟩
  · exact ⟨_, cap, rfl⟩
theorem OwnI.form {w : World} {m : Bool} {lo hi : Nat} {l : List Pt} {v : Value} (h : OwnI w m lo hi l v) : ∃ a cap, v = .slice a l.length cap := by
  cases h with
  | nil _ _ _ => exact ⟨none, 0, rfl⟩
  | row _ _ _ g cap => exact ⟨_, cap, rfl⟩
/-- The six cells of a part that was laid. -/
theorem six_cells (w : World) (cs : Array Value) (T : TypeId) (hn : cs.size = 6) : ∀ j u, cs.toList[j]? = some u → (w.alloc (.cells cs T)).cell? ((⟨w.heap.size, 0, none⟩ : Addr).add j) = some u := by
  intro j u hj
  have e2 : (⟨w.heap.size, 0, none⟩ : Addr).add j = ⟨w.heap.size, j, none⟩ := by unfold Addr.add; split <;> simp_all
  rw [e2]
  have := cell_of_row (w.alloc (.cells cs T)) w.heap.size j cs T (0, 0) (heap_alloc_new w _)
  rw [this, ← hj, Array.getElem?_toList]

theorem Same.setCell {lo hi b c : Nat} {w : World} {u : Value} (h : b < lo) : Same lo hi w (w.setCell ⟨b, c, none⟩ u) := fun k h1 _ => Below.heap_setCell _ _ _ _ (by simp; omega)
theorem ba_nil {b : ByteArray} (h : b.toList.isEmpty = true) : b = ⟨#[]⟩ := ba_same (by rw [List.isEmpty_iff.1 h, Lib.toList_data])
theorem canon7 {p : Pt} (h : mayB p = true) (h7 : p.kind = 7) : p.yes = false ∧ p.neg = false ∧ p.mag = ⟨#[]⟩ ∧ p.raw = ⟨#[]⟩ := by
  have h1 := mayB_ok h
  unfold okOne at h1
  simp only [h7, Bool.and_eq_true] at h1
  obtain ⟨⟨⟨⟨_, h2⟩, h3⟩, _⟩, h5⟩ := h1
  simp only [Nat.reduceEqDiff, if_false, if_true, false_or, Nat.reduceBEq, Bool.false_or, Bool.and_eq_true, Bool.not_eq_true'] at h2 h3 h5
  exact ⟨h2, h3.1, ba_nil h3.2, ba_nil (by simpa using h5.1)⟩
/-- What a round leaves. -/
theorem kids_step {W1 w2 w3 : World} {T g cap k c : Nat} {s iv y : Value} {q : Pt} {ps : List (Pt × Value)} (ob : Obj) (hO1 : W1.ownsRow (T + 1) 27 6 s k (flat ps)) (hK1 : Kids W1 (T + 1) s.ownBlock ps)
    (hx : OwnI w2 false W1.heap.size w2.heap.size q.items iv) (hf : Fit q) (hb2 : Below W1.heap.size W1 w2) (hg : (w2.alloc ob).grownBy w3 s.ownBlock) (hl : s.ownBlock = some g ∨ g = (w2.alloc ob).heap.size)
    (hO3 : w3.ownsRow (T + 1) 27 6 (.slice (some ⟨g, 0, none⟩) (k + 1) cap) (k + 1) (flat ps ++ (cellsOf q iv).toList)) (hT : T + 1 ≤ W1.heap.size) :
    (w3.setCell ⟨T, c, none⟩ y).ownsRow (T + 1) 27 6 (.slice (some ⟨g, 0, none⟩) (k + 1) cap) (k + 1) (flat (ps ++ [(q, iv)])) ∧ Kids (w3.setCell ⟨T, c, none⟩ y) (T + 1) (some g) (ps ++ [(q, iv)]) ∧
      Below T W1 (w3.setCell ⟨T, c, none⟩ y) ∧ W1.heap.size ≤ (w3.setCell ⟨T, c, none⟩ y).heap.size := by
  have hba : Below W1.heap.size W1 (w2.alloc ob) := hb2.alloc hb2.size ob
  have hown : ∀ k, s.ownBlock = some k → T + 1 ≤ k ∧ k < W1.heap.size := World.ownsRow.lt hO1
  have hsz2 : (w2.alloc ob).heap.size = w2.heap.size + 1 := by simp
  have hxa : OwnI (w2.alloc ob) false W1.heap.size w2.heap.size q.items iv := hx.same (Same.of_below ((Below.refl w2.heap.size w2).alloc (Nat.le_refl _) ob) (Nat.le_refl _))
  have hK3 := Kids.snoc (v := s) (g := g) hxa hf hT (by omega) hb2.size (fun k hk => (hown k hk).2) ⟨W1, hK1, Nat.le_refl _, hba⟩ hg (by rcases hl with h | h; exact .inl h; exact .inr (Nat.le_of_eq h.symm))
  refine ⟨?_, ?_, ?_, ?_⟩
  · rw [flat_snoc]
    exact ownsRow_setCell_below hO3 (by simp) y
  · obtain ⟨L, H, k1, k2⟩ := hK3
    refine ⟨L, H, fun j hj => ?_, k2⟩
    obtain ⟨a, b, c2, d, e, f⟩ := k1 j hj
    exact ⟨a.same (fun k x y => Below.heap_setCell _ _ _ _ (by simp; omega)), b, c2, by simpa [World.setCell] using d, e, f⟩
  · exact (((hba.mono (B' := T) (by omega)).grown hg (by have := hb2.size; simp; omega) (fun k hk => by have := hown k hk; omega))).setCell (Nat.le_refl _) y
  · have h1 := hg.size
    have h2 := hb2.size
    have h4 : (w3.setCell ⟨T, c, none⟩ y).heap.size = w3.heap.size := by simp [World.setCell]
    omega

def TellPost (p : Pt) (w : World) (e : Ending) (w' : World) : Prop := ∃ a cap, e = .returned (.agg #[.int .u8 p.kind, .bool p.yes, .bool p.neg, .string p.mag, .string p.raw, .slice a p.items.length cap]) ∧
  OwnI w' false w.heap.size w'.heap.size p.items (.slice a p.items.length cap) ∧ Below w.heap.size w w'

set_option maxRecDepth 100000 in
set_option maxHeartbeats 4000000 in
theorem part_tuple (p : Pt) (h7 : p.kind = 7) (hmay : mayB p = true) (hfa : FitA p)
    (ih : ∀ q ∈ p.items, ∀ (v : Value) (w : World), mayB q = true → FitA q → VI w 0 w.heap.size q v → Calls Tryd.prog 37 #[v] w (TellPost q w))
    (a : Option Addr) (cap : Nat) (w : World) (hv : VI w 0 w.heap.size p (.iface 145 (.agg #[.slice a p.items.length cap]))) :
    Calls Tryd.prog 164 #[.agg #[.slice a p.items.length cap]] w (TellPost p w) := by
  have hlen := may_len hmay h7
  obtain ⟨F, hcells, hdeep⟩ : ∃ F : Nat → Value, (∀ j, j < p.items.length → ∃ g, a = some ⟨g, 0, none⟩ ∧ 0 ≤ g ∧ g < w.heap.size ∧ w.cell? ⟨g, j, none⟩ = some (F j)) ∧ ∀ j (h : j < p.items.length), VI w 0 w.heap.size p.items[j] (F j) := by
    cases hv with
    | tuple _ _ _ _ F hc cells deep => exact ⟨F, cells, deep⟩
  have HC := Lib.hid hcells
  have HD := Lib.hid hdeep
  have IH := Lib.hid ih
  have HM := Lib.hid hmay
  have HF := Lib.hid hfa
  have H7 := Lib.hid h7
  clear hv hcells hdeep ih hmay hfa h7
  go_enter Tryd.func164, Tryd.ntmps164
  go_wp2_with fail
  obtain ⟨W0, hW0⟩ : ∃ W0, W0 = ((w.alloc (.cells #[.slice a p.items.length cap] 145)).alloc (.cells #[.int .u8 0, .bool false, .bool false, .string ⟨#[]⟩, .string ⟨#[]⟩, .slice none 0 0] 27)).alloc
    (.cells #[.int .u8 7, .bool false, .bool false, .string ⟨#[]⟩, .string ⟨#[]⟩, .slice none 0 0] 27) := ⟨_, rfl⟩
  obtain ⟨T, hT⟩ : ∃ T, w.heap.size + 1 + 1 = T := ⟨_, rfl⟩
  have hB0 : Below w.heap.size w W0 := by rw [hW0]; exact ((((Below.refl _ _).alloc (Nat.le_refl _) _).alloc (by simp) _).alloc (by simp; omega) _)
  have hs0 : W0.heap.size = T + 1 := by rw [hW0, ← hT]; simp [go_sem]
  have t0 : W0.cell? ⟨T, 0, none⟩ = some (.int .u8 7) := by rw [hW0, ← hT]; simp [go_sem]
  have t1 : W0.cell? ⟨T, 1, none⟩ = some (.bool false) := by rw [hW0, ← hT]; simp [go_sem]
  have t2 : W0.cell? ⟨T, 2, none⟩ = some (.bool false) := by rw [hW0, ← hT]; simp [go_sem]
  have t3 : W0.cell? ⟨T, 3, none⟩ = some (.string ⟨#[]⟩) := by rw [hW0, ← hT]; simp [go_sem]
  have t4 : W0.cell? ⟨T, 4, none⟩ = some (.string ⟨#[]⟩) := by rw [hW0, ← hT]; simp [go_sem]
  have t5 : W0.cell? ⟨T, 5, none⟩ = some (.slice none 0 0) := by rw [hW0, ← hT]; simp [go_sem]
  have tf : W0.frozen? ⟨T, 5, none⟩ = false := by rw [hW0, ← hT]; simp [go_sem]
  have r0 : W0.cell? ⟨w.heap.size + 1, 0, none⟩ = some (.int .u8 0) := by rw [hW0]; simp [go_sem]
  have r1 : W0.cell? ⟨w.heap.size + 1, 1, none⟩ = some (.bool false) := by rw [hW0]; simp [go_sem]
  have r2 : W0.cell? ⟨w.heap.size + 1, 2, none⟩ = some (.bool false) := by rw [hW0]; simp [go_sem]
  have r3 : W0.cell? ⟨w.heap.size + 1, 3, none⟩ = some (.string ⟨#[]⟩) := by rw [hW0]; simp [go_sem]
  have r4 : W0.cell? ⟨w.heap.size + 1, 4, none⟩ = some (.string ⟨#[]⟩) := by rw [hW0]; simp [go_sem]
  have r5 : W0.cell? ⟨w.heap.size + 1, 5, none⟩ = some (.slice none 0 0) := by rw [hW0]; simp [go_sem]
  have rf : ∀ c, c < 6 → W0.frozen? ⟨w.heap.size + 1, c, none⟩ = false := fun c hc => by rw [hW0]; simp [go_sem]
  have HR := Lib.hid (And.intro r0 (And.intro r1 (And.intro r2 (And.intro r3 (And.intro r4 (And.intro r5 rf))))))
  rw [← hW0, hT]
  clear hW0 r0 r1 r2 r3 r4 r5 rf
  go_loopw [10] (fun i wr => ∃ (k : Nat) (s : Value) (ps : List (Pt × Value)), k ≤ p.items.length ∧ i = .int .i64 k ∧ wr.cell? ⟨T, 0, none⟩ = some (.int .u8 7) ∧ wr.cell? ⟨T, 1, none⟩ = some (.bool false) ∧ wr.cell? ⟨T, 2, none⟩ = some (.bool false) ∧
    wr.cell? ⟨T, 3, none⟩ = some (.string ⟨#[]⟩) ∧ wr.cell? ⟨T, 4, none⟩ = some (.string ⟨#[]⟩) ∧ wr.cell? ⟨T, 5, none⟩ = some s ∧ wr.frozen? ⟨T, 5, none⟩ = false ∧
    wr.ownsRow (T + 1) 27 6 s k (flat ps) ∧ RowKit.Hid (Kids wr (T + 1) s.ownBlock ps ∧ ps.map Prod.fst = p.items.take k) ∧ Below T W0 wr ∧ T + 1 ≤ wr.heap.size) (fun i _ => p.items.length - (intOf i).toNat)
  case atStart => exact ⟨0, .slice none 0 0, [], Nat.zero_le _, rfl, t0, t1, t2, t3, t4, t5, tf, World.ownsRow_nil _ _ _ _, Lib.hid ⟨Kids.nil _ _ _, rfl⟩, Below.refl _ _, by omega⟩
  case round =>
    clear t0 t1 t2 t3 t4 t5 tf
    obtain ⟨k, s, ps, hkl, rfl, t0, t1, t2, t3, t4, t5, tf, hO, HK, hB, hsz⟩ := hrel
    by_cases hlt : k < p.items.length
    · have q3 : decide (k < p.items.length) = true := by simpa using hlt
      obtain ⟨g0, rfl, _, hg0, hcell⟩ := HC.out k hlt
      have hBw : Below w.heap.size w wr := hB0.trans (hB.mono (by omega))
      have hcell2 := keep hBw hg0 hcell
      have hmem : p.items[k] ∈ p.items := List.getElem_mem _
      have hvi := Lib.hid (HD.out k hlt)
      obtain ⟨q, hq⟩ : ∃ q, p.items[k] = q := ⟨_, rfl⟩
      rw [hq] at hmem hvi
      have HQ := Lib.hid hq
      have hmq := Lib.hid (mayB_item HM.out hmem)
      have hfq := Lib.hid (HF.out.item hmem)
      clear hq hcell
      go_wp2_with fail
      obtain ⟨W1, hW1⟩ : ∃ W1, W1 = wr := ⟨_, rfl⟩
      subst hW1
      have hvi2 := Lib.hid (show VI W1.drew 0 W1.drew.heap.size q (F k) from hvi.out.later hBw.drew)
      have hWl : T < W1.heap.size := by omega
      have hWa : T < T + 1 := by omega
      obtain ⟨i0, hi, hz0, hz1, hz2⟩ := info_parts infoP
      go_region_law (first
        | (go_simp; go_at_call 37; refine (IH.out q hmem _ _ hmq.out hfq.out (by exact hvi2.out)).mono ?_; rintro e w2 ⟨a2, cap2, rfl, hx, hb0⟩; have hb2 := undrew hb0; have hx2 := Lib.hid hx; have hO2 := own_below6 hO hb2; have s5 := keep hb2 hWl t5; have f5 : w2.frozen? ⟨T, 5, none⟩ = false := (hb2.frozen (p := ⟨T, 5, none⟩) hWl).trans tf; have hWm : T < w2.heap.size := Nat.lt_of_lt_of_le hWl hb2.size; clear hx)
        | (refine step_append_lies _ rfl (.tmp 15) (.tmp 18) 25 rfl (T + 1) 27 i0 _ 6 72 Tryd.underlying25 hi hz0 hz1 hz2 rfl (by decide) s k (flat ps) (by simp [Act.eval, Act.put]) (hO2.alloc _) ⟨w2.heap.size, 0, none⟩ 1 1 (cellsOf q (.slice a2 q.items.length cap2)).toList (by simp [Act.eval, Act.put]) rfl (six_cells w2 _ _ rfl) (by intro y hy; simp [cellsOf] at hy; rcases hy with rfl | rfl | rfl | rfl | rfl | rfl <;> rfl) (by decide) (by unfold maxLen; omega) (by omega) (by simp; omega) _ rfl ?_; intro g cap3 w3 hO3 hg3 hlies hgl; have s3 := own_cell6 hO2 hg3 hWa s5; have f3 := own_frozen6 hO2 hg3 hWa hWm f5))
      all_goals
        go_wp2_with fail
        have ST := kids_step (c := 5) _ hO HK.out.1 hx2.out hfq.out.fit hb2 hg3 hlies hO3 (by omega) (y := .slice (some ⟨g, 0, none⟩) (k + 1) cap3)
        have hlp : ps.length = k := by have := congrArg List.length HK.out.2; simp at this; omega
        have HT : (ps ++ [(q, Value.slice a2 q.items.length cap2)]).map Prod.fst = p.items.take (k + 1) := by rw [List.map_append, HK.out.2, List.take_succ_eq_append_getElem hlt, HQ.out]; rfl
        have e0 := own_cell6 hO2 hg3 hWa (keep hb2 hWl t0)
        have e1 := own_cell6 hO2 hg3 hWa (keep hb2 hWl t1)
        have e2 := own_cell6 hO2 hg3 hWa (keep hb2 hWl t2)
        have e3 := own_cell6 hO2 hg3 hWa (keep hb2 hWl t3)
        have e4 := own_cell6 hO2 hg3 hWa (keep hb2 hWl t4)
        have oth : ∀ c u, c ≠ 5 → w3.cell? ⟨T, c, none⟩ = some u → (w3.setCell ⟨T, 5, none⟩ (.slice (some ⟨g, 0, none⟩) (k + 1) cap3)).cell? ⟨T, c, none⟩ = some u := fun c u hc h =>
          (World.cell?_setCell_other w3 ⟨T, 5, none⟩ ⟨T, c, none⟩ _ (by intro e; injection e with _ e; exact hc e.symm)).trans h
        refine ⟨⟨k + 1, .slice (some ⟨g, 0, none⟩) (k + 1) cap3, _, by omega, rfl, oth _ _ (by decide) e0, oth _ _ (by decide) e1, oth _ _ (by decide) e2, oth _ _ (by decide) e3, oth _ _ (by decide) e4,
          World.cell?_setCell_same w3 _ _ s3, (World.frozen?_setCell ..).trans f3, ST.1, Lib.hid ⟨ST.2.1, HT⟩, hB.trans ST.2.2.1, by have := ST.2.2.2; omega⟩, by simp [intOf]; omega⟩
    · have q3 : decide (k < p.items.length) = false := by simpa using hlt
      have hkl2 : k = p.items.length := by omega
      obtain ⟨a9, cap9, hs9⟩ := own_form6 hO
      have hown := Lib.hid (kids_own (HK.out.2.trans (List.take_of_length_le (by omega))) (hkl2 ▸ hO) HK.out.1)
      rw [hs9, hkl2] at hown
      rw [hs9] at t5
      rw [hkl2] at t5
      obtain ⟨r0, r1, r2, r3, r4, r5, rf⟩ := HR.out
      have hT2 : w.heap.size + 1 < T := by omega
      have c0 := keep hB hT2 r0
      have c1 := keep hB hT2 r1
      have c2 := keep hB hT2 r2
      have c3 := keep hB hT2 r3
      have c4 := keep hB hT2 r4
      have c5 := keep hB hT2 r5
      have z0 : wr.frozen? ⟨w.heap.size + 1, 0, none⟩ = false := (hB.frozen (p := ⟨w.heap.size + 1, 0, none⟩) hT2).trans (rf 0 (by decide))
      have z1 : wr.frozen? ⟨w.heap.size + 1, 1, none⟩ = false := (hB.frozen (p := ⟨w.heap.size + 1, 1, none⟩) hT2).trans (rf 1 (by decide))
      have z2 : wr.frozen? ⟨w.heap.size + 1, 2, none⟩ = false := (hB.frozen (p := ⟨w.heap.size + 1, 2, none⟩) hT2).trans (rf 2 (by decide))
      have z3 : wr.frozen? ⟨w.heap.size + 1, 3, none⟩ = false := (hB.frozen (p := ⟨w.heap.size + 1, 3, none⟩) hT2).trans (rf 3 (by decide))
      have z4 : wr.frozen? ⟨w.heap.size + 1, 4, none⟩ = false := (hB.frozen (p := ⟨w.heap.size + 1, 4, none⟩) hT2).trans (rf 4 (by decide))
      have z5 : wr.frozen? ⟨w.heap.size + 1, 5, none⟩ = false := (hB.frozen (p := ⟨w.heap.size + 1, 5, none⟩) hT2).trans (rf 5 (by decide))
      have hBw := Lib.hid (hB0.trans (hB.mono (by omega)))
      have hne := Lib.hid hT2
      clear hs9 hO HK rf r0 r1 r2 r3 r4 r5
      subst hkl2
      go_wp2_with fail
      have hSm : Same (T + 1) wr.heap.size wr ((((((wr.setCell ⟨w.heap.size + 1, 0, none⟩ (.int .u8 7)).setCell ⟨w.heap.size + 1, 1, none⟩ (.bool false)).setCell ⟨w.heap.size + 1, 2, none⟩ (.bool false)).setCell ⟨w.heap.size + 1, 3, none⟩ (.string ⟨#[]⟩)).setCell ⟨w.heap.size + 1, 4, none⟩ (.string ⟨#[]⟩)).setCell ⟨w.heap.size + 1, 5, none⟩ (.slice a9 p.items.length cap9)) :=
        (((((Same.setCell (by omega)).trans (Same.setCell (by omega))).trans (Same.setCell (by omega))).trans (Same.setCell (by omega))).trans (Same.setCell (by omega))).trans (Same.setCell (by omega))
      obtain ⟨k1, k2, k3, k4⟩ := canon7 HM.out H7.out
      refine bodyPost_ret (v := .agg #[.int .u8 7, .bool false, .bool false, .string ⟨#[]⟩, .string ⟨#[]⟩, .slice a9 p.items.length cap9]) (by simp [results, Tryd.results164, go_sem, c0, c1, c2, c3, c4, c5]) rfl
        ⟨a9, cap9, by rw [H7.out, k1, k2, k3, k4]; rfl, ((hown.out.same hSm).wide (by omega) (by simp [World.setCell])), ((((((hBw.out.setCell (by simp) _).setCell (by simp) _).setCell (by simp) _).setCell (by simp) _).setCell (by simp) _).setCell (by simp) _)⟩
end Go.Proofs.YtcgphlilijeifaaDoor.V
