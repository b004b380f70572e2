import Derived.Test.YtcgphlilijeifaaDoorLitPrintsQ7
section
/-
  The program's Tell, and the values' own Part: their contracts.
-/
namespace Go.Proofs.YtcgphlilijeifaaDoor.V
open Go.RowKit

theorem infoP : (Tryd.prog.info? 27).map (fun i => (i.zero, i.size, i.bytes)) = some (some (.agg #[.int .u8 0, .bool false, .bool false, .string ⟨#[]⟩, .string ⟨#[]⟩, .slice none 0 0]), 6, 72) := by kernel_rfl
theorem own_below6 {w w' : World} {base : Nat} {e : TypeId} {v : Value} {n : Nat} {us : List Value} (h : w.ownsRow base e 6 v n us) (hb : Below w.heap.size w w') : w'.ownsRow base e 6 v n us := by
  refine ⟨h.1, ?_⟩
  rcases h.2 with hn | ⟨g, cap, cur, rfl, hg, hgg, rest⟩
  · exact .inl hn
  · exact .inr ⟨g, cap, cur, rfl, hg, (hb.block g (Array.getElem?_eq_some_iff.1 hgg).1).trans hgg, rest⟩
theorem own_cell6 {w w3 : World} {ob : Obj} {base : Nat} {e : TypeId} {v u : Value} {n b o : Nat} {us : List Value} (h : w.ownsRow base e 6 v n us) (hg : (w.alloc ob).grownBy w3 v.ownBlock) (hb : b < base) (hc : w.cell? ⟨b, o, none⟩ = some u) : w3.cell? ⟨b, o, none⟩ = some u := by
  have hlt : b < w.heap.size := World.block_lt_of_cell? w _ hc
  refine (World.cell?_of_block (hg.block b (by simp; omega) (fun e => by have := (World.ownsRow.lt h b e.symm).1; omega))).trans ?_
  exact (World.cell?_of_block (Below.heap_alloc w ob b hlt)).trans hc
theorem own_frozen6 {w w3 : World} {ob : Obj} {base : Nat} {e : TypeId} {v : Value} {n b o : Nat} {us : List Value} (h : w.ownsRow base e 6 v n us) (hg : (w.alloc ob).grownBy w3 v.ownBlock) (hb : b < base) (hlt : b < w.heap.size) (hc : w.frozen? ⟨b, o, none⟩ = false) : w3.frozen? ⟨b, o, none⟩ = false := by
  refine (World.frozen?_of_block (hg.block b (by simp; omega) (fun e => by have := (World.ownsRow.lt h b e.symm).1; omega))).trans ?_
  exact (World.frozen?_of_block (Below.heap_alloc w ob b hlt)).trans hc
theorem own_form6 {w : World} {base : Nat} {e : TypeId} {v : Value} {n : Nat} {us : List Value} (h : w.ownsRow base e 6 v n us) : ∃ a cap, v = .slice a n cap := by
  rcases h.2 with ⟨rfl, rfl⟩ | ⟨g, cap, cur, rfl, _⟩
  · exact ⟨none, 0, rfl⟩
  · exact ⟨_, cap, rfl⟩
theorem OwnI.form {w : World} {m : Bool} {lo hi : Nat} {l : List Pt} {v : Value} (h : OwnI w m lo hi l v) : ∃ a cap, v = .slice a l.length cap := by
  cases h with
  | nil _ _ _ => exact ⟨none, 0, rfl⟩
  | row _ _ _ g cap => exact ⟨_, cap, rfl⟩
/-- The six cells of a part that was laid. -/
theorem six_cells (w : World) (cs : Array Value) (T : TypeId) (hn : cs.size = 6) : ∀ j u, cs.toList[j]? = some u → (w.alloc (.cells cs T)).cell? ((⟨w.heap.size, 0, none⟩ : Addr).add j) = some u := by
  intro j u hj
  have e2 : (⟨w.heap.size, 0, none⟩ : Addr).add j = ⟨w.heap.size, j, none⟩ := by unfold Addr.add; split <;> simp_all
  rw [e2]
  have := cell_of_row (w.alloc (.cells cs T)) w.heap.size j cs T (0, 0) (heap_alloc_new w _)
  rw [this, ← hj, Array.getElem?_toList]

theorem Same.setCell {lo hi b c : Nat} {w : World} {u : Value} (h : b < lo) : Same lo hi w (w.setCell ⟨b, c, none⟩ u) := fun k h1 _ => Below.heap_setCell _ _ _ _ (by simp; omega)
theorem ba_nil {b : ByteArray} (h : b.toList.isEmpty = true) : b = ⟨#[]⟩ := ba_same (by rw [List.isEmpty_iff.1 h, Lib.toList_data])
theorem canon7 {p : Pt} (h : mayB p = true) (h7 : p.kind = 7) : p.yes = false ∧ p.neg = false ∧ p.mag = ⟨#[]⟩ ∧ p.raw = ⟨#[]⟩ := by
  have h1 := mayB_ok h
  unfold okOne at h1
  simp only [h7, Bool.and_eq_true] at h1
  obtain ⟨⟨⟨⟨_, h2⟩, h3⟩, _⟩, h5⟩ := h1
  simp only [Nat.reduceEqDiff, if_false, if_true, false_or, Nat.reduceBEq, Bool.false_or, Bool.and_eq_true, Bool.not_eq_true'] at h2 h3 h5
  exact ⟨h2, h3.1, ba_nil h3.2, ba_nil (by simpa using h5.1)⟩
/-- What a round leaves. -/
theorem kids_step {W1 w2 w3 : World} {T g cap k c : Nat} {s iv y : Value} {q : Pt} {ps : List (Pt × Value)} (ob : Obj) (hO1 : W1.ownsRow (T + 1) 27 6 s k (flat ps)) (hK1 : Kids W1 (T + 1) s.ownBlock ps)
    (hx : OwnI w2 false W1.heap.size w2.heap.size q.items iv) (hf : Fit q) (hb2 : Below W1.heap.size W1 w2) (hg : (w2.alloc ob).grownBy w3 s.ownBlock) (hl : s.ownBlock = some g ∨ g = (w2.alloc ob).heap.size)
    (hO3 : w3.ownsRow (T + 1) 27 6 (.slice (some ⟨g, 0, none⟩) (k + 1) cap) (k + 1) (flat ps ++ (cellsOf q iv).toList)) (hT : T + 1 ≤ W1.heap.size) :
    (w3.setCell ⟨T, c, none⟩ y).ownsRow (T + 1) 27 6 (.slice (some ⟨g, 0, none⟩) (k + 1) cap) (k + 1) (flat (ps ++ [(q, iv)])) ∧ Kids (w3.setCell ⟨T, c, none⟩ y) (T + 1) (some g) (ps ++ [(q, iv)]) ∧
      Below T W1 (w3.setCell ⟨T, c, none⟩ y) ∧ W1.heap.size ≤ (w3.setCell ⟨T, c, none⟩ y).heap.size := by
  have hba : Below W1.heap.size W1 (w2.alloc ob) := hb2.alloc hb2.size ob
  have hown : ∀ k, s.ownBlock = some k → T + 1 ≤ k ∧ k < W1.heap.size := World.ownsRow.lt hO1
  have hsz2 : (w2.alloc ob).heap.size = w2.heap.size + 1 := by simp
  have hxa : OwnI (w2.alloc ob) false W1.heap.size w2.heap.size q.items iv := hx.same (Same.of_below ((Below.refl w2.heap.size w2).alloc (Nat.le_refl _) ob) (Nat.le_refl _))
  have hK3 := Kids.snoc (v := s) (g := g) hxa hf hT (by omega) hb2.size (fun k hk => (hown k hk).2) ⟨W1, hK1, Nat.le_refl _, hba⟩ hg (by rcases hl with h | h; exact .inl h; exact .inr (Nat.le_of_eq h.symm))
  refine ⟨?_, ?_, ?_, ?_⟩
  · rw [flat_snoc]
    exact ownsRow_setCell_below hO3 (by simp) y
  · obtain ⟨L, H, k1, k2⟩ := hK3
    refine ⟨L, H, fun j hj => ?_, k2⟩
    obtain ⟨a, b, c2, d, e, f⟩ := k1 j hj
    exact ⟨a.same (fun k x y => Below.heap_setCell _ _ _ _ (by simp; omega)), b, c2, by simpa [World.setCell] using d, e, f⟩
  · exact (((hba.mono (B' := T) (by omega)).grown hg (by have := hb2.size; simp; omega) (fun k hk => by have := hown k hk; omega))).setCell (Nat.le_refl _) y
  · have h1 := hg.size
    have h2 := hb2.size
    have h4 : (w3.setCell ⟨T, c, none⟩ y).heap.size = w3.heap.size := by simp [World.setCell]
    omega

def TellPost (p : Pt) (w : World) (e : Ending) (w' : World) : Prop := ∃ a cap, e = .returned (.agg #[.int .u8 p.kind, .bool p.yes, .bool p.neg, .string p.mag, .string p.raw, .slice a p.items.length cap]) ∧
  OwnI w' false w.heap.size w'.heap.size p.items (.slice a p.items.length cap) ∧ Below w.heap.size w w'

set_option maxRecDepth 100000 in
set_option maxHeartbeats 4000000 in
theorem part_tuple (p : Pt) (h7 : p.kind = 7) (hmay : mayB p = true) (hfa : FitA p)
    (ih : ∀ q ∈ p.items, ∀ (v : Value) (w : World), mayB q = true → FitA q → VI w 0 w.heap.size q v → Calls Tryd.prog 37 #[v] w (TellPost q w))
    (a : Option Addr) (cap : Nat) (w : World) (hv : VI w 0 w.heap.size p (.iface 145 (.agg #[.slice a p.items.length cap]))) :
    Calls Tryd.prog 164 #[.agg #[.slice a p.items.length cap]] w (TellPost p w) := by
  have hlen := may_len hmay h7
  obtain ⟨F, hcells, hdeep⟩ : ∃ F : Nat → Value, (∀ j, j < p.items.length → ∃ g, a = some ⟨g, 0, none⟩ ∧ 0 ≤ g ∧ g < w.heap.size ∧ w.cell? ⟨g, j, none⟩ = some (F j)) ∧ ∀ j (h : j < p.items.length), VI w 0 w.heap.size p.items[j] (F j) := by
    cases hv with
    | tuple _ _ _ _ F hc cells deep => exact ⟨F, cells, deep⟩
  have HC := Lib.hid hcells
  have HD := Lib.hid hdeep
  have IH := Lib.hid ih
  have HM := Lib.hid hmay
  have HF := Lib.hid hfa
  have H7 := Lib.hid h7
  clear hv hcells hdeep ih hmay hfa h7
  go_enter Tryd.func164, Tryd.ntmps164
  go_wp2_with fail
  obtain ⟨W0, hW0⟩ : ∃ W0, W0 = ((w.alloc (.cells #[.slice a p.items.length cap] 145)).alloc (.cells #[.int .u8 0, .bool false, .bool false, .string ⟨#[]⟩, .string ⟨#[]⟩, .slice none 0 0] 27)).alloc
    (.cells #[.int .u8 7, .bool false, .bool false, .string ⟨#[]⟩, .string ⟨#[]⟩, .slice none 0 0] 27) := ⟨_, rfl⟩
  obtain ⟨T, hT⟩ : ∃ T, w.heap.size + 1 + 1 = T := ⟨_, rfl⟩
  have hB0 : Below w.heap.size w W0 := by rw [hW0]; exact ((((Below.refl _ _).alloc (Nat.le_refl _) _).alloc (by simp) _).alloc (by simp; omega) _)
  have hs0 : W0.heap.size = T + 1 := by rw [hW0, ← hT]; simp [go_sem]
  have t0 : W0.cell? ⟨T, 0, none⟩ = some (.int .u8 7) := by rw [hW0, ← hT]; simp [go_sem]
  have t1 : W0.cell? ⟨T, 1, none⟩ = some (.bool false) := by rw [hW0, ← hT]; simp [go_sem]
  have t2 : W0.cell? ⟨T, 2, none⟩ = some (.bool false) := by rw [hW0, ← hT]; simp [go_sem]
  have t3 : W0.cell? ⟨T, 3, none⟩ = some (.string ⟨#[]⟩) := by rw [hW0, ← hT]; simp [go_sem]
  have t4 : W0.cell? ⟨T, 4, none⟩ = some (.string ⟨#[]⟩) := by rw [hW0, ← hT]; simp [go_sem]
  have t5 : W0.cell? ⟨T, 5, none⟩ = some (.slice none 0 0) := by rw [hW0, ← hT]; simp [go_sem]
  have tf : W0.frozen? ⟨T, 5, none⟩ = false := by rw [hW0, ← hT]; simp [go_sem]
  have r0 : W0.cell? ⟨w.heap.size + 1, 0, none⟩ = some (.int .u8 0) := by rw [hW0]; simp [go_sem]
  have r1 : W0.cell? ⟨w.heap.size + 1, 1, none⟩ = some (.bool false) := by rw [hW0]; simp [go_sem]
  have r2 : W0.cell? ⟨w.heap.size + 1, 2, none⟩ = some (.bool false) := by rw [hW0]; simp [go_sem]
  have r3 : W0.cell? ⟨w.heap.size + 1, 3, none⟩ = some (.string ⟨#[]⟩) := by rw [hW0]; simp [go_sem]
  have r4 : W0.cell? ⟨w.heap.size + 1, 4, none⟩ = some (.string ⟨#[]⟩) := by rw [hW0]; simp [go_sem]
  have r5 : W0.cell? ⟨w.heap.size + 1, 5, none⟩ = some (.slice none 0 0) := by rw [hW0]; simp [go_sem]
  have rf : ∀ c, c < 6 → W0.frozen? ⟨w.heap.size + 1, c, none⟩ = false := fun c hc => by rw [hW0]; simp [go_sem]
  have HR := Lib.hid (And.intro r0 (And.intro r1 (And.intro r2 (And.intro r3 (And.intro r4 (And.intro r5 rf))))))
  rw [← hW0, hT]
  clear hW0 r0 r1 r2 r3 r4 r5 rf
  go_loopw [10] (fun i wr => ∃ (k : Nat) (s : Value) (ps : List (Pt × Value)), k ≤ p.items.length ∧ i = .int .i64 k ∧ wr.cell? ⟨T, 0, none⟩ = some (.int .u8 7) ∧ wr.cell? ⟨T, 1, none⟩ = some (.bool false) ∧ wr.cell? ⟨T, 2, none⟩ = some (.bool false) ∧
    wr.cell? ⟨T, 3, none⟩ = some (.string ⟨#[]⟩) ∧ wr.cell? ⟨T, 4, none⟩ = some (.string ⟨#[]⟩) ∧ wr.cell? ⟨T, 5, none⟩ = some s ∧ wr.frozen? ⟨T, 5, none⟩ = false ∧
    wr.ownsRow (T + 1) 27 6 s k (flat ps) ∧ RowKit.Hid (Kids wr (T + 1) s.ownBlock ps ∧ ps.map Prod.fst = p.items.take k) ∧ Below T W0 wr ∧ T + 1 ≤ wr.heap.size) (fun i _ => p.items.length - (intOf i).toNat)
  case atStart => exact ⟨0, .slice none 0 0, [], Nat.zero_le _, rfl, t0, t1, t2, t3, t4, t5, tf, World.ownsRow_nil _ _ _ _, Lib.hid ⟨Kids.nil _ _ _, rfl⟩, Below.refl _ _, by omega⟩
  case round =>
    clear t0 t1 t2 t3 t4 t5 tf
    obtain ⟨k, s, ps, hkl, rfl, t0, t1, t2, t3, t4, t5, tf, hO, HK, hB, hsz⟩ := hrel
    by_cases hlt : k < p.items.length
    · have q3 : decide (k < p.items.length) = true := by simpa using hlt
      obtain ⟨g0, rfl, _, hg0, hcell⟩ := HC.out k hlt
      have hBw : Below w.heap.size w wr := hB0.trans (hB.mono (by omega))
      have hcell2 := keep hBw hg0 hcell
      have hmem : p.items[k] ∈ p.items := List.getElem_mem _
      have hvi := Lib.hid (HD.out k hlt)
      obtain ⟨q, hq⟩ : ∃ q, p.items[k] = q := ⟨_, rfl⟩
      rw [hq] at hmem hvi
      have HQ := Lib.hid hq
      have hmq := Lib.hid (mayB_item HM.out hmem)
      have hfq := Lib.hid (HF.out.item hmem)
      clear hq hcell
      go_wp2_with fail
      obtain ⟨W1, hW1⟩ : ∃ W1, W1 = wr := ⟨_, rfl⟩
      subst hW1
      have hvi2 := Lib.hid (show VI W1.drew 0 W1.drew.heap.size q (F k) from hvi.out.later hBw.drew)
      have hWl : T < W1.heap.size := by omega
      have hWa : T < T + 1 := by omega
      obtain ⟨i0, hi, hz0, hz1, hz2⟩ := info_parts infoP
      go_region_law (first
        | (go_simp; go_at_call 37; refine (IH.out q hmem _ _ hmq.out hfq.out (by exact hvi2.out)).mono ?_; rintro e w2 ⟨a2, cap2, rfl, hx, hb0⟩; have hb2 := undrew hb0; have hx2 := Lib.hid hx; have hO2 := own_below6 hO hb2; have s5 := keep hb2 hWl t5; have f5 : w2.frozen? ⟨T, 5, none⟩ = false := (hb2.frozen (p := ⟨T, 5, none⟩) hWl).trans tf; have hWm : T < w2.heap.size := Nat.lt_of_lt_of_le hWl hb2.size; clear hx)
        | (refine step_append_lies _ rfl (.tmp 15) (.tmp 18) 25 rfl (T + 1) 27 i0 _ 6 72 Tryd.underlying25 hi hz0 hz1 hz2 rfl (by decide) s k (flat ps) (by simp [Act.eval, Act.put]) (hO2.alloc _) ⟨w2.heap.size, 0, none⟩ 1 1 (cellsOf q (.slice a2 q.items.length cap2)).toList (by simp [Act.eval, Act.put]) rfl (six_cells w2 _ _ rfl) (by intro y hy; simp [cellsOf] at hy; rcases hy with rfl | rfl | rfl | rfl | rfl | rfl <;> rfl) (by decide) (by unfold maxLen; omega) (by omega) (by simp; omega) _ rfl ?_; intro g cap3 w3 hO3 hg3 hlies hgl; have s3 := own_cell6 hO2 hg3 hWa s5; have f3 := own_frozen6 hO2 hg3 hWa hWm f5))
      all_goals
        go_wp2_with fail
        have ST := kids_step (c := 5) _ hO HK.out.1 hx2.out hfq.out.fit hb2 hg3 hlies hO3 (by omega) (y := .slice (some ⟨g, 0, none⟩) (k + 1) cap3)
        have hlp : ps.length = k := by have := congrArg List.length HK.out.2; simp at this; omega
        have HT : (ps ++ [(q, Value.slice a2 q.items.length cap2)]).map Prod.fst = p.items.take (k + 1) := by rw [List.map_append, HK.out.2, List.take_succ_eq_append_getElem hlt, HQ.out]; rfl
        have e0 := own_cell6 hO2 hg3 hWa (keep hb2 hWl t0)
        have e1 := own_cell6 hO2 hg3 hWa (keep hb2 hWl t1)
        have e2 := own_cell6 hO2 hg3 hWa (keep hb2 hWl t2)
        have e3 := own_cell6 hO2 hg3 hWa (keep hb2 hWl t3)
        have e4 := own_cell6 hO2 hg3 hWa (keep hb2 hWl t4)
        have oth : ∀ c u, c ≠ 5 → w3.cell? ⟨T, c, none⟩ = some u → (w3.setCell ⟨T, 5, none⟩ (.slice (some ⟨g, 0, none⟩) (k + 1) cap3)).cell? ⟨T, c, none⟩ = some u := fun c u hc h =>
          (World.cell?_setCell_other w3 ⟨T, 5, none⟩ ⟨T, c, none⟩ _ (by intro e; injection e with _ e; exact hc e.symm)).trans h
        refine ⟨⟨k + 1, .slice (some ⟨g, 0, none⟩) (k + 1) cap3, _, by omega, rfl, oth _ _ (by decide) e0, oth _ _ (by decide) e1, oth _ _ (by decide) e2, oth _ _ (by decide) e3, oth _ _ (by decide) e4,
          World.cell?_setCell_same w3 _ _ s3, (World.frozen?_setCell ..).trans f3, ST.1, Lib.hid ⟨ST.2.1, HT⟩, hB.trans ST.2.2.1, by have := ST.2.2.2; omega⟩, by simp [intOf]; omega⟩
    · have q3 : decide (k < p.items.length) = false := by simpa using hlt
      have hkl2 : k = p.items.length := by omega
      obtain ⟨a9, cap9, hs9⟩ := own_form6 hO
      have hown := Lib.hid (kids_own (HK.out.2.trans (List.take_of_length_le (by omega))) (hkl2 ▸ hO) HK.out.1)
      rw [hs9, hkl2] at hown
      rw [hs9] at t5
      rw [hkl2] at t5
      obtain ⟨r0, r1, r2, r3, r4, r5, rf⟩ := HR.out
      have hT2 : w.heap.size + 1 < T := by omega
      have c0 := keep hB hT2 r0
      have c1 := keep hB hT2 r1
      have c2 := keep hB hT2 r2
      have c3 := keep hB hT2 r3
      have c4 := keep hB hT2 r4
      have c5 := keep hB hT2 r5
      have z0 : wr.frozen? ⟨w.heap.size + 1, 0, none⟩ = false := (hB.frozen (p := ⟨w.heap.size + 1, 0, none⟩) hT2).trans (rf 0 (by decide))
      have z1 : wr.frozen? ⟨w.heap.size + 1, 1, none⟩ = false := (hB.frozen (p := ⟨w.heap.size + 1, 1, none⟩) hT2).trans (rf 1 (by decide))
      have z2 : wr.frozen? ⟨w.heap.size + 1, 2, none⟩ = false := (hB.frozen (p := ⟨w.heap.size + 1, 2, none⟩) hT2).trans (rf 2 (by decide))
      have z3 : wr.frozen? ⟨w.heap.size + 1, 3, none⟩ = false := (hB.frozen (p := ⟨w.heap.size + 1, 3, none⟩) hT2).trans (rf 3 (by decide))
      have z4 : wr.frozen? ⟨w.heap.size + 1, 4, none⟩ = false := (hB.frozen (p := ⟨w.heap.size + 1, 4, none⟩) hT2).trans (rf 4 (by decide))
      have z5 : wr.frozen? ⟨w.heap.size + 1, 5, none⟩ = false := (hB.frozen (p := ⟨w.heap.size + 1, 5, none⟩) hT2).trans (rf 5 (by decide))
      have hBw := Lib.hid (hB0.trans (hB.mono (by omega)))
      have hne := Lib.hid hT2
      clear hs9 hO HK rf r0 r1 r2 r3 r4 r5
      subst hkl2
      go_wp2_with fail
      have hSm : Same (T + 1) wr.heap.size wr ((((((wr.setCell ⟨w.heap.size + 1, 0, none⟩ (.int .u8 7)).setCell ⟨w.heap.size + 1, 1, none⟩ (.bool false)).setCell ⟨w.heap.size + 1, 2, none⟩ (.bool false)).setCell ⟨w.heap.size + 1, 3, none⟩ (.string ⟨#[]⟩)).setCell ⟨w.heap.size + 1, 4, none⟩ (.string ⟨#[]⟩)).setCell ⟨w.heap.size + 1, 5, none⟩ (.slice a9 p.items.length cap9)) :=
        (((((Same.setCell (by omega)).trans (Same.setCell (by omega))).trans (Same.setCell (by omega))).trans (Same.setCell (by omega))).trans (Same.setCell (by omega))).trans (Same.setCell (by omega))
      obtain ⟨k1, k2, k3, k4⟩ := canon7 HM.out H7.out
      refine bodyPost_ret (v := .agg #[.int .u8 7, .bool false, .bool false, .string ⟨#[]⟩, .string ⟨#[]⟩, .slice a9 p.items.length cap9]) (by simp [results, Tryd.results164, go_sem, c0, c1, c2, c3, c4, c5]) rfl
        ⟨a9, cap9, by rw [H7.out, k1, k2, k3, k4]; rfl, ((hown.out.same hSm).wide (by omega) (by simp [World.setCell])), ((((((hBw.out.setCell (by simp) _).setCell (by simp) _).setCell (by simp) _).setCell (by simp) _).setCell (by simp) _).setCell (by simp) _)⟩
end Go.Proofs.YtcgphlilijeifaaDoor.V
end
section
/-
  The program's Tell: its contract, for every value.
-/
namespace Go.Proofs.YtcgphlilijeifaaDoor.V
open Go.RowKit

theorem part_truth (y : Bool) (w : World) : Calls Tryd.prog 157 #[.agg #[.bool y]] w fun e w' => e = .returned (.agg #[.int .u8 1, .bool y, .bool false, .string ⟨#[]⟩, .string ⟨#[]⟩, .slice none 0 0]) ∧ Below w.heap.size w w' := by
  go_enter Tryd.func157, Tryd.ntmps157
  go_wp2_with fail
  exact bodyPost_ret (v := .agg #[.int .u8 1, .bool y, .bool false, .string ⟨#[]⟩, .string ⟨#[]⟩, .slice none 0 0]) (by simp [results, Tryd.results157, go_sem]) rfl ⟨rfl, ((Below.refl _ _).alloc (Nat.le_refl _) _).alloc (by simp) _⟩
theorem part_whole (b : Bool) (m : ByteArray) (w : World) : Calls Tryd.prog 160 #[.agg #[.bool b, .string m]] w fun e w' => e = .returned (.agg #[.int .u8 2, .bool false, .bool b, .string m, .string ⟨#[]⟩, .slice none 0 0]) ∧ Below w.heap.size w w' := by
  go_enter Tryd.func160, Tryd.ntmps160
  go_wp2_with fail
  exact bodyPost_ret (v := .agg #[.int .u8 2, .bool false, .bool b, .string m, .string ⟨#[]⟩, .slice none 0 0]) (by simp [results, Tryd.results160, go_sem]) rfl ⟨rfl, ((Below.refl _ _).alloc (Nat.le_refl _) _).alloc (by simp) _⟩
theorem part_row (k : Nat) (r : ByteArray) (w : World) : Calls Tryd.prog 167 #[.agg #[.int .u8 k, .string r]] w fun e w' => e = .returned (.agg #[.int .u8 k, .bool false, .bool false, .string ⟨#[]⟩, .string r, .slice none 0 0]) ∧ Below w.heap.size w w' := by
  go_enter Tryd.func167, Tryd.ntmps167
  go_wp2_with fail
  exact bodyPost_ret (v := .agg #[.int .u8 k, .bool false, .bool false, .string ⟨#[]⟩, .string r, .slice none 0 0]) (by simp [results, Tryd.results167, go_sem]) rfl ⟨rfl, ((Below.refl _ _).alloc (Nat.le_refl _) _).alloc (by simp) _⟩

/-- What a part that may be has beside its own fields: nothing. -/
theorem canon {p : Pt} (h : mayB p = true) : (p.kind ≠ 1 → p.yes = false) ∧ (p.kind ≠ 2 → p.neg = false ∧ p.mag = ⟨#[]⟩) ∧ (p.kind ≠ 7 → p.items = []) ∧ (p.kind = 0 ∨ p.kind = 1 ∨ p.kind = 2 ∨ p.kind = 7 → p.raw = ⟨#[]⟩) := by
  have h1 := mayB_ok h
  unfold okOne at h1
  simp only [Bool.and_eq_true] at h1
  obtain ⟨⟨⟨⟨_, h2⟩, h3⟩, h4⟩, h5⟩ := h1
  refine ⟨fun k => ?_, fun k => ?_, fun k => ?_, fun k => ?_⟩
  · simpa [k] using h2
  · have : p.neg = false ∧ p.mag.toList = [] := by simpa [k] using h3
    exact ⟨this.1, ba_nil (by rw [this.2]; rfl)⟩
  · have : (p.kind == 7) = false := by simpa using k
    rw [this, Bool.false_or, List.isEmpty_iff] at h4
    exact h4
  · refine ba_nil ?_
    rcases k with k | k | k | k <;> simp [k] at h5 ⊢
    · exact h5
    · exact h5
    · exact h5.1
    · exact h5.1
theorem tell_flat {p : Pt} {w w' : World} (hi : p.items = []) (hb : Below w.heap.size w w') : OwnI w' false w.heap.size w'.heap.size p.items (.slice none p.items.length 0) ∧ Below w.heap.size w w' := by
  rw [hi]; exact ⟨.nil _ _ rfl, hb⟩

/-- The result's place, behind a call. -/
theorem res_cells {w w1 : World} (hb : Below (w.alloc (.cells #[.int .u8 0, .bool false, .bool false, .string ⟨#[]⟩, .string ⟨#[]⟩, .slice none 0 0] 27)).heap.size (w.alloc (.cells #[.int .u8 0, .bool false, .bool false, .string ⟨#[]⟩, .string ⟨#[]⟩, .slice none 0 0] 27)) w1) :
    w1.cell? ⟨w.heap.size, 0, none⟩ = some (.int .u8 0) ∧ w1.cell? ⟨w.heap.size, 1, none⟩ = some (.bool false) ∧ w1.cell? ⟨w.heap.size, 2, none⟩ = some (.bool false) ∧ w1.cell? ⟨w.heap.size, 3, none⟩ = some (.string ⟨#[]⟩) ∧ w1.cell? ⟨w.heap.size, 4, none⟩ = some (.string ⟨#[]⟩) ∧
      w1.cell? ⟨w.heap.size, 5, none⟩ = some (.slice none 0 0) ∧ w1.frozen? ⟨w.heap.size, 0, none⟩ = false ∧ w1.frozen? ⟨w.heap.size, 1, none⟩ = false ∧ w1.frozen? ⟨w.heap.size, 2, none⟩ = false ∧ w1.frozen? ⟨w.heap.size, 3, none⟩ = false ∧ w1.frozen? ⟨w.heap.size, 4, none⟩ = false ∧ w1.frozen? ⟨w.heap.size, 5, none⟩ = false ∧ w.heap.size < w1.heap.size := by
  have hlt : w.heap.size < (w.alloc (.cells #[.int .u8 0, .bool false, .bool false, .string ⟨#[]⟩, .string ⟨#[]⟩, .slice none 0 0] 27)).heap.size := by simp
  have z : ∀ c, w1.frozen? ⟨w.heap.size, c, none⟩ = false := fun c => (hb.frozen (p := ⟨w.heap.size, c, none⟩) hlt).trans (by simp)
  exact ⟨keep hb hlt (by simp), keep hb hlt (by simp), keep hb hlt (by simp), keep hb hlt (by simp), keep hb hlt (by simp), keep hb hlt (by simp), z 0, z 1, z 2, z 3, z 4, z 5, Nat.lt_of_lt_of_le hlt hb.size⟩
set_option maxHeartbeats 2000000 in
theorem tell_any (p : Pt) : ∀ (v : Value) (w : World), mayB p = true → FitA p → VI w 0 w.heap.size p v → Calls Tryd.prog 37 #[v] w (TellPost p w) := by
  induction p using Pt.ind with
  | h p ih =>
  intro v w hmay hfa hv
  have HV := Lib.hid hv
  obtain ⟨n1, n2, n3, n4⟩ := canon hmay
  cases hv with
  | null _ h =>
    have y1 := n1 (by omega)
    obtain ⟨y2, y3⟩ := n2 (by omega)
    have y4 := n3 (by omega)
    have y5 := n4 (.inl h)
    have HE := Lib.hid (show Value.agg #[.int .u8 p.kind, .bool p.yes, .bool p.neg, .string p.mag, .string p.raw, .slice none p.items.length 0] = .agg #[.int .u8 0, .bool false, .bool false, .string ⟨#[]⟩, .string ⟨#[]⟩, .slice none 0 0] by rw [h, y1, y2, y3, y4, y5]; rfl)
    have H4 := Lib.hid y4
    clear n1 n2 n3 n4 y1 y2 y3 y4 y5 h
    go_enter Tryd.func37, Tryd.ntmps37
    go_wp2_with fail
    exact bodyPost_ret (v := .agg #[.int .u8 0, .bool false, .bool false, .string ⟨#[]⟩, .string ⟨#[]⟩, .slice none 0 0]) (by simp [results, Tryd.results37, go_sem]) rfl
      ⟨none, 0, by rw [HE.out], tell_flat H4.out ((Below.refl _ _).alloc (Nat.le_refl _) _)⟩
  | truth _ h =>
    obtain ⟨y2, y3⟩ := n2 (by omega)
    have y4 := n3 (by omega)
    have y5 := n4 (by omega)
    have HE := Lib.hid (show Value.agg #[.int .u8 p.kind, .bool p.yes, .bool p.neg, .string p.mag, .string p.raw, .slice none p.items.length 0] = .agg #[.int .u8 1, .bool p.yes, .bool false, .string ⟨#[]⟩, .string ⟨#[]⟩, .slice none 0 0] by rw [h, y2, y3, y4, y5]; rfl)
    have H4 := Lib.hid y4
    have m1 : ∀ w : World, (method 338 140 (.agg #[.bool p.yes]) "Part").run Tryd.prog w = .ok (157, .agg #[.bool p.yes]) w := fun _ => by kernel_rfl
    clear n1 n2 n3 n4 y2 y3 y4 y5 h
    go_enter Tryd.func37, Tryd.ntmps37
    go_wp2_with fail
    refine (part_truth p.yes _).mono ?_
    rintro e w1 ⟨rfl, hb1⟩
    have hB := ((Below.refl w.heap.size w).alloc (Nat.le_refl _) (.cells #[.int .u8 0, .bool false, .bool false, .string ⟨#[]⟩, .string ⟨#[]⟩, .slice none 0 0] 27)).trans (hb1.mono (by simp))
    obtain ⟨c0, c1, c2, c3, c4, c5, z0, z1, z2, z3, z4, z5, hlt⟩ := res_cells hb1
    clear hb1
    go_wp2_with fail
    exact bodyPost_ret (v := .agg #[.int .u8 1, .bool p.yes, .bool false, .string ⟨#[]⟩, .string ⟨#[]⟩, .slice none 0 0]) (by simp [results, Tryd.results37, go_sem, c0, c1, c2, c3, c4, c5]) rfl
      ⟨none, 0, by rw [HE.out], tell_flat H4.out ((((((hB.setCell (Nat.le_refl _) _).setCell (Nat.le_refl _) _).setCell (Nat.le_refl _) _).setCell (Nat.le_refl _) _).setCell (Nat.le_refl _) _).setCell (Nat.le_refl _) _)⟩
  | whole _ h =>
    have y1 := n1 (by omega)
    have y4 := n3 (by omega)
    have y5 := n4 (by omega)
    have HE := Lib.hid (show Value.agg #[.int .u8 p.kind, .bool p.yes, .bool p.neg, .string p.mag, .string p.raw, .slice none p.items.length 0] = .agg #[.int .u8 2, .bool false, .bool p.neg, .string p.mag, .string ⟨#[]⟩, .slice none 0 0] by rw [h, y1, y4, y5]; rfl)
    have H4 := Lib.hid y4
    have m1 : ∀ w : World, (method 338 142 (.agg #[.bool p.neg, .string p.mag]) "Part").run Tryd.prog w = .ok (160, .agg #[.bool p.neg, .string p.mag]) w := fun _ => by kernel_rfl
    clear n1 n2 n3 n4 y1 y4 y5 h
    go_enter Tryd.func37, Tryd.ntmps37
    go_wp2_with fail
    refine (part_whole p.neg p.mag _).mono ?_
    rintro e w1 ⟨rfl, hb1⟩
    have hB := ((Below.refl w.heap.size w).alloc (Nat.le_refl _) (.cells #[.int .u8 0, .bool false, .bool false, .string ⟨#[]⟩, .string ⟨#[]⟩, .slice none 0 0] 27)).trans (hb1.mono (by simp))
    obtain ⟨c0, c1, c2, c3, c4, c5, z0, z1, z2, z3, z4, z5, hlt⟩ := res_cells hb1
    clear hb1
    go_wp2_with fail
    exact bodyPost_ret (v := .agg #[.int .u8 2, .bool false, .bool p.neg, .string p.mag, .string ⟨#[]⟩, .slice none 0 0]) (by simp [results, Tryd.results37, go_sem, c0, c1, c2, c3, c4, c5]) rfl
      ⟨none, 0, by rw [HE.out], tell_flat H4.out ((((((hB.setCell (Nat.le_refl _) _).setCell (Nat.le_refl _) _).setCell (Nat.le_refl _) _).setCell (Nat.le_refl _) _).setCell (Nat.le_refl _) _).setCell (Nat.le_refl _) _)⟩
  | row _ h0 h1 h2 h7 =>
    have y1 := n1 h1
    obtain ⟨y2, y3⟩ := n2 h2
    have y4 := n3 h7
    have HE := Lib.hid (show Value.agg #[.int .u8 p.kind, .bool p.yes, .bool p.neg, .string p.mag, .string p.raw, .slice none p.items.length 0] = .agg #[.int .u8 p.kind, .bool false, .bool false, .string ⟨#[]⟩, .string p.raw, .slice none 0 0] by rw [y1, y2, y3, y4]; rfl)
    have H4 := Lib.hid y4
    have m1 : ∀ w : World, (method 338 147 (.agg #[.int .u8 p.kind, .string p.raw]) "Part").run Tryd.prog w = .ok (167, .agg #[.int .u8 p.kind, .string p.raw]) w := fun _ => by kernel_rfl
    clear n1 n2 n3 n4 y1 y2 y3 y4 h0 h1 h2 h7
    go_enter Tryd.func37, Tryd.ntmps37
    go_wp2_with fail
    refine (part_row p.kind p.raw _).mono ?_
    rintro e w1 ⟨rfl, hb1⟩
    have hB := ((Below.refl w.heap.size w).alloc (Nat.le_refl _) (.cells #[.int .u8 0, .bool false, .bool false, .string ⟨#[]⟩, .string ⟨#[]⟩, .slice none 0 0] 27)).trans (hb1.mono (by simp))
    obtain ⟨c0, c1, c2, c3, c4, c5, z0, z1, z2, z3, z4, z5, hlt⟩ := res_cells hb1
    clear hb1
    go_wp2_with fail
    exact bodyPost_ret (v := .agg #[.int .u8 p.kind, .bool false, .bool false, .string ⟨#[]⟩, .string p.raw, .slice none 0 0]) (by simp [results, Tryd.results37, go_sem, c0, c1, c2, c3, c4, c5]) rfl
      ⟨none, 0, by rw [HE.out], tell_flat H4.out ((((((hB.setCell (Nat.le_refl _) _).setCell (Nat.le_refl _) _).setCell (Nat.le_refl _) _).setCell (Nat.le_refl _) _).setCell (Nat.le_refl _) _).setCell (Nat.le_refl _) _)⟩
  | tuple _ h a cap F hc cells deep =>
    have m1 : ∀ w : World, (method 338 145 (.agg #[.slice a p.items.length cap]) "Part").run Tryd.prog w = .ok (164, .agg #[.slice a p.items.length cap]) w := fun _ => by kernel_rfl
    have H7 := Lib.hid h
    have HM := Lib.hid hmay
    have HF := Lib.hid hfa
    have IH := Lib.hid ih
    clear n1 n2 n3 n4 h hmay hfa ih cells deep
    go_enter Tryd.func37, Tryd.ntmps37
    go_wp2_with fail
    refine (part_tuple p H7.out HM.out HF.out IH.out a cap _ (HV.out.later ((Below.refl _ _).alloc (Nat.le_refl _) _))).mono ?_
    rintro e w1 ⟨a2, cap2, rfl, hx, hb1⟩
    have hB := ((Below.refl w.heap.size w).alloc (Nat.le_refl _) (.cells #[.int .u8 0, .bool false, .bool false, .string ⟨#[]⟩, .string ⟨#[]⟩, .slice none 0 0] 27)).trans (hb1.mono (by simp))
    obtain ⟨c0, c1, c2, c3, c4, c5, z0, z1, z2, z3, z4, z5, hlt⟩ := res_cells hb1
    have HX := Lib.hid (show OwnI w1 false (w.heap.size + 1) w1.heap.size p.items (.slice a2 p.items.length cap2) from hx.wide (by simp) (Nat.le_refl _))
    clear hb1 hx
    go_wp2_with fail
    have hSm : Same (w.heap.size + 1) w1.heap.size w1 ((((((w1.setCell ⟨w.heap.size, 0, none⟩ (.int .u8 p.kind)).setCell ⟨w.heap.size, 1, none⟩ (.bool p.yes)).setCell ⟨w.heap.size, 2, none⟩ (.bool p.neg)).setCell ⟨w.heap.size, 3, none⟩ (.string p.mag)).setCell ⟨w.heap.size, 4, none⟩ (.string p.raw)).setCell ⟨w.heap.size, 5, none⟩ (.slice a2 p.items.length cap2)) :=
      (((((Same.setCell (by omega)).trans (Same.setCell (by omega))).trans (Same.setCell (by omega))).trans (Same.setCell (by omega))).trans (Same.setCell (by omega))).trans (Same.setCell (by omega))
    exact bodyPost_ret (v := .agg #[.int .u8 p.kind, .bool p.yes, .bool p.neg, .string p.mag, .string p.raw, .slice a2 p.items.length cap2]) (by simp [results, Tryd.results37, go_sem, c0, c1, c2, c3, c4, c5]) rfl
      ⟨a2, cap2, rfl, (HX.out.same hSm).wide (by omega) (by simp [World.setCell]), ((((((hB.setCell (Nat.le_refl _) _).setCell (Nat.le_refl _) _).setCell (Nat.le_refl _) _).setCell (Nat.le_refl _) _).setCell (Nat.le_refl _) _).setCell (Nat.le_refl _) _)⟩
end Go.Proofs.YtcgphlilijeifaaDoor.V
end
section
/-
  What can be asked of a value: AsNumber, AsRaw, AsList, Kind, Num, Bytes, Len, At: the contracts.
-/
namespace Go.Proofs.YtcgphlilijeifaaDoor.V
open Go.RowKit

theorem has_Number_truth (V : Value) (w : World) : (Instr.typeAssert (.iface 140 V) 33 106 true).run Tryd.prog w = .ok (.tuple #[.nilIface, .bool false]) w := run_typeAssert_lacksB Tryd.underlying106 (by kernel_rfl) (by kernel_rfl) V _ w
theorem has_Number_whole (V : Value) (w : World) : (Instr.typeAssert (.iface 142 V) 33 106 true).run Tryd.prog w = .ok (.tuple #[.iface 142 V, .bool true]) w := run_typeAssert_hasB Tryd.underlying106 (by kernel_rfl) V _ w
theorem has_Number_row (V : Value) (w : World) : (Instr.typeAssert (.iface 147 V) 33 106 true).run Tryd.prog w = .ok (.tuple #[.nilIface, .bool false]) w := run_typeAssert_lacksB Tryd.underlying106 (by kernel_rfl) (by kernel_rfl) V _ w
theorem has_Number_tuple (V : Value) (w : World) : (Instr.typeAssert (.iface 145 V) 33 106 true).run Tryd.prog w = .ok (.tuple #[.nilIface, .bool false]) w := run_typeAssert_lacksB Tryd.underlying106 (by kernel_rfl) (by kernel_rfl) V _ w
theorem has_Number_nil (w : World) : (Instr.typeAssert .nilIface 33 106 true).run Tryd.prog w = .ok (.tuple #[.nilIface, .bool false]) w := by kernel_rfl
theorem has_Raw_truth (V : Value) (w : World) : (Instr.typeAssert (.iface 140 V) 33 92 true).run Tryd.prog w = .ok (.tuple #[.nilIface, .bool false]) w := run_typeAssert_lacksB Tryd.underlying92 (by kernel_rfl) (by kernel_rfl) V _ w
theorem has_Raw_whole (V : Value) (w : World) : (Instr.typeAssert (.iface 142 V) 33 92 true).run Tryd.prog w = .ok (.tuple #[.nilIface, .bool false]) w := run_typeAssert_lacksB Tryd.underlying92 (by kernel_rfl) (by kernel_rfl) V _ w
theorem has_Raw_row (V : Value) (w : World) : (Instr.typeAssert (.iface 147 V) 33 92 true).run Tryd.prog w = .ok (.tuple #[.iface 147 V, .bool true]) w := run_typeAssert_hasB Tryd.underlying92 (by kernel_rfl) V _ w
theorem has_Raw_tuple (V : Value) (w : World) : (Instr.typeAssert (.iface 145 V) 33 92 true).run Tryd.prog w = .ok (.tuple #[.nilIface, .bool false]) w := run_typeAssert_lacksB Tryd.underlying92 (by kernel_rfl) (by kernel_rfl) V _ w
theorem has_Raw_nil (w : World) : (Instr.typeAssert .nilIface 33 92 true).run Tryd.prog w = .ok (.tuple #[.nilIface, .bool false]) w := by kernel_rfl
theorem has_List_truth (V : Value) (w : World) : (Instr.typeAssert (.iface 140 V) 33 85 true).run Tryd.prog w = .ok (.tuple #[.nilIface, .bool false]) w := run_typeAssert_lacksB Tryd.underlying85 (by kernel_rfl) (by kernel_rfl) V _ w
theorem has_List_whole (V : Value) (w : World) : (Instr.typeAssert (.iface 142 V) 33 85 true).run Tryd.prog w = .ok (.tuple #[.nilIface, .bool false]) w := run_typeAssert_lacksB Tryd.underlying85 (by kernel_rfl) (by kernel_rfl) V _ w
theorem has_List_row (V : Value) (w : World) : (Instr.typeAssert (.iface 147 V) 33 85 true).run Tryd.prog w = .ok (.tuple #[.nilIface, .bool false]) w := run_typeAssert_lacksB Tryd.underlying85 (by kernel_rfl) (by kernel_rfl) V _ w
theorem has_List_tuple (V : Value) (w : World) : (Instr.typeAssert (.iface 145 V) 33 85 true).run Tryd.prog w = .ok (.tuple #[.iface 145 V, .bool true]) w := run_typeAssert_hasB Tryd.underlying85 (by kernel_rfl) V _ w
theorem has_List_nil (w : World) : (Instr.typeAssert .nilIface 33 85 true).run Tryd.prog w = .ok (.tuple #[.nilIface, .bool false]) w := by kernel_rfl

/-- A value asked for as something. -/
def asked (t : Bool) (v : Value) : Value := if t then v else .nilIface

set_option maxHeartbeats 1000000 in
theorem asNumber_any (p : Pt) (v : Value) (w : World) {W : World} {lo hi : Nat} (hv : VI W lo hi p v) (hk : p.kind ≤ 7) (t : Bool) (ht : (p.kind == 2) = t) :
    Calls Tryd.prog 90 #[v] w fun e w' => e = .returned (.tuple #[asked t v, .bool t]) ∧ w = w' := by
  have f1 := has_Number_truth
  have f2 := has_Number_whole
  have f3 := has_Number_row
  have f4 := has_Number_tuple
  have f5 := has_Number_nil
  cases hv with
  | null _ h =>
    obtain rfl : t = false := by rw [← ht]; simp [h]
    clear ht hk h
    go_enter Tryd.func90, Tryd.ntmps90
    go_wp2_with fail
    go_ret2
    exact ⟨rfl, rfl⟩
  | truth _ h =>
    obtain rfl : t = false := by rw [← ht]; simp [h]
    clear ht hk h
    go_enter Tryd.func90, Tryd.ntmps90
    go_wp2_with fail
    go_ret2
    exact ⟨rfl, rfl⟩
  | whole _ h =>
    obtain rfl : t = true := by rw [← ht]; simp [h]
    clear ht hk h
    go_enter Tryd.func90, Tryd.ntmps90
    go_wp2_with fail
    go_ret2
    exact ⟨rfl, rfl⟩
  | row _ h0 h1 h2 h7 =>
    obtain rfl : t = false := by rw [← ht]; simp; omega
    clear ht hk h0 h1 h2 h7
    go_enter Tryd.func90, Tryd.ntmps90
    go_wp2_with fail
    go_ret2
    exact ⟨rfl, rfl⟩
  | tuple _ h a cap F hc cells deep =>
    obtain rfl : t = false := by rw [← ht]; simp [h]
    clear ht hk h cells deep hc
    go_enter Tryd.func90, Tryd.ntmps90
    go_wp2_with fail
    go_ret2
    exact ⟨rfl, rfl⟩
theorem AsNumber_any (p : Pt) (v : Value) (w : World) {W : World} {lo hi : Nat} (hv : VI W lo hi p v) (hk : p.kind ≤ 7) (t : Bool) (ht : (p.kind == 2) = t) :
    Calls Tryd.prog 53 #[v] w fun e w' => e = .returned (.tuple #[asked t v, .bool t]) ∧ w = w' := by
  have HV := Lib.hid hv
  have HT := Lib.hid ht
  clear ht hv
  go_enter Tryd.func53, Tryd.ntmps53
  go_wp2_with fail
  refine (asNumber_any p v _ HV.out hk t HT.out).mono ?_
  rintro e w1 ⟨rfl, rfl⟩
  go_wp2_with fail
  go_ret2
  exact ⟨rfl, rfl⟩

set_option maxHeartbeats 1000000 in
theorem asRaw_any (p : Pt) (v : Value) (w : World) {W : World} {lo hi : Nat} (hv : VI W lo hi p v) (hk : p.kind ≤ 7) (t : Bool) (ht : (rawB p) = t) :
    Calls Tryd.prog 83 #[v] w fun e w' => e = .returned (.tuple #[asked t v, .bool t]) ∧ w = w' := by
  have f1 := has_Raw_truth
  have f2 := has_Raw_whole
  have f3 := has_Raw_row
  have f4 := has_Raw_tuple
  have f5 := has_Raw_nil
  cases hv with
  | null _ h =>
    obtain rfl : t = false := by rw [← ht]; simp [rawB, h]
    clear ht hk h
    go_enter Tryd.func83, Tryd.ntmps83
    go_wp2_with fail
    go_ret2
    exact ⟨rfl, rfl⟩
  | truth _ h =>
    obtain rfl : t = false := by rw [← ht]; simp [rawB, h]
    clear ht hk h
    go_enter Tryd.func83, Tryd.ntmps83
    go_wp2_with fail
    go_ret2
    exact ⟨rfl, rfl⟩
  | whole _ h =>
    obtain rfl : t = false := by rw [← ht]; simp [rawB, h]
    clear ht hk h
    go_enter Tryd.func83, Tryd.ntmps83
    go_wp2_with fail
    go_ret2
    exact ⟨rfl, rfl⟩
  | row _ h0 h1 h2 h7 =>
    obtain rfl : t = true := by rw [← ht]; simp [rawB]; omega
    clear ht hk h0 h1 h2 h7
    go_enter Tryd.func83, Tryd.ntmps83
    go_wp2_with fail
    go_ret2
    exact ⟨rfl, rfl⟩
  | tuple _ h a cap F hc cells deep =>
    obtain rfl : t = false := by rw [← ht]; simp [rawB, h]
    clear ht hk h cells deep hc
    go_enter Tryd.func83, Tryd.ntmps83
    go_wp2_with fail
    go_ret2
    exact ⟨rfl, rfl⟩
theorem AsRaw_any (p : Pt) (v : Value) (w : World) {W : World} {lo hi : Nat} (hv : VI W lo hi p v) (hk : p.kind ≤ 7) (t : Bool) (ht : (rawB p) = t) :
    Calls Tryd.prog 43 #[v] w fun e w' => e = .returned (.tuple #[asked t v, .bool t]) ∧ w = w' := by
  have HV := Lib.hid hv
  have HT := Lib.hid ht
  clear ht hv
  go_enter Tryd.func43, Tryd.ntmps43
  go_wp2_with fail
  refine (asRaw_any p v _ HV.out hk t HT.out).mono ?_
  rintro e w1 ⟨rfl, rfl⟩
  go_wp2_with fail
  go_ret2
  exact ⟨rfl, rfl⟩

set_option maxHeartbeats 1000000 in
theorem asList_any (p : Pt) (v : Value) (w : World) {W : World} {lo hi : Nat} (hv : VI W lo hi p v) (hk : p.kind ≤ 7) (t : Bool) (ht : (p.kind == 7) = t) :
    Calls Tryd.prog 82 #[v] w fun e w' => e = .returned (.tuple #[asked t v, .bool t]) ∧ w = w' := by
  have f1 := has_List_truth
  have f2 := has_List_whole
  have f3 := has_List_row
  have f4 := has_List_tuple
  have f5 := has_List_nil
  cases hv with
  | null _ h =>
    obtain rfl : t = false := by rw [← ht]; simp [h]
    clear ht hk h
    go_enter Tryd.func82, Tryd.ntmps82
    go_wp2_with fail
    go_ret2
    exact ⟨rfl, rfl⟩
  | truth _ h =>
    obtain rfl : t = false := by rw [← ht]; simp [h]
    clear ht hk h
    go_enter Tryd.func82, Tryd.ntmps82
    go_wp2_with fail
    go_ret2
    exact ⟨rfl, rfl⟩
  | whole _ h =>
    obtain rfl : t = false := by rw [← ht]; simp [h]
    clear ht hk h
    go_enter Tryd.func82, Tryd.ntmps82
    go_wp2_with fail
    go_ret2
    exact ⟨rfl, rfl⟩
  | row _ h0 h1 h2 h7 =>
    obtain rfl : t = false := by rw [← ht]; simp; omega
    clear ht hk h0 h1 h2 h7
    go_enter Tryd.func82, Tryd.ntmps82
    go_wp2_with fail
    go_ret2
    exact ⟨rfl, rfl⟩
  | tuple _ h a cap F hc cells deep =>
    obtain rfl : t = true := by rw [← ht]; simp [h]
    clear ht hk h cells deep hc
    go_enter Tryd.func82, Tryd.ntmps82
    go_wp2_with fail
    go_ret2
    exact ⟨rfl, rfl⟩
theorem AsList_any (p : Pt) (v : Value) (w : World) {W : World} {lo hi : Nat} (hv : VI W lo hi p v) (hk : p.kind ≤ 7) (t : Bool) (ht : (p.kind == 7) = t) :
    Calls Tryd.prog 42 #[v] w fun e w' => e = .returned (.tuple #[asked t v, .bool t]) ∧ w = w' := by
  have HV := Lib.hid hv
  have HT := Lib.hid ht
  clear ht hv
  go_enter Tryd.func42, Tryd.ntmps42
  go_wp2_with fail
  refine (asList_any p v _ HV.out hk t HT.out).mono ?_
  rintro e w1 ⟨rfl, rfl⟩
  go_wp2_with fail
  go_ret2
  exact ⟨rfl, rfl⟩

theorem kind_truth (y : Bool) (w : World) : Calls Tryd.prog 156 #[.agg #[.bool y]] w fun e w' => e = .returned (.int .u8 1) ∧ Below w.heap.size w w' := by
  go_enter Tryd.func156, Tryd.ntmps156
  go_wp2_with fail
  go_ret
  exact ⟨rfl, (Below.refl _ _).alloc (Nat.le_refl _) _⟩
theorem kind_whole (b : Bool) (m : ByteArray) (w : World) : Calls Tryd.prog 158 #[.agg #[.bool b, .string m]] w fun e w' => e = .returned (.int .u8 2) ∧ Below w.heap.size w w' := by
  go_enter Tryd.func158, Tryd.ntmps158
  go_wp2_with fail
  go_ret
  exact ⟨rfl, (Below.refl _ _).alloc (Nat.le_refl _) _⟩
theorem kind_row (k : Nat) (r : ByteArray) (w : World) : Calls Tryd.prog 166 #[.agg #[.int .u8 k, .string r]] w fun e w' => e = .returned (.int .u8 k) ∧ Below w.heap.size w w' := by
  go_enter Tryd.func166, Tryd.ntmps166
  go_wp2_with fail
  go_ret
  exact ⟨rfl, (Below.refl _ _).alloc (Nat.le_refl _) _⟩
theorem kind_tuple (a : Option Addr) (n cap : Nat) (w : World) : Calls Tryd.prog 162 #[.agg #[.slice a n cap]] w fun e w' => e = .returned (.int .u8 7) ∧ Below w.heap.size w w' := by
  go_enter Tryd.func162, Tryd.ntmps162
  go_wp2_with fail
  go_ret
  exact ⟨rfl, (Below.refl _ _).alloc (Nat.le_refl _) _⟩
theorem bytes_row (k : Nat) (r : ByteArray) (w : World) : Calls Tryd.prog 165 #[.agg #[.int .u8 k, .string r]] w fun e w' => e = .returned (.string r) ∧ Below w.heap.size w w' := by
  go_enter Tryd.func165, Tryd.ntmps165
  go_wp2_with fail
  go_ret
  exact ⟨rfl, (Below.refl _ _).alloc (Nat.le_refl _) _⟩
theorem len_tuple (a : Option Addr) (n cap : Nat) (w : World) : Calls Tryd.prog 163 #[.agg #[.slice a n cap]] w fun e w' => e = .returned (.int .i64 n) ∧ Below w.heap.size w w' := by
  go_enter Tryd.func163, Tryd.ntmps163
  go_wp2_with fail
  go_ret
  exact ⟨rfl, (Below.refl _ _).alloc (Nat.le_refl _) _⟩
theorem num_whole (b : Bool) (m : ByteArray) (w : World) : Calls Tryd.prog 159 #[.agg #[.bool b, .string m]] w fun e w' => e = .returned (.agg #[.bool b, .string m]) ∧ Below w.heap.size w w' := by
  go_enter Tryd.func159, Tryd.ntmps159
  go_wp2_with fail
  exact bodyPost_ret (v := .agg #[.bool b, .string m]) (by simp [results, Tryd.results159, go_sem]) rfl ⟨rfl, ((Below.refl _ _).alloc (Nat.le_refl _) _).alloc (by simp) _⟩
theorem at_in (g n cap j : Nat) (u : Value) (w : World) (hn : n ≤ 9223372036854775807) (hj : j < n) (hc : w.cell? ⟨g, j, none⟩ = some u) :
    Calls Tryd.prog 161 #[.agg #[.slice (some ⟨g, 0, none⟩) n cap], .int .i64 j] w fun e w' => e = .returned u ∧ Below w.heap.size w w' := by
  have hlt : g < w.heap.size := World.block_lt_of_cell? w _ hc
  have q1 : decide ((n : Int) ≤ (j : Int)) = false := by simp; omega
  have q2 : decide (n ≤ j) = false := by simp; omega
  go_enter Tryd.func161, Tryd.ntmps161
  go_wp2_with fail
  go_ret
  exact ⟨rfl, (Below.refl _ _).alloc (Nat.le_refl _) _⟩
theorem at_out (a : Option Addr) (n cap : Nat) (i : Int) (w : World) (hi : i < 0 ∨ (n : Int) ≤ i) :
    Calls Tryd.prog 161 #[.agg #[.slice a n cap], .int .i64 i] w fun e w' => e = .returned .nilIface ∧ Below w.heap.size w w' := by
  by_cases h0 : i < 0
  · have q0 : decide (i < 0) = true := by simpa using h0
    clear hi
    go_enter Tryd.func161, Tryd.ntmps161
    go_wp2_with fail
    go_ret
    exact ⟨rfl, (Below.refl _ _).alloc (Nat.le_refl _) _⟩
  · have q0 : decide (i < 0) = false := by simpa using h0
    have q1 : decide ((n : Int) ≤ i) = true := by simp; omega
    clear hi
    go_enter Tryd.func161, Tryd.ntmps161
    go_wp2_with fail
    go_ret
    exact ⟨rfl, (Below.refl _ _).alloc (Nat.le_refl _) _⟩
end Go.Proofs.YtcgphlilijeifaaDoor.V
end
