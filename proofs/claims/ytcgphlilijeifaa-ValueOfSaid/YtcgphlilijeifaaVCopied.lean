/-
  The document's Copied: its contract.
-/
import Derived.Test.YtcgphlilijeifaaVSix
import Derived.Deep.AppendLies
namespace Go.Proofs.Ytcgphlilijeifaa.V
open Go.RowKit

/-- A part's place that is zero still. -/
structure Blank (w : World) (b : Nat) : Prop where
  c0 : w.cell? ⟨b, 0, none⟩ = some (.int .u8 0)
  c1 : w.cell? ⟨b, 1, none⟩ = some (.bool false)
  c2 : w.cell? ⟨b, 2, none⟩ = some (.bool false)
  c3 : w.cell? ⟨b, 3, none⟩ = some (.string ⟨#[]⟩)
  c4 : w.cell? ⟨b, 4, none⟩ = some (.string ⟨#[]⟩)
  c5 : w.cell? ⟨b, 5, none⟩ = some (.slice none 0 0)
  f0 : w.frozen? ⟨b, 0, none⟩ = false
  f1 : w.frozen? ⟨b, 1, none⟩ = false
  f2 : w.frozen? ⟨b, 2, none⟩ = false
  f3 : w.frozen? ⟨b, 3, none⟩ = false
  f4 : w.frozen? ⟨b, 4, none⟩ = false
  f5 : w.frozen? ⟨b, 5, none⟩ = false
theorem Blank.later {w w1 : World} {b B : Nat} (h : Blank w b) (hb : Below B w w1) (hB : b < B) : Blank w1 b := by
  have z : ∀ c, w.frozen? ⟨b, c, none⟩ = false → w1.frozen? ⟨b, c, none⟩ = false := fun c hc => (hb.frozen (p := ⟨b, c, none⟩) hB).trans hc
  exact ⟨keep hb hB h.c0, keep hb hB h.c1, keep hb hB h.c2, keep hb hB h.c3, keep hb hB h.c4, keep hb hB h.c5, z _ h.f0, z _ h.f1, z _ h.f2, z _ h.f3, z _ h.f4, z _ h.f5⟩
theorem six_cellsH (w : World) (H : Nat) (hH : w.heap.size = H) (cs : Array Value) (T : TypeId) (hn : cs.size = 6) : ∀ j u, cs.toList[j]? = some u → (w.alloc (.cells cs T)).cell? ((⟨H, 0, none⟩ : Addr).add j) = some u := by
  subst hH; exact six_cells w cs T hn

set_option maxRecDepth 100000 in
set_option maxHeartbeats 4000000 in
theorem copied_any (p : Pt) : ∀ (v : Value) (w : World), FitA p → Roomy p → PI w 0 w.heap.size p.items v →
    Calls Try.prog 16 #[.agg #[.int .u8 p.kind, .bool p.yes, .bool p.neg, .string p.mag, .string p.raw, v]] w (TellPost p w) := by
  induction p using Pt.ind with
  | h p ih =>
  intro v w hfa hroom hp
  obtain ⟨a, cap, rfl, hcap, hat⟩ := hp.open
  have hlen := hroom.len
  have HR := Lib.hid hroom
  have HA := Lib.hid hat
  have IH := Lib.hid ih
  have HF := Lib.hid hfa
  clear hat ih hfa hp hroom
  go_enter Try.func16, Try.ntmps16
  go_wp2_with fail
  obtain ⟨T, hT⟩ : ∃ T, w.heap.size + 1 + 1 = T := ⟨_, rfl⟩
  rw [hT]
  go_loopw [4] (fun i wr => ∃ (k : Nat) (s : Value) (ps : List (Pt × Value)), k ≤ p.items.length ∧ i = .int .i64 k ∧ wr.cell? ⟨T, 0, none⟩ = some (.int .u8 p.kind) ∧ wr.cell? ⟨T, 1, none⟩ = some (.bool p.yes) ∧ wr.cell? ⟨T, 2, none⟩ = some (.bool p.neg) ∧
    wr.cell? ⟨T, 3, none⟩ = some (.string p.mag) ∧ wr.cell? ⟨T, 4, none⟩ = some (.string p.raw) ∧ wr.cell? ⟨T, 5, none⟩ = some s ∧ wr.frozen? ⟨T, 5, none⟩ = false ∧ RowKit.Hid (Box wr w.heap.size p (.slice a p.items.length cap)) ∧ RowKit.Hid (Blank wr (w.heap.size + 1)) ∧
    wr.ownsRow (T + 1) 27 6 s k (flat ps) ∧ RowKit.Hid (Kids wr (T + 1) s.ownBlock ps ∧ ps.map Prod.fst = p.items.take k) ∧ Below w.heap.size w wr ∧ T + 1 ≤ wr.heap.size) (fun i _ => p.items.length - (intOf i).toNat)
  case atStart =>
    subst hT
    refine ⟨0, .slice none 0 0, [], Nat.zero_le _, rfl, by simp [go_sem], by simp [go_sem], by simp [go_sem], by simp [go_sem], by simp [go_sem], by simp [go_sem], by simp [go_sem], Lib.hid ⟨by simp; omega, ?_⟩, Lib.hid ?_, World.ownsRow_nil _ _ _ _, Lib.hid ⟨Kids.nil _ _ _, rfl⟩, ?_, by simp⟩
    · constructor <;> simp [go_sem]
    · constructor <;> simp [go_sem]
    · exact ((((Below.refl _ _).alloc (Nat.le_refl _) _).alloc (by simp) _).alloc (by simp; omega) _)
  case round =>
    obtain ⟨k, s, ps, hkl, rfl, t0, t1, t2, t3, t4, t5, tf, HX, HB, hO, HK, hB, hsz⟩ := hrel
    obtain ⟨_, ⟨x0, x1, x2, x3, x4, x5⟩⟩ := HX.out
    by_cases hlt : k < p.items.length
    · have q3 : decide (k < p.items.length) = true := by simpa using hlt
      obtain ⟨b, off, u, rfl, _, hb, hc, hfit, hpi⟩ := HA.out k hlt
      obtain ⟨d0, d1, d2, d3, d4, d5⟩ := hc.same (Same.of_below hB (Nat.le_refl _)) (Nat.zero_le _) hb
      have hmem : p.items[k] ∈ p.items := List.getElem_mem _
      obtain ⟨q, hq⟩ : ∃ q, p.items[k] = q := ⟨_, rfl⟩
      rw [hq] at d0 d1 d2 d3 d4 hfit hpi hmem
      have HQ := Lib.hid hq
      have hfq := Lib.hid (HF.out.item hmem)
      obtain ⟨a2, cap2, rfl, _, _⟩ := hpi.open
      have hpi2 := Lib.hid (hpi.later hB)
      clear hc hq hpi
      go_wp2_with fail
      refine (IH.out q hmem _ _ hfq.out (HR.out.item hmem) hpi2.out).mono ?_
      rintro e w2 ⟨a3, cap3, rfl, hx, hb2⟩
      have hWl : T < wr.heap.size := by omega
      have hWa : T < T + 1 := by omega
      have hO2 := own_below6 hO hb2
      have s5 := keep hb2 hWl t5
      have f5 : w2.frozen? ⟨T, 5, none⟩ = false := (hb2.frozen (p := ⟨T, 5, none⟩) hWl).trans tf
      have hWm : T < w2.heap.size := Nat.lt_of_lt_of_le hWl hb2.size
      have hx2 := Lib.hid hx
      clear hx x0 x1 x2 x3 x4 x5 d0 d1 d2 d3 d4 d5
      obtain ⟨i0, hi, hz0, hz1, hz2⟩ := info_parts infoP
      go_wp2_with (at_builtin; refine wpList_append_lies _ rfl (.tmp 22) (.tmp 24) 25 rfl (T + 1) 27 i0 _ 6 72 Try.underlying25 hi hz0 hz1 hz2 rfl (by decide) s k (flat ps) (by simp [Act.eval, Act.put]) ((hO2.alloc _).alloc _) ⟨w2.heap.size + 1, 0, none⟩ 1 1 (cellsOf q (.slice a3 q.items.length cap3)).toList (by simp [Act.eval, Act.put]) rfl (six_cellsH _ _ (by simp) _ _ rfl) (by intro y hy; simp [cellsOf] at hy; rcases hy with rfl | rfl | rfl | rfl | rfl | rfl <;> rfl) (by decide) (by unfold maxLen; omega) (by omega) (by simp; omega) _ rfl ?_; intro g cap4 w3 hO3 hg3 hlies hgl; have s3 := own_cell6 (hO2.alloc _) hg3 hWa (keep ((Below.refl _ _).alloc (Nat.le_refl _) _) hWm s5); have f3 := own_frozen6 (hO2.alloc _) hg3 hWa (by simp; omega) (((Below.refl w2.heap.size w2).alloc (Nat.le_refl _) _).frozen (p := ⟨T, 5, none⟩) hWm |>.trans f5))
      have hal := fun ob : Obj => (Below.refl w2.heap.size w2).alloc (Nat.le_refl _) ob
      have hxa := (hx2.out.same (Same.of_below (hal (.cells #[.int .u8 q.kind, .bool q.yes, .bool q.neg, .string q.mag, .string q.raw, .slice a3 q.items.length cap3] 27)) (Nat.le_refl _))).wide (Nat.le_refl _) (hal (.cells #[.int .u8 q.kind, .bool q.yes, .bool q.neg, .string q.mag, .string q.raw, .slice a3 q.items.length cap3] 27)).size
      have ST := kids_step (c := 5) _ hO HK.out.1 hxa hfq.out.fit (hb2.alloc hb2.size _) hg3 hlies hO3 (by omega) (y := .slice (some ⟨g, 0, none⟩) (k + 1) cap4)
      have HT : (ps ++ [(q, Value.slice a3 q.items.length cap3)]).map Prod.fst = p.items.take (k + 1) := by rw [List.map_append, HK.out.2, List.take_succ_eq_append_getElem hlt, HQ.out]; rfl
      have tt : ∀ c x, c ≠ 5 → wr.cell? ⟨T, c, none⟩ = some x → (w3.setCell ⟨T, 5, none⟩ (.slice (some ⟨g, 0, none⟩) (k + 1) cap4)).cell? ⟨T, c, none⟩ = some x := fun c x hc h =>
        (cell_other w3 T 5 c _ (fun e => hc e.symm)).trans (own_cell6 (hO2.alloc _) hg3 hWa (keep (hal _) hWm (keep hb2 hWl h)))
      exact ⟨⟨k + 1, .slice (some ⟨g, 0, none⟩) (k + 1) cap4, _, by omega, rfl, tt _ _ (by decide) t0, tt _ _ (by decide) t1, tt _ _ (by decide) t2, tt _ _ (by decide) t3, tt _ _ (by decide) t4,
        World.cell?_setCell_same w3 _ _ s3, (World.frozen?_setCell ..).trans f3, Lib.hid (HX.out.later ST.2.2.1 (by omega)), Lib.hid (HB.out.later ST.2.2.1 (by omega)), ST.1, Lib.hid ⟨ST.2.1, HT⟩, hB.trans (ST.2.2.1.mono (by omega)), by have := ST.2.2.2; omega⟩, by simp [intOf]; omega⟩
    · have q3 : decide (k < p.items.length) = false := by simpa using hlt
      have hkl2 : k = p.items.length := by omega
      obtain ⟨a9, cap9, hs9⟩ := own_form6 hO
      have hown := Lib.hid (kids_own (HK.out.2.trans (List.take_of_length_le (by omega))) (hkl2 ▸ hO) HK.out.1)
      rw [hs9, hkl2] at hown
      rw [hs9] at t5
      rw [hkl2] at t5
      obtain ⟨r0, r1, r2, r3, r4, r5, z0, z1, z2, z3, z4, z5⟩ := HB.out
      have hBw := Lib.hid hB
      clear hs9 hO HK
      subst hkl2
      go_wp2_with fail
      have hSm : Same (T + 1) wr.heap.size wr (set6 wr (w.heap.size + 1) 0 p.kind p.yes p.neg p.mag p.raw (.slice a9 p.items.length cap9)) := fun x h1 h2 => set6_block _ _ _ _ _ _ _ _ _ (by omega)
      refine bodyPost_ret (v := .agg #[.int .u8 p.kind, .bool p.yes, .bool p.neg, .string p.mag, .string p.raw, .slice a9 p.items.length cap9]) (by simp [results, Try.results16, go_sem, r0, r1, r2, r3, r4, r5]) rfl
        ⟨a9, cap9, rfl, (hown.out.same hSm).wide (by omega) (Nat.le_of_eq (set6_size wr (w.heap.size + 1) 0 p.kind p.yes p.neg p.mag p.raw (.slice a9 p.items.length cap9)).symm), hBw.out.trans (set6_below wr (w.heap.size + 1) 0 p.kind p.yes p.neg p.mag p.raw (.slice a9 p.items.length cap9) (by omega))⟩
end Go.Proofs.Ytcgphlilijeifaa.V
