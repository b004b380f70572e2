/-
  ValueOf's walk.
-/
import Derived.Test.YtcgphlilijeifaaVTwo
import Derived.Test.YtcgphlilijeifaaVLooks
import Derived.Test.YtcgphlilijeifaaVMake
namespace Go.Proofs.Ytcgphlilijeifaa.V
open Go.RowKit

theorem looks_T (l : List Pt) (v : Value) (w : World) (a : Option Addr) (cap : Nat) (hm : mayB (pT l) = true) (hf : FitA (pT l)) (hd : depthP (pT l) ≤ 1000) (hp : PI w 0 w.heap.size l (.slice a l.length cap)) (hv : VI w 0 w.heap.size (pT l) v) :
    Calls Try.prog 11 #[v, .agg #[.int .u8 7, .bool false, .bool false, .string ⟨#[]⟩, .string ⟨#[]⟩, .slice a l.length cap]] w fun e w' => e = .returned (.bool true) ∧ Below w.heap.size w w' :=
  looks_any (pT l) v w a cap hm hf hd hp hv
theorem ownP_lt {w : World} {B : Nat} {e : TypeId} {z : Nat} {v : Value} {n : Nat} {xs : List Value} (h : w.ownsRow B e z v n xs) : ∀ k, v.ownBlock = some k → k < w.heap.size := fun k hk => (World.ownsRow.lt h k hk).2

set_option maxRecDepth 100000 in
set_option maxHeartbeats 4000000 in
theorem ofLaw_any (l : List Pt) (v : Value) (w : World) (hp : PI w 0 w.heap.size l v) (hl : l.length * 72 ≤ 140737488351232) (hr : ∀ q ∈ l, Roomy q) :
    Calls Try.prog 4 #[v] w fun e w' => e = .returned (.bool true) ∧ Below w.heap.size w w' := by
  have HFA := Lib.hid hp.fitA
  have HR := Lib.hid hr
  obtain ⟨a, cap, rfl, hcap, hat⟩ := hp.open
  have HA := Lib.hid hat
  clear hp hr hat
  go_enter Try.func4, Try.ntmps4
  go_wp2_with fail
  refine (awake_any _).mono ?_
  rintro e w1 ⟨rfl, hb1⟩
  go_wp2_with fail
  go_loopw [4, 5] (fun n i wr => ∃ (k : Nat) (r : Int), k ≤ l.length ∧ i = .int .i64 k ∧ n = .int .i64 r ∧ 0 ≤ r ∧ Below w.heap.size w wr) (fun _ i _ => l.length - (intOf i).toNat)
  case atStart => exact ⟨0, 0, Nat.zero_le _, rfl, rfl, Int.le_refl _, hb1⟩
  case round =>
    clear hb1
    obtain ⟨k, r, hkl, rfl, rfl, hr0, hB⟩ := hrel
    by_cases hlt : k < l.length
    · have q3 : decide (k < l.length) = true := by simpa using hlt
      by_cases hbig : r ≤ 134217728
      · have q4 : decide (r ≤ 134217728) = true := by simpa using hbig
        obtain ⟨b, off, u, rfl, _, hb, hc, hfit, hpi⟩ := HA.out k hlt
        obtain ⟨d0, d1, d2, d3, d4, d5⟩ := hc.same (Same.of_below hB (Nat.le_refl _)) (Nat.zero_le _) hb
        obtain ⟨q, hq⟩ : ∃ q, l[k] = q := ⟨_, rfl⟩
        rw [hq] at d0 d1 d2 d3 d4 hfit hpi
        obtain ⟨a2, cap2, rfl, _, _⟩ := hpi.open
        have HPI := Lib.hid (hpi.later hB)
        clear hc hq hpi
        go_wp2_with fail
        refine (weight_any q _ _ r hr0 hbig hfit HPI.out).mono ?_
        rintro e w2 ⟨r2, rfl, hr1, hr2, hb2⟩
        have hB2 := hB.trans (hb2.mono hB.size)
        clear hB hb2 d0 d1 d2 d3 d4 d5
        go_wp2_with fail
        refine ⟨?_, by simp [intOf]; omega⟩
        first
          | exact ⟨k + 1, r2, by omega, rfl, rfl, hr1, hB2⟩
          | ((repeat apply Exists.intro); exact ⟨⟨k + 1, r2, by omega, rfl, rfl, hr1, hB2⟩, rfl⟩)
      · have q4 : decide (r ≤ 134217728) = false := by simpa using hbig
        have q5 : decide (134217728 < r) = true := by simp; omega
        go_wp2_with fail
        go_ret
        exact ⟨rfl, hB⟩
    · have q3 : decide (k < l.length) = false := by simpa using hlt
      by_cases hbig : 134217728 < r
      · have q5 : decide (134217728 < r) = true := by simpa using hbig
        go_wp2_with fail
        go_ret
        exact ⟨rfl, hB⟩
      have q5 : decide (134217728 < r) = false := by simpa using hbig
      obtain ⟨B, hBs⟩ : ∃ B, wr.heap.size = B := ⟨_, rfl⟩
      have hwB : w.heap.size ≤ B := by have := hB.size; omega
      go_wp2_with fail
      clear q3 q5 hbig hlt hkl hr0
      go_loopw [6, 7, 8] (fun si sp i wr => ∃ (k : Nat) (us : List Value) (ps : List (Pt × Value)), k ≤ l.length ∧ i = .int .i64 k ∧ ps.length ≤ k ∧ wr.ownsRow B 31 1 si ps.length us ∧ wr.ownsRow B 27 6 sp ps.length (flat ps) ∧
        RowKit.Hid (Two wr B si.ownBlock sp.ownBlock (ps.map Prod.fst) us) ∧ RowKit.Hid (∀ x ∈ ps, x.1 ∈ l ∧ makeE x.1 = 0 ∧ PI w 0 w.heap.size x.1.items x.2) ∧ RowKit.Hid (ps = [] → si = .slice none 0 0) ∧ Below w.heap.size w wr ∧ B ≤ wr.heap.size) (fun _ _ i _ => l.length - (intOf i).toNat)
      case atStart => exact ⟨0, [], [], Nat.zero_le _, rfl, Nat.le_refl _, World.ownsRow_nil _ _ _ _, World.ownsRow_nil _ _ _ _, Lib.hid (Two.nil _ _), Lib.hid (fun x hx => by cases hx), Lib.hid (fun _ => rfl), hB, by omega⟩
      case round =>
        clear hB hBs
        obtain ⟨k, us, ps, hkl, rfl, hpk, hOi, hOp, HT, HP, HN, hB, hBw⟩ := hrel
        by_cases hlt : k < l.length
        · have q3 : decide (k < l.length) = true := by simpa using hlt
          obtain ⟨b, off, u, rfl, _, hb, hc, hfit, hpi⟩ := HA.out k hlt
          have hmem : l[k] ∈ l := List.getElem_mem _
          obtain ⟨q, hq⟩ : ∃ q, l[k] = q := ⟨_, rfl⟩
          rw [hq] at hc hfit hpi hmem
          have hcr := hc.same (Same.of_below hB (Nat.le_refl _)) (Nat.zero_le _) hb
          have hblt : b < wr.heap.size := Nat.lt_of_lt_of_le hb hB.size
          obtain ⟨a2, cap2, rfl, _, _⟩ := hpi.open
          have HPI := Lib.hid hpi
          have HCR := Lib.hid hcr
          obtain ⟨d0, d1, d2, d3, d4, d5⟩ := hcr
          clear hc hq hpi
          go_wp2_with fail
          refine (make_any q _ _ hfit (HPI.out.later hB)).mono ?_
          rintro e w2 ⟨x, rfl, hnil, hv, hb2⟩
          obtain ⟨E, hE⟩ : ∃ E, makeE q = E := ⟨_, rfl⟩
          rw [hE]
          have HV := Lib.hid hv
          have hB2 := hB.trans (hb2.mono hB.size)
          have HC2 := Lib.hid (HCR.out.same (Same.of_below hb2 (Nat.le_refl _)) (Nat.zero_le _) hblt)
          have hz2 := hb2.size
          clear d0 d1 d2 d3 d4 d5 hnil hv
          obtain ⟨d0, d1, d2, d3, d4, d5⟩ := HC2.out
          go_wp2_with fail
          refine (rmake_any q _ _ hfit (HPI.out.later hB2)).mono ?_
          rintro e w3 ⟨rfl, hb3⟩
          rw [hE]
          have hB3 := hB2.trans (hb3.mono hB2.size)
          have HC3 := Lib.hid (HC2.out.same (Same.of_below hb3 (Nat.le_refl _)) (Nat.zero_le _) (by omega))
          have hz3 := hb3.size
          have hb23 := hb2.trans (hb3.mono hz2)
          have HV3 := Lib.hid (fun h => (HV.out h).same (Same.of_below hb3 (Nat.le_refl _)))
          have hOi3 := own_below hOi hb23
          have hOp3 := own_below6 hOp hb23
          have HT3 := Lib.hid (HT.out.below hb23)
          clear d0 d1 d2 d3 d4 d5 hb2 hb3 hb23 HV HC2 HCR hB hB2
          have y1 : (E != E) = false := by simp
          by_cases h0 : E = 0
          · subst h0
            have HE := Lib.hid hE
            have hvx := Lib.hid (HV3.out hE)
            have hone : x = .nilIface ∨ ∃ T V, x = .iface T V := by
              by_cases hk : q.kind = 0
              · exact .inl (hvx.out.nilOf hk)
              · exact .inr (hvx.out.ifaceOf hk)
            have hIlt := Lib.hid (ownP_lt hOi)
            have hPlt := Lib.hid (ownP_lt hOp)
            have hIB := Lib.hid (fun k hk => (World.ownsRow.lt hOi k hk).1)
            have hPB := Lib.hid (fun k hk => (World.ownsRow.lt hOp k hk).1)
            clear hE HV3
            obtain ⟨d0, d1, d2, d3, d4, d5⟩ := HC3.out
            obtain ⟨i0, hinf, hz00, hz01, hz02⟩ := info_parts infoV
            obtain ⟨i1, hinf1, hz10, hz11, hz12⟩ := info_parts infoP
            rcases hone with rfl | ⟨T0, V0, rfl⟩
            all_goals
              go_wp2_with (first
                | (at_builtin; refine wpList_append_lies _ rfl (.tmp 65) (.tmp 67) 38 rfl B 31 i0 .nilIface 1 16 Try.underlying38 hinf hz00 hz01 hz02 rfl (by decide) u6 ps.length us (by simp [Act.eval, Act.put]) (hOi3.alloc _) ⟨w3.heap.size, 0, none⟩ 1 1 [_] (by simp [Act.eval, Act.put]) rfl (one_cell w3 _ _) (by intro y hy; simp at hy; subst hy; rfl) (by decide) (by unfold maxLen; omega) (by omega) (by simp; omega) _ rfl ?_; intro g4 cap4 w4 hO4 hg4 hl4 hgl4;
                    have hs4 : w3.heap.size + 1 ≤ w4.heap.size := (by have := hg4.size; simpa using this); have hbb : w4.heap[b]? = w3.heap[b]? := (hg4.block b (by simp; omega) (fun e => by have := hIB.out b e.symm; omega)).trans (Below.heap_alloc w3 _ b (by omega)); obtain ⟨e0, e1, e2, e3, e4, e5⟩ := HC3.out.block hbb; have hOp4 := (hOp3.alloc _).kept hg4 HT3.out.ne; have hblt4 : b < w4.heap.size := (by omega))
                | (at_builtin; refine wpList_append_lies _ rfl (.tmp 69) (.tmp 74) 25 rfl B 27 i1 _ 6 72 Try.underlying25 hinf1 hz10 hz11 hz12 rfl (by decide) u7 ps.length (flat ps) (by simp [Act.eval, Act.put]) (hOp4.alloc _) ⟨w4.heap.size, 0, none⟩ 1 1 (cellsOf q (.slice a2 q.items.length cap2)).toList (by simp [Act.eval, Act.put]) rfl (six_cells w4 _ _ rfl) (by intro y hy; simp [cellsOf] at hy; rcases hy with rfl | rfl | rfl | rfl | rfl | rfl <;> rfl) (by decide) (by unfold maxLen; omega) (by omega) (by simp; omega) _ rfl ?_; intro g5 cap5 w5 hO5 hg5 hl5 hgl5))
              have ST := of_step (s := .slice a2 q.items.length cap2) rfl hOp3 hOi3 HT3.out hvx.out hBw (by omega) hIlt.out hPlt.out hg4 hl4 hgl4 hO4 hg5 hl5 hO5
              have SB := ST.2.2.2 hwB hB3 (by omega)
              have HP2 : RowKit.Hid (∀ x ∈ ps ++ [(q, Value.slice a2 q.items.length cap2)], x.1 ∈ l ∧ makeE x.1 = 0 ∧ PI w 0 w.heap.size x.1.items x.2) := Lib.hid fun y hy => by
                rcases List.mem_append.1 hy with hy | hy
                · exact HP.out y hy
                · obtain rfl := List.mem_singleton.1 hy
                  exact ⟨hmem, HE.out, HPI.out⟩
              refine ⟨?_, by simp [intOf]; omega⟩
              first
                | exact ⟨k + 1, _, _, by omega, rfl, by simp; omega, ST.1, ST.2.1, Lib.hid ST.2.2.1, HP2, Lib.hid (fun h => by simp at h), SB.1, by omega⟩
                | ((repeat apply Exists.intro); exact ⟨⟨k + 1, _, _, by omega, rfl, by simp; omega, ST.1, ST.2.1, Lib.hid ST.2.2.1, HP2, Lib.hid (fun h => by simp at h), SB.1, by omega⟩, rfl⟩)
          · have y2 : (E == 0) = false := by simpa using h0
            clear h0 hE HV3
            go_wp2_with fail
            refine ⟨?_, by simp [intOf]; omega⟩
            first
              | exact ⟨k + 1, us, ps, by omega, rfl, by omega, hOi3, hOp3, HT3, HP, HN, hB3, by omega⟩
              | ((repeat apply Exists.intro); exact ⟨⟨k + 1, us, ps, by omega, rfl, by omega, hOi3, hOp3, HT3, HP, HN, hB3, by omega⟩, rfl⟩)
        · have q3 : decide (k < l.length) = false := by simpa using hlt
          have hPI := parts_PI hOp (fun x hx => ⟨(HFA.out x.1 (HP.out x hx).1).fit, (HP.out x hx).2.2.later hB⟩)
          have hFL0 : ∀ y ∈ ps.map Prod.fst, y ∈ l ∧ makeE y = 0 := fun y hy => by
            obtain ⟨x, hx, rfl⟩ := List.mem_map.1 hy
            exact ⟨(HP.out x hx).1, (HP.out x hx).2.1⟩
          have hN0 : ps.map Prod.fst = [] → u6 = .slice none 0 0 := fun h => HN.out (by simpa using h)
          have hLl : ps.length = (ps.map Prod.fst).length := by simp
          have hT0 := HT.out
          rw [hLl] at hOi hpk
          generalize ps.map Prod.fst = L at hPI hFL0 hN0 hOi hT0 hpk
          obtain ⟨ap, capp, rfl⟩ := own_form6 hOp
          obtain ⟨ai, capi, rfl⟩ := own_form hOi
          have HPL := Lib.hid hPI
          have HL := Lib.hid hFL0
          have HN0 := Lib.hid hN0
          have HT0 := Lib.hid hT0
          have hlL : L.length * 72 ≤ 140737488351232 := by omega
          have hFL : RowKit.Hid (∀ y ∈ L, FitA y) := Lib.hid fun y hy => HFA.out y (HL.out y hy).1
          have hRL : RowKit.Hid (∀ y ∈ L, Roomy y) := Lib.hid fun y hy => HR.out y (HL.out y hy).1
          have hIown := Lib.hid (World.ownsRow.lt hOi)
          clear hPI hFL0 hN0 hT0 HT HP HN hOp hLl
          go_wp2_with fail
          refine (rof_any L _ _ hFL.out hRL.out hlL HPL.out).mono ?_
          rintro e w5 ⟨kk, a5, n5, cap5, rfl, h5, hb5⟩
          obtain ⟨E, hE⟩ : ∃ E, ofE L = E := ⟨_, rfl⟩
          rw [hE] at h5 ⊢
          have H5 := Lib.hid h5
          have hA5 := (Below.refl w5.heap.size w5).alloc (Nat.le_refl _) (.cells #[.int .u8 kk, .bool false, .bool false, .string ⟨#[]⟩, .string ⟨#[]⟩, .slice a5 n5 cap5] 27)
          have hb5a := hb5.trans (hA5.mono hb5.size)
          have hOi5 := own_below hOi hb5a
          have hz5 := hb5.size
          have HVL : RowKit.Hid (∀ j (h : j < L.length), ∃ u, us[j]? = some u ∧ VI (w5.alloc (.cells #[.int .u8 kk, .bool false, .bool false, .string ⟨#[]⟩, .string ⟨#[]⟩, .slice a5 n5 cap5] 27)) 0 (w5.alloc (.cells #[.int .u8 kk, .bool false, .bool false, .string ⟨#[]⟩, .string ⟨#[]⟩, .slice a5 n5 cap5] 27)).heap.size L[j] u ∧ mayB L[j] = true ∧ depthP L[j] ≤ 16) := Lib.hid fun j hj => by
            obtain ⟨u, lo, hi, hu, hvi, _, hhi, _, _⟩ := HT0.out.1.2 j hj
            have hm := (HL.out _ (List.getElem_mem hj)).2
            exact ⟨u, hu, (hvi.wide (Nat.zero_le _) hhi).later hb5a, (makeE_ok hm).2, makeE_depth hm⟩
          clear h5
          go_wp2_with fail
          refine (of_any L us _ _ B hOi5 hlL HN0.out HVL.out).mono ?_
          rintro e w6 ⟨t, rfl, hnil, htup, hb6⟩
          rw [hE] at hnil htup ⊢
          have hb56 := hb5a.trans (hb6.mono (by simp; omega))
          have hB6 := hB.trans (hb56.mono hB.size)
          have y1 : (E != E) = false := by simp
          by_cases h0 : E = 0
          · subst h0
            obtain ⟨a6, cap6, rfl, hcap6, hat6⟩ := htup rfl
            obtain ⟨rfl, rfl, hpi5⟩ := H5.out rfl
            have hOi6 := own_below hOi5 hb6
            have HPI5 := Lib.hid hpi5
            have c0 : w6.cell? ⟨w5.heap.size, 0, none⟩ = some (.int .u8 7) := keep hb6 (by simp) (by simp)
            have c1 : w6.cell? ⟨w5.heap.size, 1, none⟩ = some (.bool false) := keep hb6 (by simp) (by simp)
            have c2 : w6.cell? ⟨w5.heap.size, 2, none⟩ = some (.bool false) := keep hb6 (by simp) (by simp)
            have c3 : w6.cell? ⟨w5.heap.size, 3, none⟩ = some (.string ⟨#[]⟩) := keep hb6 (by simp) (by simp)
            have c4 : w6.cell? ⟨w5.heap.size, 4, none⟩ = some (.string ⟨#[]⟩) := keep hb6 (by simp) (by simp)
            have c5 : w6.cell? ⟨w5.heap.size, 5, none⟩ = some (.slice a5 L.length cap5) := keep hb6 (by simp) (by simp)
            have HC := Lib.hid (And.intro c0 (And.intro c1 (And.intro c2 (And.intro c3 (And.intro c4 c5)))))
            have hz6 : w5.heap.size + 1 ≤ w6.heap.size := by have := hb6.size; simp at this; omega
            have hV : RowKit.Hid (VIS w6 (fun b => (Value.slice ai L.length capi).ownBlock ≠ some b) (pT L) (.iface 76 (.agg #[.slice a6 L.length cap6]))) := Lib.hid (by
              refine VIS.tuple (pT L) rfl a6 cap6 (fun j => us.getD j .nilIface) hcap6 (fun j hj => ?_) (fun j hj => ?_)
              · obtain ⟨g, u, ha, h1, h2, hu, hc⟩ := hat6 j hj
                refine ⟨g, ha, fun e => ?_, by rw [List.getD, hu]; exact hc⟩
                have := hIown.out g e
                simp at h1
                omega
              · obtain ⟨u, lo, hi, hu, hvi, _, hhi, hgi, _⟩ := HT0.out.1.2 j hj
                rw [List.getD, hu]
                exact (hvi.same (Same.of_below hb56 hhi)).toS (fun b h1 h2 e => by have := hgi b e; omega))
            have HE := Lib.hid hE
            clear hnil htup H5 hat6 hpi5 HVL hOi5 hOi c0 c1 c2 c3 c4 c5 hE
            go_wp2_with fail
            go_loopw [16] (fun i wr => ∃ (k : Nat) (us' : List Value), k ≤ L.length ∧ i = .int .i64 k ∧ wr.ownsRow B 31 1 (.slice ai L.length capi) L.length us' ∧ RowKit.Hid (∀ b, (Value.slice ai L.length capi).ownBlock ≠ some b → wr.heap[b]? = w6.heap[b]?) ∧ RowKit.Hid (Below B w6 wr) ∧ wr.heap.size = w6.heap.size) (fun i _ => L.length - (intOf i).toNat)
            case atStart => exact ⟨0, us, Nat.zero_le _, rfl, hOi6, Lib.hid (fun _ _ => rfl), Lib.hid (Below.refl _ _), rfl⟩
            case round =>
              clear hOi6
              obtain ⟨k, us', hkl, rfl, hO, HQ, HBq, hsz⟩ := hrel
              by_cases hlt : k < L.length
              · have q3 : decide (k < L.length) = true := by simpa using hlt
                have hlen' := hO.1
                rcases hO.2 with ⟨_, hn⟩ | ⟨g, cap', cur, he, hgB, _⟩
                · omega
                simp only [Value.slice.injEq, true_and] at he
                obtain ⟨rfl, rfl⟩ := he
                have y0 : wr.cell? ⟨g, k, none⟩ = some (us'[k]'(by omega)) := by
                  rw [World.ownsRow.cellAt hO k (by omega)]
                  exact List.getElem?_eq_getElem _
                have z0 := World.ownsRow.frozenAt hO k
                have hgl : g < wr.heap.size := World.block_lt_of_cell? wr _ y0
                have HO := Lib.hid hO
                clear hO
                go_wp2_with fail
                refine ⟨⟨k + 1, _, by omega, rfl, (World.ownsRow.stored HO.out k _).1, Lib.hid (fun b hb => (Below.heap_setCell _ _ _ _ (by rintro rfl; exact hb rfl)).trans (HQ.out b hb)), Lib.hid (HBq.out.setCell hgB _), by simp [World.setCell]; exact hsz⟩, by simp [intOf]; omega⟩
              · have q3 : decide (k < L.length) = false := by simpa using hlt
                obtain ⟨c0, c1, c2, c3, c4, c5⟩ := HC.out
                have hne5 : ∀ b, w5.heap.size ≤ b → (Value.slice ai L.length capi).ownBlock ≠ some b := fun b hb e => by have := hIown.out b e; omega
                have hcc : ∀ c x, w6.cell? ⟨w5.heap.size, c, none⟩ = some x → wr.cell? ⟨w5.heap.size, c, none⟩ = some x := fun c x h => (World.cell?_of_block (w := w6) (a := ⟨w5.heap.size, c, none⟩) (HQ.out _ (hne5 _ (Nat.le_refl _)))).trans h
                replace c0 := hcc _ _ c0
                replace c1 := hcc _ _ c1
                replace c2 := hcc _ _ c2
                replace c3 := hcc _ _ c3
                replace c4 := hcc _ _ c4
                replace c5 := hcc _ _ c5
                have hm : RowKit.Hid (mayB (pT L) = true) := Lib.hid (mayT (by
                  rcases ofE_three L with ⟨_, h⟩ | ⟨_, _, h⟩ | ⟨h, _, _⟩
                  · rw [HE.out] at h; cases h
                  · rw [HE.out] at h; cases h
                  · omega) (fun y hy => (makeE_ok (HL.out y hy).2).2))
                have hd : depthP (pT L) ≤ 16 := by
                  rcases ofE_three L with ⟨_, h⟩ | ⟨_, _, h⟩ | ⟨_, h, _⟩
                  · rw [HE.out] at h; cases h
                  · rw [HE.out] at h; cases h
                  · rcases Nat.lt_or_ge 16 (depthP (pT L)) with h3 | h3
                    · rw [(deepB_iff 16 (pT L)).2 h3] at h; cases h
                    · exact h3
                have hPI : RowKit.Hid (PI wr 0 wr.heap.size L (.slice a5 L.length cap5)) := Lib.hid (((HPI5.out.same (Same.of_below (hA5.trans (hb6.mono (by simp))) (Nat.le_refl _))).same (fun b h1 _ => HQ.out b (fun e => by have := hIown.out b e; omega))).wide (Nat.zero_le _) (by omega))
                have hVI := Lib.hid (hV.out.same HQ.out).vi
                have hBf : Below w.heap.size w wr := hB6.trans (HBq.out.mono hwB)
                clear hcc hne5 HQ HBq hO
                go_wp2_with fail
                refine (looks_T L _ _ a5 cap5 hm.out (.mk _ (fitT hlL) hFL.out) (by omega) hPI.out hVI.out).mono ?_
                rintro e w7 ⟨rfl, hb7⟩
                have hBz := two hBf hb7
                clear c0 c1 c2 c3 c4 c5
                go_wp2_with fail
                go_ret
                exact ⟨rfl, hBz⟩
          · obtain rfl := hnil h0
            have y2 : (E != 0) = true := by simpa using h0
            clear h0 hE htup hnil H5
            go_wp2_with fail
            go_ret
            exact ⟨rfl, hB6⟩
end Go.Proofs.Ytcgphlilijeifaa.V
