/-
  Kept: a part that was lent is as it was.
-/
import Derived.Test.YtcgphlilijeifaaVWrite
import Derived.Deep.RegionHeld3
namespace Go.Proofs.Ytcgphlilijeifaa.V
open Go.RowKit

theorem PI.atK {w : World} {lo hi n cap : Nat} {l : List Pt} {a : Option Addr} (h : PI w lo hi l (.slice a n cap)) :
    ∀ j (h : j < l.length), ∃ b off u, a = some ⟨b, off, none⟩ ∧ lo ≤ b ∧ b < hi ∧ PartCells w b (off + j * 6) l[j] u ∧ Fit l[j] ∧ PI w lo hi l[j].items u := by
  obtain ⟨a', cap', he, _, hat⟩ := h.open
  injection he with h1 h2 h3
  subst h1
  exact hat
/-- A list that was lent. -/
theorem OwnI.lent {w : World} {lo hi : Nat} {l : List Pt} {v : Value} (h : OwnI w true lo hi l v) :
    ∃ (g : Nat) (F : Nat → Value) (L H : Nat → Nat), v = .slice (some ⟨g, 0, none⟩) l.length (l.length + 2) ∧ lo ≤ g ∧ g < hi ∧ (∀ j (h : j < l.length), PartCells w g (j * 6) l[j] (F j) ∧ OwnI w true (L j) (H j) l[j].items (F j) ∧ lo ≤ L j ∧ L j ≤ H j ∧ H j ≤ hi) ∧
      MarkCells w g (l.length * 6) ∧ MarkCells w g (l.length * 6 + 6) := by
  cases h with
  | nil _ _ hm => cases hm
  | row _ _ _ g cap cur F L H h1 h2 blk hcap hsz hmax cells fits rng apart room deep =>
    obtain ⟨rfl, m1, m2⟩ := room rfl
    exact ⟨g, F, L, H, rfl, h1, h2, fun j hj => ⟨cells j hj, deep j hj, (rng j hj).1, (rng j hj).2.1, (rng j hj).2.2.1⟩, m1, m2⟩

set_option maxRecDepth 100000 in
set_option maxHeartbeats 1500000 in
theorem kept_any (p : Pt) : ∀ (v : Value) (a : Option Addr) (cap : Nat) (w : World) (lo hi : Nat), Roomy p → OwnI w true lo hi p.items v → hi ≤ w.heap.size → PI w 0 w.heap.size p.items (.slice a p.items.length cap) →
    Calls Try.prog 24 #[.agg #[.int .u8 p.kind, .bool p.yes, .bool p.neg, .string p.mag, .string p.raw, v], .agg #[.int .u8 p.kind, .bool p.yes, .bool p.neg, .string p.mag, .string p.raw, .slice a p.items.length cap]] w
      fun e w' => e = .returned (.bool true) ∧ Below w.heap.size w w' := by
  induction p using Pt.ind with
  | h p ih =>
  intro v a cap w lo hi hroom hown hhi hp
  have hlen := hroom.len
  have HR := Lib.hid hroom
  have IH := Lib.hid ih
  have HA := Lib.hid hp.atK
  obtain ⟨g, F, L, H, rfl, hg1, hg2, hat, hm1, hm2⟩ := hown.lent
  have HO := Lib.hid hat
  have HM1 := Lib.hid hm1
  have HM2 := Lib.hid hm2
  have hglt : g < w.heap.size := by omega
  have q0 : ((p.kind : Int) != (p.kind : Int)) = false := by simp
  have q1 : (p.yes != p.yes) = false := by simp
  have h24 := neq_num p.neg p.neg p.mag p.mag true (by simp)
  have qL : ((p.items.length : Int) != (p.items.length : Int)) = false := by simp
  have hA1 := (Below.refl w.heap.size w).alloc (Nat.le_refl _) (.cells #[.int .u8 p.kind, .bool p.yes, .bool p.neg, .string p.mag, .string p.raw, .slice (some ⟨g, 0, none⟩) p.items.length (p.items.length + 2)] 27)
  have hA2 : Below w.heap.size w _ := hA1.alloc (by simp) (.cells #[.int .u8 p.kind, .bool p.yes, .bool p.neg, .string p.mag, .string p.raw, .slice a p.items.length cap] 27)
  have hbx := Lib.hid ((Box.new w p (.slice (some ⟨g, 0, none⟩) p.items.length (p.items.length + 2)) 27).later ((Below.refl _ _).alloc (Nat.le_refl _) (.cells #[.int .u8 p.kind, .bool p.yes, .bool p.neg, .string p.mag, .string p.raw, .slice a p.items.length cap] 27)) (by simp))
  have hby : RowKit.Hid (Box ((w.alloc (.cells #[.int .u8 p.kind, .bool p.yes, .bool p.neg, .string p.mag, .string p.raw, .slice (some ⟨g, 0, none⟩) p.items.length (p.items.length + 2)] 27)).alloc (.cells #[.int .u8 p.kind, .bool p.yes, .bool p.neg, .string p.mag, .string p.raw, .slice a p.items.length cap] 27)) (w.heap.size + 1) p (.slice a p.items.length cap)) :=
    Lib.hid (by have := Box.new (w.alloc (.cells #[.int .u8 p.kind, .bool p.yes, .bool p.neg, .string p.mag, .string p.raw, .slice (some ⟨g, 0, none⟩) p.items.length (p.items.length + 2)] 27)) p (.slice a p.items.length cap) 27; simpa using this)
  clear ih hroom hown hat hm1 hm2 hp hA1
  go_enter Try.func24, Try.ntmps24
  go_wp2_with fail
  go_loopw [5] (fun i wr => ∃ k : Nat, k ≤ p.items.length ∧ i = .int .i64 k ∧ RowKit.Hid (Box wr w.heap.size p (.slice (some ⟨g, 0, none⟩) p.items.length (p.items.length + 2))) ∧ RowKit.Hid (Box wr (w.heap.size + 1) p (.slice a p.items.length cap)) ∧ Below w.heap.size w wr) (fun i _ => p.items.length - (intOf i).toNat)
  case atStart => exact ⟨0, Nat.zero_le _, rfl, hbx, hby, hA2⟩
  case round =>
    clear hbx hby hA2
    obtain ⟨k, hkl, rfl, HX, HY, hB⟩ := hrel
    obtain ⟨_, ⟨c0, c1, c2, c3, c4, c5⟩⟩ := HX.out
    obtain ⟨_, ⟨e0, e1, e2, e3, e4, e5⟩⟩ := HY.out
    by_cases hlt : k < p.items.length
    · have q3 : decide (k < p.items.length) = true := by simpa using hlt
      obtain ⟨hpc, hok, b1, b2, b3⟩ := HO.out k hlt
      obtain ⟨b, off, y, rfl, _, hb, hc, _, hpi⟩ := HA.out k hlt
      have hpcr := hpc.same (Same.of_below hB (Nat.le_refl _)) (Nat.zero_le g) hglt
      have hcr := hc.same (Same.of_below hB (Nat.le_refl _)) (Nat.zero_le b) hb
      have hmem : p.items[k] ∈ p.items := List.getElem_mem _
      obtain ⟨q, hq⟩ : ∃ q, p.items[k] = q := ⟨_, rfl⟩
      obtain ⟨u, hu⟩ : ∃ u, F k = u := ⟨_, rfl⟩
      rw [hq, hu] at hpcr hok
      rw [hq] at hcr hpi hmem
      obtain ⟨a2, cap2, rfl⟩ := hok.form
      obtain ⟨a3, cap3, rfl, _, _⟩ := hpi.open
      have HOK := Lib.hid (hok.same (Same.of_below hB (by omega)))
      have HPI := Lib.hid (hpi.later hB)
      have hbz := hB.size
      obtain ⟨d0, d1, d2, d3, d4, d5⟩ := hpcr
      obtain ⟨f0, f1, f2, f3, f4, f5⟩ := hcr
      have hB3 : H k ≤ wr.heap.size := by omega
      clear hq hu hok hpi hpc hc b1 b2 b3
      have hb6 := (Below.refl wr.heap.size wr).drew
      have hbb := Below.refl wr.heap.size wr
      go_wp2_with fail
      go_region_held3 (fun w' => w'.cell? ⟨w.heap.size, 5, none⟩ = some (.slice (some ⟨g, 0, none⟩) p.items.length (p.items.length + 2)) ∧ w'.cell? ⟨w.heap.size + 1, 5, none⟩ = some (.slice (some ⟨b, off, none⟩) p.items.length cap) ∧ w'.cell? ⟨g, k * 6, none⟩ = some (.int .u8 q.kind) ∧ w'.cell? ⟨g, k * 6 + 1, none⟩ = some (.bool q.yes) ∧ w'.cell? ⟨g, k * 6 + 2, none⟩ = some (.bool q.neg) ∧ w'.cell? ⟨g, k * 6 + 3, none⟩ = some (.string q.mag) ∧ w'.cell? ⟨g, k * 6 + 4, none⟩ = some (.string q.raw) ∧ w'.cell? ⟨g, k * 6 + 5, none⟩ = some (.slice a2 q.items.length cap2) ∧ w'.cell? ⟨b, off + k * 6, none⟩ = some (.int .u8 q.kind) ∧ w'.cell? ⟨b, off + k * 6 + 1, none⟩ = some (.bool q.yes) ∧ w'.cell? ⟨b, off + k * 6 + 2, none⟩ = some (.bool q.neg) ∧ w'.cell? ⟨b, off + k * 6 + 3, none⟩ = some (.string q.mag) ∧ w'.cell? ⟨b, off + k * 6 + 4, none⟩ = some (.string q.raw) ∧ w'.cell? ⟨b, off + k * 6 + 5, none⟩ = some (.slice a3 q.items.length cap3) ∧ Below wr.heap.size wr w') (go_keep) (first
        | (go_at_call 24; refine (IH.out q hmem _ _ _ _ (L k) (H k) (HR.out.item hmem) (HOK.out.same (Same.of_below (show Below wr.heap.size wr _ from by assumption) hB3)) (Nat.le_trans hB3 (show Below wr.heap.size wr _ from by assumption).size) (HPI.out.later (by assumption))).mono ?_; rintro e w9 ⟨rfl, hb9⟩; have k0 := keeps hb9 (p := ⟨w.heap.size, 5, none⟩) (v := .slice (some ⟨g, 0, none⟩) p.items.length (p.items.length + 2)) (by assumption); have k1 := keeps hb9 (p := ⟨w.heap.size + 1, 5, none⟩) (v := .slice (some ⟨b, off, none⟩) p.items.length cap) (by assumption); have k2 := keeps hb9 (p := ⟨g, k * 6, none⟩) (v := .int .u8 q.kind) (by assumption); have k3 := keeps hb9 (p := ⟨g, k * 6 + 1, none⟩) (v := .bool q.yes) (by assumption); have k4 := keeps hb9 (p := ⟨g, k * 6 + 2, none⟩) (v := .bool q.neg) (by assumption); have k5 := keeps hb9 (p := ⟨g, k * 6 + 3, none⟩) (v := .string q.mag) (by assumption); have k6 := keeps hb9 (p := ⟨g, k * 6 + 4, none⟩) (v := .string q.raw) (by assumption); have k7 := keeps hb9 (p := ⟨g, k * 6 + 5, none⟩) (v := .slice a2 q.items.length cap2) (by assumption); have k8 := keeps hb9 (p := ⟨b, off + k * 6, none⟩) (v := .int .u8 q.kind) (by assumption); have k9 := keeps hb9 (p := ⟨b, off + k * 6 + 1, none⟩) (v := .bool q.yes) (by assumption); have k10 := keeps hb9 (p := ⟨b, off + k * 6 + 2, none⟩) (v := .bool q.neg) (by assumption); have k11 := keeps hb9 (p := ⟨b, off + k * 6 + 3, none⟩) (v := .string q.mag) (by assumption); have k12 := keeps hb9 (p := ⟨b, off + k * 6 + 4, none⟩) (v := .string q.raw) (by assumption); have k13 := keeps hb9 (p := ⟨b, off + k * 6 + 5, none⟩) (v := .slice a3 q.items.length cap3) (by assumption); have kb := two (a := _) (by assumption) hb9))
      have hB2 := hB.trans (kb.mono hbz)
      have hx2 := Lib.hid (HX.out.later kb HX.out.lt)
      have hy2 := Lib.hid (HY.out.later kb HY.out.lt)
      clear c0 c1 c2 c3 c4 c5 d0 d1 d2 d3 d4 d5 e0 e1 e2 e3 e4 e5 f0 f1 f2 f3 f4 f5 HX HY hB hb6 hbb
      go_wp2_with fail
      refine ⟨⟨k + 1, by omega, rfl, hx2, hy2, hB2⟩, by simp [intOf]; omega⟩
    · have q3 : decide (k < p.items.length) = false := by simpa using hlt
      have hkl2 : k = p.items.length := by omega
      clear e0 e1 e2 e3 e4 e5
      go_wp2_with fail
      clear c0 c1 c2 c3 c4 c5
      have hm1 := Lib.hid (HM1.out.same (Same.of_below hB (Nat.le_refl _)) (Nat.zero_le g) hglt)
      have hm2 := Lib.hid (HM2.out.same (Same.of_below hB (Nat.le_refl _)) (Nat.zero_le g) hglt)
      go_loopw [7] (fun i wt => ∃ k : Nat, p.items.length ≤ k ∧ k ≤ p.items.length + 2 ∧ i = .int .i64 k ∧ wt = wr) (fun i _ => p.items.length + 2 - (intOf i).toNat)
      case atStart => exact ⟨p.items.length, Nat.le_refl _, by omega, rfl, rfl⟩
      case round =>
        obtain ⟨k, hk1, hk2, rfl, rfl⟩ := hrel
        by_cases hlt2 : k < p.items.length + 2
        · have q4 : decide (k < p.items.length + 2) = true := by simpa using hlt2
          have m0 : wr.cell? ⟨g, k * 6, none⟩ = some (.int .u8 99) ∧ wr.cell? ⟨g, k * 6 + 4, none⟩ = some (.string ⟨#[109, 97, 114, 107]⟩) := by
            rcases (show k = p.items.length ∨ k = p.items.length + 1 by omega) with rfl | rfl
            · exact ⟨hm1.out.c0, hm1.out.c4⟩
            · have e : (p.items.length + 1) * 6 = p.items.length * 6 + 6 := by omega
              rw [e]
              exact ⟨hm2.out.c0, hm2.out.c4⟩
          obtain ⟨m0, m4⟩ := m0
          go_wp2_with fail
          refine ⟨⟨k + 1, by omega, by omega, rfl, by first | rfl | trivial⟩, by simp [intOf]; omega⟩
        · have q4 : decide (k < p.items.length + 2) = false := by simpa using hlt2
          go_wp2_with fail
          go_ret
          exact ⟨rfl, hB⟩
end Go.Proofs.Ytcgphlilijeifaa.V
