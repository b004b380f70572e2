/-
  Lent: a part in memory of its own, with two marks behind each list.
-/
import Derived.Test.YtcgphlilijeifaaVKept
import Derived.Test.YtcgphlilijeifaaVCopied
import Derived.Deep.RegionLaw
import Derived.Laws.MakeOwn
import Derived.Deep.RegionHeld3
namespace Go.Proofs.Ytcgphlilijeifaa.V
open Go.RowKit

def pMark : Pt := .mk 99 false false ⟨#[]⟩ ⟨#[109, 97, 114, 107]⟩ []
theorem mark_of {w : World} {g o : Nat} (h : PartCells w g o pMark (.slice none 0 0)) : MarkCells w g o := ⟨h.c0, h.c1, h.c2, h.c3, h.c4, h.c5⟩
theorem of_mark {w : World} {g o : Nat} (h : MarkCells w g o) : PartCells w g o pMark (.slice none 0 0) := ⟨h.c0, h.c1, h.c2, h.c3, h.c4, h.c5⟩
theorem made_row (n : Nat) (h : n * 72 ≤ 140737488351232) : ∃ cs : Array Value, cs.size = (n + 2) * 6 ∧ ∀ w : World, (Instr.makeSlice 25 (.int .i64 n) (.int .i64 ((n : Int) + 2))).run Try.prog w = .ok (.slice (some ⟨w.heap.size, 0, none⟩) n (n + 2)) (w.alloc (.cells cs 27)) := by
  obtain ⟨i, hi, hz, hs, hb⟩ := info_parts infoP
  refine ⟨madeCells (Value.agg #[.int .u8 0, .bool false, .bool false, .string ⟨#[]⟩, .string ⟨#[]⟩, .slice none 0 0]).cells ((n + 2) * 6), size_madeCells _ _, fun w => ?_⟩
  have := run_make (P := Try.prog) w 25 27 i _ Try.underlying25 hi hz .i64 .i64 n ((n : Int) + 2) (by omega) (by omega) (by rw [hb]; omega) (by omega)
  rw [this, hs]
  have e1 : ((n : Int) + 2).toNat = n + 2 := by omega
  rw [e1, Int.toNat_natCast]

theorem Blank.block {w w1 : World} {b : Nat} (h : Blank w b) (hb : w1.heap[b]? = w.heap[b]?) : Blank w1 b := by
  have k : ∀ c x, w.cell? ⟨b, c, none⟩ = some x → w1.cell? ⟨b, c, none⟩ = some x := fun c x hx => (World.cell?_of_block (w := w) (a := ⟨b, c, none⟩) hb).trans hx
  have z : ∀ c, w.frozen? ⟨b, c, none⟩ = false → w1.frozen? ⟨b, c, none⟩ = false := fun c hx => (World.frozen?_of_block (w := w) (a := ⟨b, c, none⟩) hb).trans hx
  exact ⟨k _ _ h.c0, k _ _ h.c1, k _ _ h.c2, k _ _ h.c3, k _ _ h.c4, k _ _ h.c5, z _ h.f0, z _ h.f1, z _ h.f2, z _ h.f3, z _ h.f4, z _ h.f5⟩
/-- What the parts of a list that is being lent lead to. -/
def LKids (w : World) (B g : Nat) (l : List Pt) (k : Nat) (F : Nat → Value) (L H : Nat → Nat) : Prop :=
  (∀ j (h : j < l.length), j < k → PartCells w g (j * 6) l[j] (F j) ∧ OwnI w true (L j) (H j) l[j].items (F j) ∧ B ≤ L j ∧ L j ≤ H j ∧ H j ≤ w.heap.size) ∧ ∀ i j, i < j → j < k → H i ≤ L j
theorem LKids.keep {w w' : World} {B g : Nat} {l : List Pt} {k : Nat} {F : Nat → Value} {L H : Nat → Nat} (h : LKids w B g l k F L H) (hs : w.heap.size ≤ w'.heap.size) (hp : ∀ j (hj : j < l.length), j < k → PartCells w' g (j * 6) l[j] (F j)) (hb : ∀ x, B ≤ x → x < w.heap.size → w'.heap[x]? = w.heap[x]?) : LKids w' B g l k F L H :=
  ⟨fun j hj hk => by
    obtain ⟨h1, h2, h3, h4, h5⟩ := h.1 j hj hk
    exact ⟨hp j hj hk, h2.same (fun x a b => hb x (by omega) (by omega)), h3, h4, by omega⟩, h.2⟩
/-- One more. -/
theorem LKids.snoc {w w' : World} {B g : Nat} {l : List Pt} {k : Nat} {F : Nat → Value} {L H : Nat → Nat} {u : Value} (h : LKids w B g l k F L H) (hk : k < l.length) (hs : w.heap.size ≤ w'.heap.size) (hp : ∀ j (hj : j < l.length), j < k → PartCells w' g (j * 6) l[j] (F j)) (hb : ∀ x, B ≤ x → x < w.heap.size → w'.heap[x]? = w.heap[x]?)
    (hn : PartCells w' g (k * 6) l[k] u) (ho : OwnI w' true w.heap.size w'.heap.size l[k].items u) (hB : B ≤ w.heap.size) :
    LKids w' B g l (k + 1) (fun j => if j = k then u else F j) (fun j => if j = k then w.heap.size else L j) (fun j => if j = k then w'.heap.size else H j) := by
  have h' := h.keep hs hp hb
  refine ⟨fun j hj hjk => ?_, fun i j hij hjk => ?_⟩
  · by_cases e : j = k
    · subst e; simp only [if_true]; exact ⟨hn, ho, hB, hs, Nat.le_refl _⟩
    · simp only [e, if_false]; exact h'.1 j hj (by omega)
  · by_cases e : j = k
    · subst e
      simp only [if_true, show ¬ i = j by omega, if_false]
      exact (h.1 i (by omega) (by omega)).2.2.2.2
    · simp only [e, show ¬ i = k by omega, if_false]
      exact h.2 i j hij (by omega)

def LentPost (p : Pt) (w : World) (e : Ending) (w' : World) : Prop := ∃ g, e = .returned (.agg #[.int .u8 p.kind, .bool p.yes, .bool p.neg, .string p.mag, .string p.raw, .slice (some ⟨g, 0, none⟩) p.items.length (p.items.length + 2)]) ∧
  OwnI w' true w.heap.size w'.heap.size p.items (.slice (some ⟨g, 0, none⟩) p.items.length (p.items.length + 2)) ∧ Below w.heap.size w w'

set_option maxRecDepth 100000 in
set_option maxHeartbeats 1500000 in
theorem lent_any (p : Pt) : ∀ (v : Value) (w : World), FitA p → Roomy p → PI w 0 w.heap.size p.items v →
    Calls Try.prog 23 #[.agg #[.int .u8 p.kind, .bool p.yes, .bool p.neg, .string p.mag, .string p.raw, v]] w (LentPost p w) := by
  induction p using Pt.ind with
  | h p ih =>
  intro v w hfa hroom hp
  obtain ⟨a, cap, rfl, hcap, hat⟩ := hp.open
  have hlen := hroom.len
  obtain ⟨cs, hcs, hmk⟩ := made_row p.items.length hlen
  have HA := Lib.hid hat
  have IH := Lib.hid ih
  have HF := Lib.hid hfa
  have HR := Lib.hid hroom
  clear hat ih hfa hroom hp
  go_enter Try.func23, Try.ntmps23
  go_wp2_with fail
  obtain ⟨T, hT⟩ : ∃ T, w.heap.size + 1 + 1 = T := ⟨_, rfl⟩
  obtain ⟨G, hG⟩ : ∃ G, T + 1 = G := ⟨_, rfl⟩
  rw [hT, hG]
  go_loopw [4] (fun i wr => ∃ (k : Nat) (xs : List Value) (F : Nat → Value) (L H : Nat → Nat), k ≤ p.items.length ∧ i = .int .i64 k ∧ RowKit.Hid (Box wr w.heap.size p (.slice a p.items.length cap)) ∧ RowKit.Hid (Box wr T p (.slice (some ⟨G, 0, none⟩) p.items.length (p.items.length + 2))) ∧ RowKit.Hid (Blank wr (w.heap.size + 1)) ∧
    wr.ownsRow G 27 6 (.slice (some ⟨G, 0, none⟩) (p.items.length + 2) (p.items.length + 2)) (p.items.length + 2) xs ∧ RowKit.Hid (LKids wr (G + 1) G p.items k F L H) ∧ Below w.heap.size w wr ∧ G + 1 ≤ wr.heap.size) (fun i _ => p.items.length - (intOf i).toNat)
  case atStart =>
    subst hT hG
    refine ⟨0, cs.toList, fun _ => .nilIface, fun _ => 0, fun _ => 0, Nat.zero_le _, rfl, Lib.hid ⟨by simp; omega, ?_⟩, Lib.hid ⟨by simp, ?_⟩, Lib.hid ?_, ?_, Lib.hid ⟨fun j _ h => by omega, fun i j _ h => by omega⟩, ?_, by simp⟩
    · constructor <;> simp [go_sem]
    · constructor <;> simp [go_sem]
    · constructor <;> simp [go_sem]
    · have := World.ownsRow_lit (base := w.heap.size + 1 + 1 + 1) (e := 27) (size := 6) (((w.alloc (.cells #[.int .u8 p.kind, .bool p.yes, .bool p.neg, .string p.mag, .string p.raw, .slice a p.items.length cap] 27)).alloc (.cells #[.int .u8 0, .bool false, .bool false, .string ⟨#[]⟩, .string ⟨#[]⟩, .slice none 0 0] 27)).alloc
        (.cells #[.int .u8 p.kind, .bool p.yes, .bool p.neg, .string p.mag, .string p.raw, .slice (some ⟨w.heap.size + 1 + 1 + 1, 0, none⟩) p.items.length (p.items.length + 2)] 27)) cs (p.items.length + 2) (by simp) (by unfold maxLen; omega) hcs
      simpa using this
    · exact (((((Below.refl _ _).alloc (Nat.le_refl _) _).alloc (by simp) _).alloc (by simp; omega) _).alloc (by simp; omega) _)
  case round =>
    obtain ⟨k, xs, F, L, H, hkl, rfl, HX, HT, HB, hO, HK, hB, hsz⟩ := hrel
    obtain ⟨_, ⟨c0, c1, c2, c3, c4, c5⟩⟩ := HX.out
    obtain ⟨_, ⟨t0, t1, t2, t3, t4, t5⟩⟩ := HT.out
    by_cases hlt : k < p.items.length
    · have q3 : decide (k < p.items.length) = true := by simpa using hlt
      have q5 : decide (k < p.items.length + 2) = true := by simp; omega
      obtain ⟨b, off, y, rfl, _, hb, hc, _, hpi⟩ := HA.out k hlt
      have hcr := hc.same (Same.of_below hB (Nat.le_refl _)) (Nat.zero_le b) hb
      have hmem : p.items[k] ∈ p.items := List.getElem_mem _
      obtain ⟨q, hq⟩ : ∃ q, p.items[k] = q := ⟨_, rfl⟩
      rw [hq] at hcr hpi hmem
      have HQ := Lib.hid hq
      obtain ⟨a2, cap2, rfl, _, _⟩ := hpi.open
      have HPI := Lib.hid (hpi.later hB)
      have hfq := Lib.hid (HF.out.item hmem)
      have hrq := Lib.hid (HR.out.item hmem)
      obtain ⟨d0, d1, d2, d3, d4, d5⟩ := hcr
      have HO := Lib.hid hO
      have hGl : G < wr.heap.size := by omega
      have n1 : G ≠ T := by omega
      have n2 : G ≠ w.heap.size := by omega
      have n3 : G ≠ b := by omega
      have hb6 := (Below.refl wr.heap.size wr).drew
      have hbb := Below.refl wr.heap.size wr
      clear hq hpi hc hO
      go_wp2_with fail
      go_region_held3 (fun w' => w'.cell? ⟨T, 5, none⟩ = some (.slice (some ⟨G, 0, none⟩) p.items.length (p.items.length + 2)) ∧ w'.cell? ⟨w.heap.size, 5, none⟩ = some (.slice (some ⟨b, off, none⟩) p.items.length cap) ∧ w'.cell? ⟨b, off + k * 6, none⟩ = some (.int .u8 q.kind) ∧ w'.cell? ⟨b, off + k * 6 + 1, none⟩ = some (.bool q.yes) ∧ w'.cell? ⟨b, off + k * 6 + 2, none⟩ = some (.bool q.neg) ∧ w'.cell? ⟨b, off + k * 6 + 3, none⟩ = some (.string q.mag) ∧ w'.cell? ⟨b, off + k * 6 + 4, none⟩ = some (.string q.raw) ∧ w'.cell? ⟨b, off + k * 6 + 5, none⟩ = some (.slice a2 q.items.length cap2)) (go_keep) (first
        | (go_at_call 23; refine (IH.out q hmem _ _ hfq.out hrq.out (HPI.out.later (by assumption))).mono ?_; rintro e w9 ⟨g9, rfl, hown, hb9⟩; have HW := Lib.hid hown; have k0 := keeps hb9 (p := ⟨T, 5, none⟩) (v := .slice (some ⟨G, 0, none⟩) p.items.length (p.items.length + 2)) (by assumption); have k1 := keeps hb9 (p := ⟨w.heap.size, 5, none⟩) (v := .slice (some ⟨b, off, none⟩) p.items.length cap) (by assumption); have k2 := keeps hb9 (p := ⟨b, off + k * 6, none⟩) (v := .int .u8 q.kind) (by assumption); have k3 := keeps hb9 (p := ⟨b, off + k * 6 + 1, none⟩) (v := .bool q.yes) (by assumption); have k4 := keeps hb9 (p := ⟨b, off + k * 6 + 2, none⟩) (v := .bool q.neg) (by assumption); have k5 := keeps hb9 (p := ⟨b, off + k * 6 + 3, none⟩) (v := .string q.mag) (by assumption); have k6 := keeps hb9 (p := ⟨b, off + k * 6 + 4, none⟩) (v := .string q.raw) (by assumption); have k7 := keeps hb9 (p := ⟨b, off + k * 6 + 5, none⟩) (v := .slice a2 q.items.length cap2) (by assumption); have kb := two (a := _) (show Below wr.heap.size wr _ from by assumption) hb9; have hGs : w9.heap[G]? = wr.heap[G]? := kb.block G hGl; have hO9 := row_same HO.out hGs; have HO9 := Lib.hid hO9;
            have z0 := hO9.frozenAt (k * 6); have z1 := hO9.frozenAt (k * 6 + 1); have z2 := hO9.frozenAt (k * 6 + 2); have z3 := hO9.frozenAt (k * 6 + 3); have z4 := hO9.frozenAt (k * 6 + 4); have z5 := hO9.frozenAt (k * 6 + 5);
            obtain ⟨x0, y0⟩ := row_some hO9 (o := k * 6) (by omega); obtain ⟨x1, y1⟩ := row_some hO9 (o := k * 6 + 1) (by omega); obtain ⟨x2, y2⟩ := row_some hO9 (o := k * 6 + 2) (by omega); obtain ⟨x3, y3⟩ := row_some hO9 (o := k * 6 + 3) (by omega); obtain ⟨x4, y4⟩ := row_some hO9 (o := k * 6 + 4) (by omega); obtain ⟨x5, y5⟩ := row_some hO9 (o := k * 6 + 5) (by omega);
            have hGl9 : G < w9.heap.size := World.block_lt_of_cell? w9 _ y0; clear hO9 hown))
      go_wp2_with fail
      obtain ⟨W', hW'⟩ : ∃ W', W' = set6 w9 G (k * 6) q.kind q.yes q.neg q.mag q.raw (.slice (some ⟨g9, 0, none⟩) q.items.length (q.items.length + 2)) := ⟨_, rfl⟩
      have hblk : ∀ x, x ≠ G → W'.heap[x]? = w9.heap[x]? := fun x hx => by rw [hW']; exact set6_block _ _ _ _ _ _ _ _ _ hx
      have hsz9 := kb.size
      have hsize : W'.heap.size = w9.heap.size := by rw [hW']; exact set6_size _ _ _ _ _ _ _ _ _
      obtain ⟨xs2, hO2⟩ := set6_row (o := k * 6) (k := q.kind) (y := q.yes) (b := q.neg) (m := q.mag) (r := q.raw) (v := .slice (some ⟨g9, 0, none⟩) q.items.length (q.items.length + 2)) HO9.out
      have hN : PartCells W' G (k * 6) q (.slice (some ⟨g9, 0, none⟩) q.items.length (q.items.length + 2)) := by
        rw [hW']
        exact set6_new (fun c hc => row_some HO9.out (by omega))
      have hP : ∀ j (hj : j < p.items.length), j < k → PartCells W' G (j * 6) p.items[j] (F j) := fun j hj hjk => by
        rw [hW']
        exact set6_farP ((HK.out.1 j hj hjk).1.block hGs) (by omega)
      have hbl : ∀ x, G + 1 ≤ x → x < wr.heap.size → W'.heap[x]? = wr.heap[x]? := fun x h1 h2 => (hblk x (by omega)).trans (kb.block x h2)
      have hOw : OwnI W' true wr.heap.size W'.heap.size p.items[k].items (.slice (some ⟨g9, 0, none⟩) q.items.length (q.items.length + 2)) := by
        rw [HQ.out, hsize]
        exact HW.out.same (fun x h1 _ => hblk x (by have : wr.heap.size ≤ x := h1; omega))
      have hL := LKids.snoc HK.out hlt (by omega) hP hbl (by rw [HQ.out]; exact hN) hOw (by omega)
      have hBb : Below w.heap.size w W' := by
        rw [hW']
        exact (hB.trans (kb.mono (by omega))).trans (set6_below _ _ _ _ _ _ _ _ _ (by omega))
      have hX' := HX.out.same (w' := W') ((hblk w.heap.size (by omega)).trans (kb.block _ (by omega)))
      have hT' := HT.out.same (w' := W') ((hblk T (by omega)).trans (kb.block _ (by omega)))
      have hBl' := HB.out.block (w1 := W') ((hblk (w.heap.size + 1) (by omega)).trans (kb.block _ (by omega)))
      have hO' : W'.ownsRow G 27 6 (.slice (some ⟨G, 0, none⟩) (p.items.length + 2) (p.items.length + 2)) (p.items.length + 2) xs2 := by rw [hW']; exact hO2
      have hzz : G + 1 ≤ W'.heap.size := by omega
      subst hW'
      exact ⟨⟨k + 1, xs2, _, _, _, by omega, rfl, Lib.hid hX', Lib.hid hT', Lib.hid hBl', hO', Lib.hid hL, hBb, hzz⟩, by simp [intOf]; omega⟩
    · have q3 : decide (k < p.items.length) = false := by simpa using hlt
      obtain rfl : k = p.items.length := by omega
      go_wp2_with fail
      clear c0 c1 c2 c3 c4 c5 t0 t1 t2 t3 t4 t5
      go_loopw [6] (fun i wt => ∃ (k : Nat) (xs : List Value), p.items.length ≤ k ∧ k ≤ p.items.length + 2 ∧ i = .int .i64 k ∧ RowKit.Hid (Box wt T p (.slice (some ⟨G, 0, none⟩) p.items.length (p.items.length + 2))) ∧ RowKit.Hid (Blank wt (w.heap.size + 1)) ∧
        wt.ownsRow G 27 6 (.slice (some ⟨G, 0, none⟩) (p.items.length + 2) (p.items.length + 2)) (p.items.length + 2) xs ∧ RowKit.Hid (LKids wt (G + 1) G p.items p.items.length F L H ∧ (p.items.length < k → MarkCells wt G (p.items.length * 6)) ∧ (p.items.length + 1 < k → MarkCells wt G (p.items.length * 6 + 6))) ∧ Below w.heap.size w wt ∧ G + 1 ≤ wt.heap.size) (fun i _ => p.items.length + 2 - (intOf i).toNat)
      case atStart => exact ⟨p.items.length, xs, Nat.le_refl _, by omega, rfl, HT, HB, hO, Lib.hid ⟨HK.out, fun h => by omega, fun h => by omega⟩, hB, hsz⟩
      case round =>
        clear HX HT HB hO HK hB hsz
        obtain ⟨k, xs, hk1, hk2, rfl, HT, HB, hO, HK, hB, hsz⟩ := hrel
        obtain ⟨_, ⟨t0, t1, t2, t3, t4, t5⟩⟩ := HT.out
        by_cases hlt2 : k < p.items.length + 2
        · have q4 : decide (k < p.items.length + 2) = true := by simpa using hlt2
          have hGl : G < wr.heap.size := by omega
          have z0 := hO.frozenAt (k * 6)
          have z1 := hO.frozenAt (k * 6 + 1)
          have z2 := hO.frozenAt (k * 6 + 2)
          have z3 := hO.frozenAt (k * 6 + 3)
          have z4 := hO.frozenAt (k * 6 + 4)
          have z5 := hO.frozenAt (k * 6 + 5)
          obtain ⟨x0, y0⟩ := row_some hO (o := k * 6) (by omega)
          obtain ⟨x1, y1⟩ := row_some hO (o := k * 6 + 1) (by omega)
          obtain ⟨x2, y2⟩ := row_some hO (o := k * 6 + 2) (by omega)
          obtain ⟨x3, y3⟩ := row_some hO (o := k * 6 + 3) (by omega)
          obtain ⟨x4, y4⟩ := row_some hO (o := k * 6 + 4) (by omega)
          obtain ⟨x5, y5⟩ := row_some hO (o := k * 6 + 5) (by omega)
          have HO := Lib.hid hO
          clear hO
          go_wp2_with fail
          obtain ⟨W', hW'⟩ : ∃ W', W' = set6 wr G (k * 6) pMark.kind pMark.yes pMark.neg pMark.mag pMark.raw (.slice none 0 0) := ⟨_, rfl⟩
          have hblk : ∀ x, x ≠ G → W'.heap[x]? = wr.heap[x]? := fun x hx => by rw [hW']; exact set6_block _ _ _ _ _ _ _ _ _ hx
          have hsize : W'.heap.size = wr.heap.size := by rw [hW']; exact set6_size _ _ _ _ _ _ _ _ _
          obtain ⟨xs2, hO2⟩ := set6_row (o := k * 6) (k := pMark.kind) (y := pMark.yes) (b := pMark.neg) (m := pMark.mag) (r := pMark.raw) (v := .slice none 0 0) HO.out
          have hN : PartCells W' G (k * 6) pMark (.slice none 0 0) := by
            rw [hW']
            exact set6_new (fun c hc => row_some HO.out (by omega))
          have hP : ∀ j (hj : j < p.items.length), j < p.items.length → PartCells W' G (j * 6) p.items[j] (F j) := fun j hj hjk => by
            rw [hW']
            exact set6_farP (HK.out.1.1 j hj hjk).1 (by omega)
          have hL := HK.out.1.keep (w' := W') (by omega) hP (fun x h1 _ => hblk x (by omega))
          have hM1 : p.items.length < k + 1 → MarkCells W' G (p.items.length * 6) := fun _ => by
            by_cases e : k = p.items.length
            · subst e; exact mark_of hN
            · rw [hW']
              exact mark_of (set6_farP (of_mark (HK.out.2.1 (by omega))) (by omega))
          have hM2 : p.items.length + 1 < k + 1 → MarkCells W' G (p.items.length * 6 + 6) := fun h => by
            obtain rfl : k = p.items.length + 1 := by omega
            have e : (p.items.length + 1) * 6 = p.items.length * 6 + 6 := by omega
            rw [e] at hN
            exact mark_of hN
          have hBb : Below w.heap.size w W' := by
            rw [hW']
            exact hB.trans (set6_below _ _ _ _ _ _ _ _ _ (by omega))
          have hT' := HT.out.same (w' := W') (hblk T (by omega))
          have hBl' := HB.out.block (w1 := W') (hblk (w.heap.size + 1) (by omega))
          have hO' : W'.ownsRow G 27 6 (.slice (some ⟨G, 0, none⟩) (p.items.length + 2) (p.items.length + 2)) (p.items.length + 2) xs2 := by rw [hW']; exact hO2
          have hzz : G + 1 ≤ W'.heap.size := by omega
          subst hW'
          exact ⟨⟨k + 1, xs2, by omega, by omega, rfl, Lib.hid hT', Lib.hid hBl', hO', Lib.hid ⟨hL, hM1, hM2⟩, hBb, hzz⟩, by simp [intOf]; omega⟩
        · have q4 : decide (k < p.items.length + 2) = false := by simpa using hlt2
          have hM1 := HK.out.2.1 (by omega)
          have hM2 := HK.out.2.2 (by omega)
          obtain ⟨cur, hcur, hcs2, _, hmx⟩ := row_block hO
          obtain ⟨r0, r1, r2, r3, r4, r5, z0, z1, z2, z3, z4, z5⟩ := HB.out
          have HM := Lib.hid (And.intro hM1 hM2)
          have HCur := Lib.hid hcur
          clear hM1 hM2 hcur hO
          go_wp2_with fail
          obtain ⟨W', hW'⟩ : ∃ W', W' = set6 wr (w.heap.size + 1) 0 p.kind p.yes p.neg p.mag p.raw (.slice (some ⟨G, 0, none⟩) p.items.length (p.items.length + 2)) := ⟨_, rfl⟩
          have hblk : ∀ x, x ≠ w.heap.size + 1 → W'.heap[x]? = wr.heap[x]? := fun x hx => by rw [hW']; exact set6_block _ _ _ _ _ _ _ _ _ hx
          have hsize : W'.heap.size = wr.heap.size := by rw [hW']; exact set6_size _ _ _ _ _ _ _ _ _
          have hGs : W'.heap[G]? = wr.heap[G]? := hblk G (by omega)
          have hL := HK.out.1.keep (w' := W') (by omega) (fun j hj hjk => (HK.out.1.1 j hj hjk).1.block hGs) (fun x h1 _ => hblk x (by omega))
          have hmk : ∀ o, MarkCells wr G o → MarkCells W' G o := fun o h => mark_of ((of_mark h).block hGs)
          have hOwn : OwnI W' true w.heap.size W'.heap.size p.items (.slice (some ⟨G, 0, none⟩) p.items.length (p.items.length + 2)) :=
            .row _ _ _ G _ cur F L H (by omega) (by omega) (hGs.trans HCur.out) (by omega) hcs2 hmx (fun j hj => (hL.1 j hj hj).1) (fun j hj => (HF.out.item (List.getElem_mem hj)).fit)
              (fun j hj => by obtain ⟨_, _, h3, h4, h5⟩ := hL.1 j hj hj; exact ⟨by omega, h4, h5, by omega⟩) (fun i j hij hj => hL.2 i j hij hj) (fun _ => ⟨rfl, hmk _ HM.out.1, hmk _ HM.out.2⟩) (fun j hj => (hL.1 j hj hj).2.1)
          have hBb : Below w.heap.size w W' := by
            rw [hW']
            exact hB.trans (set6_below _ _ _ _ _ _ _ _ _ (by omega))
          have hFin := Lib.hid (And.intro hOwn hBb)
          clear hOwn hBb hL hmk hGs hblk hsize
          rw [hW'] at hFin
          clear hW'
          refine bodyPost_ret (v := .agg #[.int .u8 p.kind, .bool p.yes, .bool p.neg, .string p.mag, .string p.raw, .slice (some ⟨G, 0, none⟩) p.items.length (p.items.length + 2)]) (by simp [results, Try.results23, go_sem, r0, r1, r2, r3, r4, r5]) rfl
            ⟨G, rfl, hFin.out.1, hFin.out.2⟩
end Go.Proofs.Ytcgphlilijeifaa.V
