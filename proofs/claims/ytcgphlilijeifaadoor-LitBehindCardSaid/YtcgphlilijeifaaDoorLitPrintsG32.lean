import Derived.Test.YtcgphlilijeifaaDoorLitPrintsG31
import Derived.Test.YtcgphlilijeifaaDoorLitPrintsG5
import Derived.Test.YtcgphlilijeifaaDoorLitPrintsG26
import Derived.Test.YtcgphlilijeifaaDoorLitPrintsG8
section
/-
  The document's text: tuples; any part; Print.
-/
namespace Go.Proofs.YtcgphlilijeifaaDoor.L
open Go.RowKit
open V (Pt)

theorem pi_at {w : World} {lo hi n cap : Nat} {l : List Pt} {a : Option Addr} (h : V.PI w lo hi l (.slice a n cap)) :
    ∀ j (h : j < l.length), ∃ b off u, a = some ⟨b, off, none⟩ ∧ lo ≤ b ∧ b < hi ∧ V.PartCells w b (off + j * 6) l[j] u ∧ V.Fit l[j] ∧ V.PI w lo hi l[j].items u := by
  obtain ⟨a', cap', he, _, hat⟩ := h.open
  injection he with h1 h2 h3
  subst h1
  exact hat

/-- What is known of a text behind the call. -/
def RC (l : List UInt8) (p : Pt) (M : List UInt8) : Prop := ((l ++ textP p).length ≤ 65536 → M = l ++ textP p) ∧ (65536 < (l ++ textP p).length → 65536 < M.length) ∧ M.length ≤ max l.length (400000 + 1100 * V.depthP p)
/-- What is known of a text behind k items. -/
def TInv (l : List UInt8) (p : Pt) (k : Nat) (M : List UInt8) : Prop := ((soFar l (p.items.take k)).length ≤ 65536 ∨ k = 0 → M = soFar l (p.items.take k)) ∧ (65536 < (soFar l (p.items.take k)).length → k = 0 ∨ 65536 < M.length) ∧ M.length ≤ 400010 + 1100 * V.depthL p.items + k
theorem TInv.start {l : List UInt8} {p : Pt} (hl : l.length ≤ 65536) : TInv l p 0 (l ++ [40]) := by
  refine ⟨fun _ => by rw [List.take_zero, soFar_nil], fun _ => .inl rfl, ?_⟩
  simp; omega
theorem TInv.first {l : List UInt8} {p q : Pt} {M M' : List UInt8} (h0 : 0 < p.items.length) (hq : p.items[0] = q) (h : TInv l p 0 M) (hr : RC M q M') : TInv l p 1 M' := by
  have e1 : M = soFar l [] := h.1 (.inr rfl)
  have e2 : p.items.take 1 = [q] := by rw [take_snoc h0, hq]; rfl
  have e3 : M ++ textP q = soFar l [q] := by rw [e1, soFar_one]
  have hd : V.depthP q ≤ V.depthL p.items := V.depthL_mem (hq ▸ List.getElem_mem _)
  obtain ⟨a, b, c⟩ := hr
  rw [e3] at a b
  unfold TInv
  rw [e2]
  refine ⟨fun h => ?_, fun h => .inr (b h), ?_⟩
  · rcases h with h | h
    · exact a h
    · cases h
  · have := h.2.2
    omega
theorem TInv.next {l : List UInt8} {p q : Pt} {k : Nat} {M M' : List UInt8} (hk0 : k ≠ 0) (hk : k < p.items.length) (hq : p.items[k] = q) (h : TInv l p k M) (hr : RC (M ++ [32]) q M') : TInv l p (k + 1) M' := by
  have hne : p.items.take k ≠ [] := fun e => by have := congrArg List.length e; rw [List.length_take, List.length_nil] at this; omega
  have e2 : p.items.take (k + 1) = p.items.take k ++ [q] := by rw [take_snoc hk, hq]
  have e3 := soFar_snoc l hne q
  have hd : V.depthP q ≤ V.depthL p.items := V.depthL_mem (hq ▸ List.getElem_mem _)
  have hle : (soFar l (p.items.take k)).length ≤ (soFar l (p.items.take k ++ [q])).length := by rw [← e3]; simp only [List.length_append]; omega
  obtain ⟨a, b, c⟩ := hr
  obtain ⟨h1, h2, h3⟩ := h
  unfold TInv
  rw [e2]
  refine ⟨fun h => ?_, fun h => .inr (b ?_), ?_⟩
  · rcases h with h | h
    · have e1 := h1 (.inl (by omega))
      rw [e1, e3] at a
      exact a h
    · cases h
  · by_cases hs : (soFar l (p.items.take k)).length ≤ 65536
    · rw [h1 (.inl hs), e3]; exact h
    · have := (h2 (by omega)).resolve_left hk0
      simp only [List.length_append]
      omega
  · rw [List.length_append, List.length_singleton] at c
    omega
theorem TInv.done {B : Nat} {l : List UInt8} {p : Pt} {M : List UInt8} {w w' : World} {v' : Value} (h7 : p.kind = 7) (hlen : p.items.length ≤ 1024) (h : TInv l p p.items.length M) (hO : OwnB w' B v' (M ++ [41])) (hB : Kp B w w') (hs : B ≤ w'.heap.size) : RPost B l p w (.returned v') w' := by
  obtain ⟨h1, h2, h3⟩ := h
  rw [List.take_length] at h1 h2
  have e := soFar_all l h7
  refine ⟨v', _, rfl, hO, hB, hs, fun h => ?_, fun h => ?_, ?_⟩
  · rw [← e] at h ⊢
    rw [List.length_append] at h
    rw [h1 (.inl (by omega))]
  · rw [← e] at h
    by_cases hz : (soFar l p.items).length ≤ 65536
    · rw [h1 (.inl hz)]; exact h
    · rcases h2 (by omega) with hn | hM
      · rw [h1 (.inr hn)]; exact h
      · rw [List.length_append]; omega
  · rw [List.length_append, List.length_singleton, V.depthP_eq, if_pos h7]
    omega
theorem slice25 : Tryd.prog.underlying 25 = some (.slice (Tryd.prog.elem 25)) := by kernel_rfl

set_option maxRecDepth 100000 in
set_option maxHeartbeats 1500000 in
theorem text_tuple (p : Pt) (h7 : p.kind = 7) (hm : V.mayB p = true) (hdp : V.depthP p ≤ 1000)
    (ih : ∀ q ∈ p.items, ∀ (B : Nat) (b v : Value) (l : List UInt8) (w : World), V.mayB q = true → V.depthP q ≤ 1000 → l.length ≤ 3000000 → V.PI w 0 B q.items v → B ≤ w.heap.size → OwnB w B b l →
      Calls Tryd.prog 77 #[b, .agg #[.int .u8 q.kind, .bool q.yes, .bool q.neg, .string q.mag, .string q.raw, v]] w (RPost B l q w))
    (B : Nat) (v : Value) (l : List UInt8) (w : World) (a : Option Addr) (cap : Nat) (hp : V.PI w 0 B p.items (.slice a p.items.length cap)) (hsz : B ≤ w.heap.size) (hO : OwnB w B v l) (hl : l.length ≤ 65536) :
    Calls Tryd.prog 77 #[v, .agg #[.int .u8 p.kind, .bool p.yes, .bool p.neg, .string p.mag, .string p.raw, .slice a p.items.length cap]] w (RPost B l p w) := by
  have hlen := V.may_len hm h7
  have hD : V.depthP p = V.depthL p.items + 1 := by rw [V.depthP_eq, if_pos h7]
  have hdl : V.depthL p.items ≤ 999 := by omega
  have HA := Lib.hid (pi_at hp)
  have IH := Lib.hid ih
  have q1 : ((p.kind : Int) == 1) = false := beq_eq_false_iff_ne.2 (by omega)
  have q2 : ((p.kind : Int) == 2) = false := beq_eq_false_iff_ne.2 (by omega)
  have q3 : ((p.kind : Int) == 3) = false := beq_eq_false_iff_ne.2 (by omega)
  have q4 : ((p.kind : Int) == 4) = false := beq_eq_false_iff_ne.2 (by omega)
  have q5 : ((p.kind : Int) == 5) = false := beq_eq_false_iff_ne.2 (by omega)
  have q6 : ((p.kind : Int) == 6) = false := beq_eq_false_iff_ne.2 (by omega)
  have q7 : ((p.kind : Int) == 7) = true := beq_iff_eq.2 (by omega)
  obtain ⟨n, a1, cap1, rfl, hn⟩ := ownb_form hO
  have hn2 : n ≤ 65536 := by rw [hn.out]; exact hl
  have q0 := last_le hl hn.out
  have HM := Lib.hid hm
  have HK := Lib.hid h7
  have hB : Kp B w (w.alloc (.cells #[.int .u8 p.kind, .bool p.yes, .bool p.neg, .string p.mag, .string p.raw, .slice a p.items.length cap] 27)) := (Kp.refl B w).alloc hsz _
  have hbx := Lib.hid (BoxAt.new w p (.slice a p.items.length cap))
  have hBr := Kp.refl B (w.alloc (.cells #[.int .u8 p.kind, .bool p.yes, .bool p.neg, .string p.mag, .string p.raw, .slice a p.items.length cap] 27))
  have HTI := Lib.hid (TInv.start (p := p) hl)
  clear hp ih hm h7 hD hdp
  go_enter Tryd.func77, Tryd.ntmps77
  go_wp2_with (at_builtin; first
    | refine wpList_len rfl (.tmp 8) 111 rfl slice111 rfl ?_
    | (refine wpList_app_bytes rfl (.tmp 69) (.tmp 70) 111 rfl Tryd.underlying111 Tryd.info5 rfl ((hO.alloc _).alloc _) _ [40] 1 _ rfl rfl (bv_cells_oneH _ 40 _ _ (by simp)) (by omega) (hBr.alloc (by simp; omega) _) (by simp; omega) ?_; intro v2 w2 hO2 hB2 hs2))
  have hBx2 := Lib.hid (hbx.out.kp hB2)
  replace hB2 := hB.trans hB2
  clear hbx hBr hB hO
  go_loopw [0, 7] (fun b i wr => ∃ (k : Nat) (M : List UInt8), k ≤ p.items.length ∧ i = .int .i64 k ∧ OwnB wr B b M ∧ Kp B w wr ∧ B ≤ wr.heap.size ∧ RowKit.Hid (TInv l p k M) ∧ RowKit.Hid (BoxAt wr w.heap.size p (.slice a p.items.length cap))) (fun _ i _ => p.items.length - (intOf i).toNat)
  case atStart => exact ⟨0, _, Nat.zero_le _, rfl, hO2, hB2, hs2, HTI, hBx2⟩
  case round =>
    clear hO2 hB2 hs2 hBx2 HTI
    obtain ⟨k, M, hkl, rfl, hO, hB, hsz, HTI, hbx⟩ := hrel
    obtain ⟨c0, c1, c2, c3, c4, c5⟩ := hbx.out.cell
    have hMl := HTI.out.2.2
    by_cases hlt : k < p.items.length
    · have e3 : decide (k < p.items.length) = true := by simpa using hlt
      obtain ⟨b, off, u, rfl, _, hb, hc, hfit, hpi⟩ := HA.out k hlt
      have hmem : p.items[k] ∈ p.items := List.getElem_mem _
      have hdq := V.depthL_mem hmem
      obtain ⟨q, hq⟩ : ∃ q, p.items[k] = q := ⟨_, rfl⟩
      rw [hq] at hc hfit hpi hmem hdq
      have hmq := Lib.hid (V.mayB_item HM.out hmem)
      have hcq := Lib.hid hc
      have hpi2 := Lib.hid hpi
      have HQ := Lib.hid hq
      obtain ⟨a2, cap2, rfl, _, _⟩ := hpi.open
      clear hc hpi hq
      by_cases hk0 : k = 0
      · have e4 : decide (0 < k) = false := by simp; omega
        have hsame : V.Same 0 B w wr := V.Same.of_below hB.below (Nat.le_refl _)
        obtain ⟨d0, d1, d2, d3, d4, d5⟩ := hcq.out.same hsame (Nat.zero_le _) hb
        have HK0 := Lib.hid hk0
        clear hk0
        go_wp2_with (at_builtin; refine wpList_len rfl (.tmp 74) 25 rfl slice25 rfl ?_)
        refine (IH.out q hmem B _ _ M wr hmq.out (by omega) (by omega) (hpi2.out.same hsame) hsz hO).mono ?_
        rintro e w3 ⟨v3, M3, rfl, hO3, hB3, hs3, h3⟩
        have HT3 := Lib.hid (show TInv l p (k + 1) M3 by have := HK0.out; subst this; exact TInv.first hlt HQ.out HTI.out h3)
        have hbx3 := Lib.hid (hbx.out.kp hB3)
        have hB4 := hB.trans hB3
        clear c0 c1 c2 c3 c4 c5 d0 d1 d2 d3 d4 d5 hB hB3 hO h3 hbx hsame
        go_wp2_with fail
        refine ⟨⟨k + 1, M3, by omega, rfl, hO3, hB4, hs3, HT3, hbx3⟩, by simp [intOf]; omega⟩
      · have e4 : decide (0 < k) = true := by simp; omega
        have HK0 := Lib.hid hk0
        clear hk0
        go_wp2_with (at_builtin; first
          | refine wpList_len rfl (.tmp 74) 25 rfl slice25 rfl ?_
          | (refine wpList_app_bytes rfl (.tmp 81) (.tmp 82) 111 rfl Tryd.underlying111 Tryd.info5 rfl (hO.alloc _) _ [32] 1 _ rfl rfl (bv_cells_one _ 32 _) (by omega) ((Kp.refl B wr).alloc hsz _) (by simp; omega) ?_; intro v2 w2 hO2 hB2 hs2; have hbx2 := Lib.hid (hbx.out.kp hB2); have hBa := hB.trans hB2; have hsame := Lib.hid (V.Same.of_below (lo := 0) hBa.below (Nat.le_refl B)); obtain ⟨x0, x1, x2, x3, x4, x5⟩ := hbx2.out.cell; obtain ⟨d0, d1, d2, d3, d4, d5⟩ := hcq.out.same hsame.out (Nat.zero_le _) hb))
        refine (IH.out q hmem B _ _ (M ++ [32]) w2 hmq.out (by omega) (by simp; omega) (hpi2.out.same hsame.out) hs2 hO2).mono ?_
        rintro e w3 ⟨v3, M3, rfl, hO3, hB3, hs3, h3⟩
        have HT3 := Lib.hid (TInv.next HK0.out hlt HQ.out HTI.out h3)
        have hbx3 := Lib.hid (hbx2.out.kp hB3)
        have hB4 := hBa.trans hB3
        clear c0 c1 c2 c3 c4 c5 d0 d1 d2 d3 d4 d5 hB hB2 hB3 hO hO2 h3 hbx hbx2 hsame hBa x0 x1 x2 x3 x4 x5
        go_wp2_with fail
        refine ⟨⟨k + 1, M3, by omega, rfl, hO3, hB4, hs3, HT3, hbx3⟩, by simp [intOf]; omega⟩
    · have e3 : decide (k < p.items.length) = false := by simpa using hlt
      have hke : p.items.length = k := by omega
      have HT2 : Hid (TInv l p p.items.length M) := by rw [hke]; exact HTI
      clear hke
      go_wp2_with (at_builtin; first
        | refine wpList_len rfl (.tmp 74) 25 rfl slice25 rfl ?_
        | (refine wpList_app_bytes rfl (.tmp 91) (.tmp 92) 111 rfl Tryd.underlying111 Tryd.info5 rfl (hO.alloc _) _ [41] 1 _ rfl rfl (bv_cells_one _ 41 _) (by omega) (hB.alloc hsz _) (by simp; omega) ?_; intro v2 w2 hO2 hB2 hs2))
      go_ret
      exact HT2.out.done HK.out hlen hO2 hB2 hs2

theorem text_any (p : Pt) : ∀ (B : Nat) (b v : Value) (l : List UInt8) (w : World), V.mayB p = true → V.depthP p ≤ 1000 → l.length ≤ 3000000 → V.PI w 0 B p.items v → B ≤ w.heap.size → OwnB w B b l →
      Calls Tryd.prog 77 #[b, .agg #[.int .u8 p.kind, .bool p.yes, .bool p.neg, .string p.mag, .string p.raw, v]] w (RPost B l p w) := by
  induction p using Pt.ind with
  | h p ih =>
  intro B b v l w hm hdp hl0 hp hsz hO
  obtain ⟨a, cap, rfl, _, _⟩ := hp.open
  by_cases hl : l.length ≤ 65536
  · obtain ⟨h0, h1, h2, h3, h4, h5, h6, h8⟩ := canonP hm
    rcases (show p.kind = 0 ∨ p.kind = 1 ∨ p.kind = 2 ∨ p.kind = 3 ∨ p.kind = 4 ∨ p.kind = 5 ∨ p.kind = 6 ∨ p.kind = 7 by omega) with k | k | k | k | k | k | k | k
    · exact text_null p hm k B b l w a cap hsz hO hl
    · cases hy : p.yes with
      | true => have := text_true p hm k hy B b l w a cap hsz hO hl; rwa [hy] at this
      | false => have := text_false p hm k hy B b l w a cap hsz hO hl; rwa [hy] at this
    · exact text_num p hm k (h5 k) B b l w a cap hsz hO hl
    · exact text_3 p hm k B b l w a cap hsz hO hl
    · exact text_4 p hm k B b l w a cap hsz hO hl
    · exact text_5 p hm k B b l w a cap hsz hO hl
    · exact text_6 p hm k B b l w a cap hsz hO hl
    · exact text_tuple p k hm hdp ih B b l w a cap hp hsz hO hl
  · exact text_long p B b l w a cap hsz hO (by omega)

set_option maxRecDepth 100000 in
set_option maxHeartbeats 1500000 in
theorem rprint10_any (p : Pt) (a : Option Addr) (cap : Nat) (w : World) (hm : V.mayB p = true) (hdp : V.depthP p ≤ 1000) (hp : V.PI w 0 w.heap.size p.items (.slice a p.items.length cap)) :
    Calls Tryd.prog 36 #[.agg #[.int .u8 p.kind, .bool p.yes, .bool p.neg, .string p.mag, .string p.raw, .slice a p.items.length cap]] w (LPost p w) := by
  have hB0 : Below w.heap.size w (w.alloc (.cells #[.int .u8 p.kind, .bool p.yes, .bool p.neg, .string p.mag, .string p.raw, .slice a p.items.length cap] 27)) := (Below.refl _ w).alloc (Nat.le_refl _) _
  have HP := Lib.hid (hp.same (V.Same.of_below hB0 (Nat.le_refl _)))
  have HM := Lib.hid hm
  clear hp hm
  go_enter Tryd.func36, Tryd.ntmps36
  go_wp2_with fail
  refine (text_any p w.heap.size (.slice none 0 0) _ [] _ HM.out hdp (by simp) HP.out (by simp) (OwnB.nil _ _)).mono ?_
  rintro e w1 ⟨v1, M, rfl, hO, hB, hs, h1, h2, h3⟩
  rw [List.nil_append] at h1 h2
  have hbt := hB0.trans hB.below
  obtain ⟨n, a1, cap1, rfl, hn⟩ := ownb_form hO
  by_cases hl : M.length ≤ 65536
  · have q0 := last_le hl hn.out
    have hcv := hO.conv (P := Tryd.prog) 111 9 Tryd.underlying111 (by kernel_rfl) (by kernel_rfl)
    have hfit : (textP p).length ≤ 65536 := by omega
    have HMe := Lib.hid (h1 hfit)
    have HF := Lib.hid hfit
    clear h1 h2 h3 hfit hO hB
    go_wp2_with (at_builtin; refine wpList_len rfl (.tmp 7) 111 rfl slice111 rfl ?_)
    go_ret2
    exact ⟨hbt, .inl ⟨HF.out, _, rfl, Lib.hid (by rw [Lib.toList_data, HMe.out])⟩⟩
  · have q0 := last_gt hl hn.out
    have HF := Lib.hid (show 65536 < (textP p).length by
      by_cases h : (textP p).length ≤ 65536
      · rw [h1 h] at hl; omega
      · omega)
    clear h1 h2 h3
    go_wp2_with (at_builtin; refine wpList_len rfl (.tmp 7) 111 rfl slice111 rfl ?_)
    go_ret2
    exact ⟨hbt, .inr ⟨HF.out, rfl⟩⟩
end Go.Proofs.YtcgphlilijeifaaDoor.L
end
section
/-
  The reader of a text: next, row.
-/
namespace Go.Proofs.YtcgphlilijeifaaDoor.L
open Go.RowKit
open V (Pt)

/-- Nothing that was there has turned but one block. -/
structure Gv (b : Nat) (w w' : World) : Prop where
  os : w'.os = w.os
  tape : w'.tape = w.tape
  output : w'.output = w.output
  size : w.heap.size ≤ w'.heap.size
  block : ∀ k, k < w.heap.size → k ≠ b → w'.heap[k]? = w.heap[k]?
theorem Gv.refl (b : Nat) (w : World) : Gv b w w := ⟨rfl, rfl, rfl, Nat.le_refl _, fun _ _ _ => rfl⟩
theorem Gv.drew {b : Nat} {w w' : World} (h : Gv b w w') : Gv b w w'.drew := ⟨h.os, h.tape, h.output, h.size, h.block⟩
theorem Gv.drewN {b : Nat} {w w' : World} (h : Gv b w w') (n : Nat) : Gv b w (w'.drewN n) := ⟨h.os, h.tape, h.output, h.size, h.block⟩
theorem Gv.trans {b : Nat} {w w' w'' : World} (h : Gv b w w') (k : Gv b w' w'') : Gv b w w'' :=
  ⟨k.os.trans h.os, k.tape.trans h.tape, k.output.trans h.output, Nat.le_trans h.size k.size, fun q hq hb => (k.block q (Nat.lt_of_lt_of_le hq h.size) hb).trans (h.block q hq hb)⟩
theorem Gv.of_below {b : Nat} {w w' : World} (h : Below w.heap.size w w') : Gv b w w' := ⟨h.os, h.tape, h.output, h.size, fun k hk _ => h.block k hk⟩
theorem Gv.alloc {b : Nat} {w w' : World} (h : Gv b w w') (o : Obj) : Gv b w (w'.alloc o) := h.trans (Gv.of_below ((Below.refl _ _).alloc (Nat.le_refl _) o))
theorem Gv.set_ {b : Nat} {w w' : World} (h : Gv b w w') (i : Nat) (v : Value) : Gv b w (w'.setCell ⟨b, i, none⟩ v) :=
  ⟨h.os, h.tape, h.output, by simpa [World.setCell] using h.size, fun q hq hb => by rw [Below.heap_setCell _ _ _ _ hb]; exact h.block q hq hb⟩
/-- A cell of a new block. -/
theorem Gv.setNew {b T : Nat} {w w' : World} (h : Gv b w w') (hT : w.heap.size ≤ T) (i : Nat) (v : Value) : Gv b w (w'.setCell ⟨T, i, none⟩ v) :=
  ⟨h.os, h.tape, h.output, by simpa [World.setCell] using h.size, fun q hq hb => by rw [Below.heap_setCell _ _ _ _ (show q ≠ T by omega)]; exact h.block q hq hb⟩
theorem Gv.below {b B : Nat} {w w' : World} (h : Gv b w w') (hB : B ≤ b) (hs : B ≤ w.heap.size) : Below B w w' := ⟨h.os, h.tape, h.output, h.size, fun k hk => h.block k (by omega) (by omega)⟩
theorem Gv.blk {b g : Nat} {w w' : World} {t : TypeId} {cs : Array Value} (h : Gv b w w') (hg : g ≠ b) (k : Blk w g t cs) : Blk w' g t cs := (h.block g k.lt hg).trans k
theorem Gv.same {b lo hi : Nat} {w w' : World} (h : Gv b w w') (hb : b < lo) (hi2 : hi ≤ w.heap.size) : V.Same lo hi w w' := fun k h1 h2 => h.block k (by omega) (by omega)
theorem OwnB.gv {w w' : World} {base b : Nat} {v : Value} {l : List UInt8} (h : OwnB w base v l) (hb : b < base) (hm : Gv b w w') : OwnB w' base v l := by
  refine ⟨h.1, ?_⟩
  rcases h.2 with hn | ⟨g, cap, cur, rfl, hg, hgg, rest⟩
  · exact .inl hn
  · exact .inr ⟨g, cap, cur, rfl, hg, (hm.block g (Array.getElem?_eq_some_iff.1 hgg).1 (by omega)).trans hgg, rest⟩

theorem below_drewN (B : Nat) (w : World) (n : Nat) : Below B w (w.drewN n) := ⟨rfl, rfl, rfl, Nat.le_refl _, fun _ _ => rfl⟩
/-- The reader: its text and place. -/
def Lr (w : World) (b : Nat) (s : ByteArray) (a : Nat) : Prop := Blk w b 137 #[.string s, .int .i64 a]
theorem Lr.step {w : World} {b : Nat} {s : ByteArray} {a : Nat} (h : Lr w b s a) (a' : Nat) (x : Int) (hx : x = (a' : Int)) : Lr (w.setCell ⟨b, 1, none⟩ (.int .i64 x)) b s a' := by
  subst hx
  exact Blk.set_ h 1 _
theorem Lr.drewN {w : World} {b : Nat} {s : ByteArray} {a : Nat} (h : Lr w b s a) (n : Nat) : Lr (w.drewN n) b s a := h
theorem Lr.alloc {w : World} {b : Nat} {s : ByteArray} {a : Nat} (h : Lr w b s a) (o : Obj) : Lr (w.alloc o) b s a := (Below.heap_alloc w o b (Blk.lt h)).trans h
theorem Lr.later {w w' : World} {b : Nat} {s : ByteArray} {a : Nat} (h : Lr w b s a) (hb : Below w.heap.size w w') : Lr w' b s a := Blk.below h hb (Blk.lt h)

/-- The byte that comes. -/
def nx (s : ByteArray) (a : Nat) : Nat := if h : a < s.size then s[a].toNat else 0
theorem nx_lt {s : ByteArray} {a : Nat} (h : a < s.size) : nx s a = s[a].toNat := by unfold nx; rw [dif_pos h]
theorem nx_ge {s : ByteArray} {a : Nat} (h : ¬ a < s.size) : nx s a = 0 := by unfold nx; rw [dif_neg h]
theorem nx_byte (s : ByteArray) (a : Nat) : nx s a < 256 := by
  unfold nx
  split
  · exact UInt8.toNat_lt _
  · decide

theorem next_any (b : Nat) (s : ByteArray) (a : Nat) (w : World) (hr : Lr w b s a) (ha : a ≤ s.size) (hs : s.size ≤ 65536) :
    Calls Tryd.prog 107 #[.pointer (some ⟨b, 0, none⟩)] w fun e w' => e = .returned (.int .u8 (nx s a : Int)) ∧ Below w.heap.size w w' := by
  have c0 : w.cell? ⟨b, 0, none⟩ = some (.string s) := hr.cell 0
  have c1 : w.cell? ⟨b, 1, none⟩ = some (.int .i64 (a : Int)) := hr.cell 1
  by_cases h : a < s.size
  · have hlt : ((a : Int) == (s.size : Int)) = false := beq_eq_false_iff_ne.2 (by omega)
    have hlt2 : (a == s.size) = false := beq_eq_false_iff_ne.2 (by omega)
    have HN := Lib.hid (nx_lt h)
    clear hr
    go_enter Tryd.func107, Tryd.ntmps107
    go_wp2_with (go_quiet (fail))
    go_ret
    exact ⟨by rw [HN.out]; rfl, by first | exact below_drewN _ _ _ | exact (below_drewN _ _ _).trans (below_drewN _ _ _)⟩
  · have hlt : ((a : Int) == (s.size : Int)) = true := beq_iff_eq.2 (by omega)
    have hlt2 : (a == s.size) = true := beq_iff_eq.2 (by omega)
    have HN := Lib.hid (nx_ge h)
    clear hr h
    go_enter Tryd.func107, Tryd.ntmps107
    go_wp2_with (go_quiet (fail))
    go_ret
    exact ⟨by rw [HN.out]; rfl, by first | exact below_drewN _ _ _ | exact (below_drewN _ _ _).trans (below_drewN _ _ _)⟩

theorem indexByte_c (L : ByteArray) (c : UInt8) (w : World) (x : Int) (hx : Lib.indexByte L.toList c = x) : Calls Tryd.prog 125 #[.string L, .int .u8 (c.toNat : Int)] w fun e w' => e = .returned (.int .i64 x) ∧ w' = w := by
  refine (Tryd.strings_IndexByte L (c.toNat : Int) w).mono ?_
  rintro e w' ⟨rfl, rfl⟩
  refine ⟨?_, rfl⟩
  rw [← hx, Lib.toList_data]
  simp
/-- Where the reader is. -/
def posOf (w : World) (b : Nat) : Nat := match w.cell? ⟨b, 1, none⟩ with | some (.int _ i) => i.toNat | _ => 0
theorem posOf_lr {w : World} {b : Nat} {s : ByteArray} {a : Nat} (h : Lr w b s a) : posOf w b = a := by
  have : w.cell? ⟨b, 1, none⟩ = some (.int .i64 (a : Int)) := h.cell 1
  unfold posOf
  rw [this]
  simp
theorem drop_cons (s : ByteArray) {a : Nat} (h : a < s.size) : s.toList.drop a = s[a] :: s.toList.drop (a + 1) := by
  rw [List.drop_eq_getElem_cons (by rw [size_of]; exact h)]
  congr 1
  simp only [Lib.toList_data]; rfl
theorem drop_end (s : ByteArray) {a : Nat} (h : ¬ a < s.size) : s.toList.drop a = [] := List.drop_eq_nil_of_le (by rw [size_of]; omega)
theorem takeWhile_len_le (s : ByteArray) (f : UInt8 → Bool) (a : Nat) (ha : a ≤ s.size) : a + ((s.toList.drop a).takeWhile f).length ≤ s.size := by
  have h : ((s.toList.drop a).takeWhile f).length ≤ (s.toList.drop a).length := (List.takeWhile_sublist f).length_le
  rw [List.length_drop, size_of] at h
  omega

theorem tw_list (f : UInt8 → Bool) : ∀ (l : List UInt8), (∀ j (h : j < (l.takeWhile f).length) (h2 : j < l.length), f l[j] = true) ∧ (∀ (h : (l.takeWhile f).length < l.length), f (l[(l.takeWhile f).length]) = false)
  | [] => ⟨fun j h => (by cases h), fun h => (by cases h)⟩
  | c :: l => by
    obtain ⟨h1, h2⟩ := tw_list f l
    cases hc : f c with
    | true =>
      simp only [List.takeWhile_cons, hc, if_true, List.length_cons]
      refine ⟨fun j h h3 => ?_, fun h => ?_⟩
      · cases j with
        | zero => exact hc
        | succ j => exact h1 j (by omega) (by simp at h3; omega)
      · simpa using h2 (by omega)
    | false =>
      simp only [List.takeWhile_cons, hc]
      exact ⟨fun j h => by simp at h, fun h => by simpa using hc⟩
theorem tw_in (s : ByteArray) (f : UInt8 → Bool) (a j : Nat) (ha : a ≤ s.size) (h : j < ((s.toList.drop a).takeWhile f).length) : ∃ h2 : a + j < s.size, f s[a + j] = true := by
  have hle := takeWhile_len_le s f a ha
  have h2 : a + j < s.size := by omega
  refine ⟨h2, ?_⟩
  have := (tw_list f (s.toList.drop a)).1 j h (by rw [List.length_drop, size_of]; omega)
  rw [List.getElem_drop] at this
  rw [← this]
  congr 1
  simp only [Lib.toList_data]; rfl
theorem tw_out (s : ByteArray) (f : UInt8 → Bool) (a n : Nat) (hn : ((s.toList.drop a).takeWhile f).length = n) (h : a + n < s.size) : f s[a + n] = false := by
  subst hn
  have := (tw_list f (s.toList.drop a)).2 (by rw [List.length_drop, size_of]; omega)
  rw [List.getElem_drop] at this
  rw [← this]
  congr 1
  simp only [Lib.toList_data]; rfl
theorem tw_take (l : List UInt8) (f : UInt8 → Bool) : l.take (l.takeWhile f).length = l.takeWhile f := by
  conv => lhs; rw [← List.takeWhile_append_dropWhile (p := f) (l := l)]
  rw [List.takeWhile_append_dropWhile]
  exact List.prefix_iff_eq_take.1 (List.takeWhile_prefix f) |>.symm

set_option maxRecDepth 100000 in
set_option maxHeartbeats 1500000 in
theorem row_any (b : Nat) (s L : ByteArray) (f : UInt8 → Bool) (hf : ∀ c, decide ((0 : Int) ≤ Lib.indexByte L.toList c) = f c) (a : Nat) (w : World) (hr : Lr w b s a) (ha : a ≤ s.size) (hs : s.size ≤ 65536) :
    Calls Tryd.prog 108 #[.pointer (some ⟨b, 0, none⟩), .string L] w fun e w' => ∃ p : ByteArray, e = .returned (.string p) ∧ Hid (p.toList = (s.toList.drop a).takeWhile f) ∧ Lr w' b s (a + ((s.toList.drop a).takeWhile f).length) ∧ Gv b w w' := by
  have c1 : w.cell? ⟨b, 1, none⟩ = some (.int .i64 (a : Int)) := hr.cell 1
  have HF := Lib.hid hf
  have hg := Gv.refl b w
  obtain ⟨n, hn⟩ : ∃ n, ((s.toList.drop a).takeWhile f).length = n := ⟨_, rfl⟩
  have hle := takeWhile_len_le s f a ha
  rw [hn] at hle ⊢
  have HN := Lib.hid hn
  clear hf hn
  go_enter Tryd.func108, Tryd.ntmps108
  go_wp2_with fail
  go_loopw [] (fun wr => ∃ j : Nat, j ≤ n ∧ Lr wr b s (a + j) ∧ Gv b w wr) (fun wr => s.size - posOf wr b)
  case atStart => exact ⟨0, Nat.zero_le _, hr, hg⟩
  case round =>
    clear hr c1 hg
    obtain ⟨j, hj, hr, hg⟩ := hrel
    obtain ⟨p, hp⟩ : ∃ p, a + j = p := ⟨_, rfl⟩
    rw [hp] at hr
    have c0 : wr.cell? ⟨b, 0, none⟩ = some (.string s) := hr.cell 0
    have c1 : wr.cell? ⟨b, 1, none⟩ = some (.int .i64 (p : Int)) := hr.cell 1
    have z1 : wr.frozen? ⟨b, 1, none⟩ = false := hr.frozen 1
    by_cases hlt : p < s.size
    · have q3 : decide (p < s.size) = true := by simpa using hlt
      obtain ⟨x, hx⟩ : ∃ x, Lib.indexByte L.toList s[p] = x := ⟨_, rfl⟩
      have HX := Lib.hid hx
      by_cases hjn : j < n
      · obtain ⟨_, hfc⟩ := tw_in s f a j ha (by rw [HN.out]; exact hjn)
        have q4 : decide ((0 : Int) ≤ x) = true := by subst hp; rw [← hx, HF.out]; exact hfc
        have HP := Lib.hid hp
        clear hx hfc hp
        go_wp2_with (go_quiet (exact Calls.quiet_of_same (indexByte_c _ _ _ _ HX.out)))
        have hr2 := Lr.step (hr.drewN nq) (p + 1) ((p : Int) + 1) (by omega)
        refine ⟨⟨j + 1, by omega, by rw [show a + (j + 1) = p + 1 by have := HP.out; omega]; exact hr2, (hg.drewN nq).set_ 1 _⟩, ?_⟩
        rw [posOf_lr hr2, posOf_lr hr]
        omega
      · have hje : j = n := by omega
        subst hje
        have hfc := tw_out s f a j HN.out (by omega)
        have q4 : decide ((0 : Int) ≤ x) = false := by subst hp; rw [← hx, HF.out]; exact hfc
        have HP := Lib.hid hp
        have p1 : a ≤ p := by omega
        have p2 : p ≤ s.size := by omega
        have HX2 := Lib.hid (show (s.extract a p).toList = (s.toList.drop a).takeWhile f by rw [Lib.extract_toList, ← Lib.toList_data, show p - a = ((s.toList.drop a).takeWhile f).length by rw [HN.out]; omega, tw_take])
        clear hx hfc hp
        go_wp2_with (first | (go_quiet (exact Calls.quiet_of_same (indexByte_c _ _ _ _ HX.out))) | (go_quiet (fail)))
        go_ret
        exact ⟨_, rfl, Lib.hid (by rw [HX2.out]), by rw [HP.out]; exact (hr.drewN _).drewN _, (hg.drewN _).drewN _⟩
    · have q3 : decide (p < s.size) = false := by simpa using hlt
      have hje : j = n := by omega
      subst hje
      have HP := Lib.hid hp
      have p1 : a ≤ p := by omega
      have p2 : p ≤ s.size := by omega
      have HX2 := Lib.hid (show (s.extract a p).toList = (s.toList.drop a).takeWhile f by rw [Lib.extract_toList, ← Lib.toList_data, show p - a = ((s.toList.drop a).takeWhile f).length by rw [HN.out]; omega, tw_take])
      clear hlt hp
      go_wp2_with (go_quiet (fail))
      go_ret
      exact ⟨_, rfl, Lib.hid (by rw [HX2.out]), by rw [HP.out]; exact (hr.drewN _).drewN _, (hg.drewN _).drewN _⟩
end Go.Proofs.YtcgphlilijeifaaDoor.L
end
section
/-
  The reader of a text: digits of sixteen.
-/
namespace Go.Proofs.YtcgphlilijeifaaDoor.L
open Go.RowKit
open V (Pt)

def wrongAt (x : Int) : Ending := .panicked [{ v := .iface 133 (.agg #[.int .i64 x]), recovered := false }]
theorem hex_index (c : UInt8) : Lib.indexByte hexS.toList c = (match unhex c with | some n => (n : Int) | none => -1) := by
  have key : ∀ i : Fin 256, decide (Lib.indexByte [48, 49, 50, 51, 52, 53, 54, 55, 56, 57, 97, 98, 99, 100, 101, 102] (UInt8.ofNat i.val) = (match unhex (UInt8.ofNat i.val) with | some n => (n : Int) | none => -1)) = true := by decide +kernel
  have e : hexS.toList = [48, 49, 50, 51, 52, 53, 54, 55, 56, 57, 97, 98, 99, 100, 101, 102] := by rw [Lib.toList_data]; rfl
  rw [e]
  have := u8_all (P := fun c => decide (Lib.indexByte [48, 49, 50, 51, 52, 53, 54, 55, 56, 57, 97, 98, 99, 100, 101, 102] c = (match unhex c with | some n => (n : Int) | none => -1)) = true) key c
  exact of_decide_eq_true this
theorem hex_is (c : UInt8) : decide ((0 : Int) ≤ Lib.indexByte hexS.toList c) = isHex c := by
  rw [hex_index]
  unfold isHex
  cases unhex c with
  | none => rfl
  | some n => simp
def digS : ByteArray := ⟨#[48, 49, 50, 51, 52, 53, 54, 55, 56, 57]⟩
theorem dig_is (c : UInt8) : decide ((0 : Int) ≤ Lib.indexByte digS.toList c) = isDigit c := by
  have key : ∀ i : Fin 256, decide ((0 : Int) ≤ Lib.indexByte [48, 49, 50, 51, 52, 53, 54, 55, 56, 57] (UInt8.ofNat i.val)) = isDigit (UInt8.ofNat i.val) := by decide +kernel
  have e : digS.toList = [48, 49, 50, 51, 52, 53, 54, 55, 56, 57] := by rw [Lib.toList_data]; rfl
  rw [e]
  exact u8_all (P := fun c => decide ((0 : Int) ≤ Lib.indexByte [48, 49, 50, 51, 52, 53, 54, 55, 56, 57] c) = isDigit c) key c

/-- The result's place, empty. -/
def Empty27 (w : World) (T : Nat) : Prop := Blk w T 27 #[.int .u8 0, .bool false, .bool false, .string ⟨#[]⟩, .string ⟨#[]⟩, .slice none 0 0]

set_option maxRecDepth 100000 in
set_option maxHeartbeats 1500000 in
theorem ldigits_bad (b : Nat) (s : ByteArray) (c : UInt8) (hc : c = 120 ∨ c = 35) (x : Int) (a : Nat) (w : World) (hr : Lr w b s a) (ha : a ≤ s.size) (hs : s.size ≤ 65536)
    (hbad : (c = 35 ∧ ((s.toList.drop a).takeWhile isHex).length ≠ 32) ∨ ((s.toList.drop a).takeWhile isHex).length % 2 ≠ 0) :
    Calls Tryd.prog 109 #[.pointer (some ⟨b, 0, none⟩), .int .i64 x, .int .u8 (c.toNat : Int)] w fun e w' => e = wrongAt x ∧ Gv b w w' := by
  have hba := hbad
  obtain ⟨t, ht⟩ : ∃ t, (s.toList.drop a).takeWhile isHex = t := ⟨_, rfl⟩
  rw [ht] at hba
  have HT := Lib.hid ht
  have hrow := row_any b s hexS isHex hex_is a
  go_enter Tryd.func109, Tryd.ntmps109
  go_wp2_with fail
  refine (hrow _ (hr.alloc _) ha hs).mono ?_
  rintro e w1 ⟨p, rfl, hp, hr1, hg1⟩
  have hg := ((Gv.refl b w).alloc _).trans hg1
  have hpn : p.size = t.length := by rw [← size_of, hp.out, HT.out]
  clear hrow hbad ht hr1 hg1 hr
  by_cases h35 : c = 35
  · subst h35
    by_cases h32 : t.length = 32
    · rcases hba with h | h
      · exact absurd h32 h.2
      · omega
    · have q2 : ((p.size : Int) != 32) = true := by simp; omega
      go_wp2_with fail
      exact ⟨rfl, rfl, hg⟩
  · have hc2 : c = 120 := hc.resolve_right h35
    subst hc2
    have h2 : t.length % 2 ≠ 0 := by
      rcases hba with h | h
      · exact absurd h.1 h35
      · exact h
    have q2 : ((p.size : Int).tmod 2 != 0) = true := by
      rw [Int.tmod_eq_emod_of_nonneg (by omega)]
      simp; omega
    have q3 : ((p.size : Int) % 2 != 0) = true := by simp; omega
    go_wp2_with fail
    exact ⟨rfl, rfl, hg⟩

theorem hex_at {p : ByteArray} {t : List UInt8} (h : p.toList = t) (ht : t.all isHex = true) (m : Nat) (hm : m < p.size) : ∃ x : Nat, unhex p[m] = some x ∧ x < 16 ∧ Lib.indexByte hexS.toList p[m] = (x : Int) ∧ t[m]? = some p[m] := by
  have e : t[m]? = some p[m] := by rw [← h]; exact at_some p m hm
  have hx : isHex p[m] = true := List.all_eq_true.1 ht _ (List.mem_of_getElem? e)
  unfold isHex at hx
  cases hu : unhex p[m] with
  | none => rw [hu] at hx; cases hx
  | some x => exact ⟨x, rfl, (hexC_unhex hu).2, by rw [hex_index, hu], e⟩
theorem or16 {x1 x2 : Nat} (h1 : x1 < 16) (h2 : x2 < 16) : IntKind.u8.wrap (bits BinOp.or IntKind.i64 (IntKind.i64.wrap ((x1 : Int) * 16)) (x2 : Int)) = ((byte2 x1 x2).toNat : Int) := by
  have key : ∀ a b : Fin 16, IntKind.u8.wrap (bits BinOp.or IntKind.i64 (IntKind.i64.wrap ((a.val : Int) * 16)) (b.val : Int)) = ((byte2 a.val b.val).toNat : Int) := by decide +kernel
  exact key ⟨x1, h1⟩ ⟨x2, h2⟩
theorem or16b {x1 x2 : Nat} (h1 : x1 < 16) (h2 : x2 < 16) : bits BinOp.or IntKind.i64 ((x1 : Int) * 16) (x2 : Int) % 256 = ((byte2 x1 x2).toNat : Int) := by
  have key : ∀ a b : Fin 16, bits BinOp.or IntKind.i64 ((a.val : Int) * 16) (b.val : Int) % 256 = ((byte2 a.val b.val).toNat : Int) := by decide +kernel
  exact key ⟨x1, h1⟩ ⟨x2, h2⟩
/-- What has been filled in, zeros behind. -/
def filled (u : List UInt8) (j : Nat) : List UInt8 := u.take j ++ List.replicate (u.length - j) 0
theorem filled_len (u : List UInt8) (j : Nat) (h : j ≤ u.length) : (filled u j).length = u.length := by
  unfold filled
  rw [List.length_append, List.length_take, List.length_replicate]
  omega
theorem filled_zero (u : List UInt8) : filled u 0 = List.replicate u.length 0 := by simp [filled]
theorem filled_all (u : List UInt8) : filled u u.length = u := by simp [filled]
theorem filled_step (u : List UInt8) (j : Nat) (h : j < u.length) : (filled u j).set j u[j] = filled u (j + 1) := by
  unfold filled
  rw [List.take_succ_eq_append_getElem h, List.append_assoc, List.set_append_right _ _ (by rw [List.length_take]; omega), List.length_take, show j - min j u.length = 0 by omega, show u.length - j = (u.length - (j + 1)) + 1 by omega, List.replicate_succ, List.set_cons_zero]
  rfl
theorem bytesH_len : ∀ (n : Nat) (t : List UInt8), t.length = 2 * n → (bytesH t).length = n
  | 0, t, h => by
    have : t = [] := List.eq_nil_of_length_eq_zero (by omega)
    subst this; rfl
  | n + 1, [], h => by simp at h
  | n + 1, [_], h => by simp at h; omega
  | n + 1, a :: c :: t, h => by
    rw [bytesH, List.length_cons, bytesH_len n t (by simp at h; omega)]
theorem bytesH_at : ∀ (n : Nat) (t : List UInt8) (ht : t.length = 2 * n) (j : Nat) (h : j < n) (h2 : j < (bytesH t).length), (bytesH t)[j] = byte2 ((unhex (t[2 * j]'(by omega))).getD 0) ((unhex (t[2 * j + 1]'(by omega))).getD 0)
  | 0, t, ht, j, h, h2 => by omega
  | n + 1, [], ht, j, h, h2 => by simp at ht
  | n + 1, [_], ht, j, h, h2 => by simp at ht; omega
  | n + 1, a :: c :: t, ht, j, h, h2 => by
    cases j with
    | zero => simp [bytesH]
    | succ j =>
      have ht' : t.length = 2 * n := by simp at ht; omega
      have := bytesH_at n t ht' j (by omega) (by rw [bytesH_len n t ht']; omega)
      simp only [bytesH, List.getElem_cons_succ]
      rw [this]
      simp only [show 2 * (j + 1) = 2 * j + 1 + 1 by omega, List.getElem_cons_succ]

theorem six_gv {b T : Nat} {w wr : World} (h : Gv b w wr) (hT : w.heap.size ≤ T) (v0 v1 v2 v3 v4 v5 : Value) : Gv b w ((((((wr.setCell ⟨T, 0, none⟩ v0).setCell ⟨T, 1, none⟩ v1).setCell ⟨T, 2, none⟩ v2).setCell ⟨T, 3, none⟩ v3).setCell ⟨T, 4, none⟩ v4).setCell ⟨T, 5, none⟩ v5) :=
  (((((h.setNew hT 0 v0).setNew hT 1 v1).setNew hT 2 v2).setNew hT 3 v3).setNew hT 4 v4).setNew hT 5 v5
theorem six_blk {g T : Nat} {wr : World} {t : TypeId} {cs : Array Value} (h : Blk wr g t cs) (hne : g ≠ T) (v0 v1 v2 v3 v4 v5 : Value) : Blk ((((((wr.setCell ⟨T, 0, none⟩ v0).setCell ⟨T, 1, none⟩ v1).setCell ⟨T, 2, none⟩ v2).setCell ⟨T, 3, none⟩ v3).setCell ⟨T, 4, none⟩ v4).setCell ⟨T, 5, none⟩ v5) g t cs :=
  (Below.heap_setCell _ _ _ _ hne).trans ((Below.heap_setCell _ _ _ _ hne).trans ((Below.heap_setCell _ _ _ _ hne).trans ((Below.heap_setCell _ _ _ _ hne).trans ((Below.heap_setCell _ _ _ _ hne).trans ((Below.heap_setCell _ _ _ _ hne).trans h)))))
theorem six_lr {b T : Nat} {wr : World} {s : ByteArray} {a : Nat} (h : Lr wr b s a) (hne : b ≠ T) (v0 v1 v2 v3 v4 v5 : Value) : Lr ((((((wr.setCell ⟨T, 0, none⟩ v0).setCell ⟨T, 1, none⟩ v1).setCell ⟨T, 2, none⟩ v2).setCell ⟨T, 3, none⟩ v3).setCell ⟨T, 4, none⟩ v4).setCell ⟨T, 5, none⟩ v5) b s a := six_blk h hne v0 v1 v2 v3 v4 v5
set_option maxRecDepth 100000 in
set_option maxHeartbeats 3000000 in
theorem ldigits_ok (b : Nat) (s : ByteArray) (c : UInt8) (hc : c = 120 ∨ c = 35) (x : Int) (a : Nat) (w : World) (hr : Lr w b s a) (ha : a ≤ s.size) (hs : s.size ≤ 65536)
    (t : List UInt8) (ht : (s.toList.drop a).takeWhile isHex = t) (h35 : c = 35 → t.length = 32) (n : Nat) (h2 : t.length = 2 * n) :
    Calls Tryd.prog 109 #[.pointer (some ⟨b, 0, none⟩), .int .i64 x, .int .u8 (c.toNat : Int)] w fun e w' => ∃ q : ByteArray, e = .returned (.agg #[.int .u8 ((if c = 35 then 4 else 3 : Nat) : Int), .bool false, .bool false, .string ⟨#[]⟩, .string q, .slice none 0 0]) ∧
      Hid (q.toList = bytesH t) ∧ Lr w' b s (a + t.length) ∧ Gv b w w' := by
  have hth : t.all isHex = true := by rw [← ht]; exact while_all isHex _
  have HTH := Lib.hid hth
  have hul := bytesH_len n t h2
  have htle := takeWhile_len_le s isHex a ha
  rw [ht] at htle
  have HT := Lib.hid ht
  have hrow := row_any b s hexS isHex hex_is a
  have hbl : b < w.heap.size := Blk.lt hr
  go_enter Tryd.func109, Tryd.ntmps109
  go_wp2_with fail
  refine (hrow _ (hr.alloc _) ha hs).mono ?_
  rintro e w1 ⟨p, rfl, hp, hr1, hg1⟩
  have hE : Empty27 w1 w.heap.size := hg1.blk (by omega) (Blk.new w 27 _)
  have hg := ((Gv.refl b w).alloc _).trans hg1
  have hpl : p.toList = t := by rw [hp.out, HT.out]
  have HPL := Lib.hid hpl
  have hpn : p.size = 2 * n := by rw [← size_of, hpl, h2]
  rw [HT.out] at hr1
  have hw1 : w.heap.size < w1.heap.size := hE.lt
  have e2 : ((p.size : Int).tmod 2 != 0) = false := by
    rw [Int.tmod_eq_emod_of_nonneg (by omega)]
    simp; omega
  have e3 : ((p.size : Int) % 2 != 0) = false := by simp; omega
  obtain ⟨i0, hi, hz0, hz1, hz2⟩ := info_parts Tryd.info5
  clear hrow hg1 ht hpl hr hth
  rcases hc with rfl | rfl
  · skip
    go_wp2_with (first
      | (at_make; refine wpList_make_full _ rfl _ _ 111 rfl w1.heap.size 5 i0 (.int .u8 0) 1 Tryd.underlying111 hi hz0 hz1 _ _ _ _ n rfl rfl rfl rfl (by rw [hz2]; omega) (by unfold maxLen; omega) (Nat.le_refl _) ?_; intro w2 hown hgrow)
      | (at_builtin; refine wpList_len rfl (.tmp 32) 111 rfl slice111 rfl ?_))
    have hown2 : OwnB w2 w1.heap.size (.slice (some ⟨w1.heap.size, 0, none⟩) n n) (List.replicate n 0) := by
      unfold OwnB
      rw [show (Value.int IntKind.u8 0).cells = #[.int .u8 0] from rfl, Nat.mul_one, toList_madeCells_one] at hown
      simpa [bv] using hown
    have hB2 : Below w1.heap.size w1 w2 := (Below.refl _ _).grown hgrow (Nat.le_refl _) (by intro k hk; cases hk)
    have hg2 := hg.trans (Gv.of_below (b := b) hB2)
    have hr2 := hr1.later hB2
    have hE2 : Empty27 w2 w.heap.size := Blk.below hE hB2 hw1
    clear hown hgrow hB2 hg hr1 hE hi hz0 hz1 hz2
    go_loopw [34] (fun i wr => ∃ j : Nat, j ≤ n ∧ i = .int .i64 j ∧ OwnB wr w1.heap.size (.slice (some ⟨w1.heap.size, 0, none⟩) n n) (filled (bytesH t) j) ∧ RowKit.Hid (Lr wr b s (a + t.length) ∧ Empty27 wr w.heap.size ∧ Gv b w wr)) (fun i _ => n - (intOf i).toNat)
    case atStart => exact ⟨0, Nat.zero_le _, rfl, by rw [filled_zero, hul]; exact hown2, Lib.hid ⟨hr2, hE2, hg2⟩⟩
    case round =>
      clear hown2 hg2 hr2 hE2
      obtain ⟨j, hj, rfl, hO, HH⟩ := hrel
      by_cases hlt : j < n
      · have q3 : decide (j < n) = true := by simpa using hlt
        obtain ⟨m, hm⟩ : ∃ m, 2 * j = m := ⟨_, rfl⟩
        obtain ⟨m1, hm1⟩ : ∃ m1, m + 1 = m1 := ⟨_, rfl⟩
        have k1 : m < p.size := by omega
        have k2 : m1 < p.size := by omega
        obtain ⟨x1, u1, b1, i1, t1⟩ := hex_at HPL.out HTH.out m k1
        obtain ⟨x2, u2, b2, i2, t2⟩ := hex_at HPL.out HTH.out m1 k2
        have HX1 := Lib.hid i1
        have HX2 := Lib.hid i2
        have HS := Lib.hid (show (filled (bytesH t) j).set j (byte2 x1 x2) = filled (bytesH t) (j + 1) by
          have hj2 : j < (bytesH t).length := by rw [hul]; exact hlt
          have e := bytesH_at n t h2 j hlt hj2
          have g1 : t[2 * j]'(by omega) = p[m] := by have := List.getElem?_eq_some_iff.1 t1; obtain ⟨_, e1⟩ := this; simp only [hm]; exact e1
          have g2 : t[2 * j + 1]'(by omega) = p[m1] := by have := List.getElem?_eq_some_iff.1 t2; obtain ⟨_, e1⟩ := this; simp only [hm, hm1]; exact e1
          rw [g1, g2, u1, u2] at e
          simp only [Option.getD_some] at e
          rw [← e]
          exact filled_step _ j hj2)
        clear u1 u2 i1 i2 t1 t2
        have e41 : 2 * (j : Int) = (m : Int) := by omega
        have e42 : (m : Int) + 1 = (m1 : Int) := by omega
        have w41 : IntKind.i64.wrap (m : Int) = (m : Int) := wrap_small _ (by omega) (by omega)
        have w42 : IntKind.i64.wrap (m1 : Int) = (m1 : Int) := wrap_small _ (by omega) (by omega)
        clear hm hm1
        have hrow2 := hO.row
        have hfl : j < (filled (bytesH t) j).length := by rw [filled_len _ _ (by omega), hul]; exact hlt
        have hcell := hrow2.cell j hfl
        have hfrz := hrow2.frozen j hfl
        obtain ⟨z, hz⟩ : ∃ z, (filled (bytesH t) j)[j] = z := ⟨_, rfl⟩
        rw [hz] at hcell
        have HO := Lib.hid hO
        clear hz hrow2 hfl hO hpn
        go_wp2_with fail
        go_region_held3 (fun _ => True) (trivial) (first
          | (go_at_call 125; refine (indexByte_c _ _ _ _ HX1.out).mono ?_; rintro e w9 ⟨rfl, rfl⟩)
          | (go_at_call 125; refine (indexByte_c _ _ _ _ HX2.out).mono ?_; rintro e w9 ⟨rfl, rfl⟩))
        all_goals
          go_wp2_with fail
          first | rw [or16b b1 b2] | rw [or16 b1 b2]
          have hO3 := OwnB.set HO.out (by rw [filled_len _ _ (by omega), hul]) j (byte2 x1 x2)
          rw [HS.out] at hO3
          obtain ⟨hA, hBb, hC⟩ := HH.out
          have hne : w.heap.size ≠ w1.heap.size := by omega
          have hnb : b ≠ w1.heap.size := by omega
          refine ⟨⟨j + 1, by omega, rfl, hO3, Lib.hid ⟨(Below.heap_setCell _ _ _ _ hnb).trans hA, (Below.heap_setCell _ _ _ _ hne).trans hBb, Gv.drew (hC.setNew (by omega) _ _)⟩⟩, by simp [intOf]; omega⟩
      · have q3 : decide (j < n) = false := by simpa using hlt
        have hje : j = n := by omega
        subst hje
        obtain ⟨hA, hBb, hC⟩ := HH.out
        have hfa : filled (bytesH t) j = bytesH t := by rw [← hul]; exact filled_all _
        rw [hfa] at hO
        have hcv := hO.conv (P := Tryd.prog) 111 9 Tryd.underlying111 (by kernel_rfl) (by kernel_rfl)
        have c0 := hBb.cell 0
        have c1 := hBb.cell 1
        have c2 := hBb.cell 2
        have c3 := hBb.cell 3
        have c4 := hBb.cell 4
        have c5 := hBb.cell 5
        have z0 := hBb.frozen 0
        have z1 := hBb.frozen 1
        have z2 := hBb.frozen 2
        have z3 := hBb.frozen 3
        have z4 := hBb.frozen 4
        have z5 := hBb.frozen 5
        have HH2 := HH
        clear hA hBb hC hfa hO HH
        simp at c0 c1 c2 c3 c4 c5
        go_wp2_with fail
        refine bodyPost_ret (v := .agg #[.int .u8 3, .bool false, .bool false, .string ⟨#[]⟩, .string ⟨(bytesH t).toArray⟩, .slice none 0 0]) (by simp [results, Tryd.results109, go_sem, c0, c1, c2, c3, c4, c5]) rfl ⟨_, rfl, Lib.hid (by rw [Lib.toList_data]), ?_, six_gv HH2.out.2.2 (Nat.le_refl _) _ _ _ _ _ _⟩
        have hL := HH2.out.1
        rw [h2] at hL
        have hne : b ≠ w.heap.size := by omega
        exact six_lr hL hne _ _ _ _ _ _
  · have e4 : (2 * (n : Int) != 32) = false := by have := h35 rfl; simp; omega
    go_wp2_with (first
      | (at_make; refine wpList_make_full _ rfl _ _ 111 rfl w1.heap.size 5 i0 (.int .u8 0) 1 Tryd.underlying111 hi hz0 hz1 _ _ _ _ n rfl rfl rfl rfl (by rw [hz2]; omega) (by unfold maxLen; omega) (Nat.le_refl _) ?_; intro w2 hown hgrow)
      | (at_builtin; refine wpList_len rfl (.tmp 32) 111 rfl slice111 rfl ?_))
    have hown2 : OwnB w2 w1.heap.size (.slice (some ⟨w1.heap.size, 0, none⟩) n n) (List.replicate n 0) := by
      unfold OwnB
      rw [show (Value.int IntKind.u8 0).cells = #[.int .u8 0] from rfl, Nat.mul_one, toList_madeCells_one] at hown
      simpa [bv] using hown
    have hB2 : Below w1.heap.size w1 w2 := (Below.refl _ _).grown hgrow (Nat.le_refl _) (by intro k hk; cases hk)
    have hg2 := hg.trans (Gv.of_below (b := b) hB2)
    have hr2 := hr1.later hB2
    have hE2 : Empty27 w2 w.heap.size := Blk.below hE hB2 hw1
    clear hown hgrow hB2 hg hr1 hE hi hz0 hz1 hz2
    go_loopw [34] (fun i wr => ∃ j : Nat, j ≤ n ∧ i = .int .i64 j ∧ OwnB wr w1.heap.size (.slice (some ⟨w1.heap.size, 0, none⟩) n n) (filled (bytesH t) j) ∧ RowKit.Hid (Lr wr b s (a + t.length) ∧ Empty27 wr w.heap.size ∧ Gv b w wr)) (fun i _ => n - (intOf i).toNat)
    case atStart => exact ⟨0, Nat.zero_le _, rfl, by rw [filled_zero, hul]; exact hown2, Lib.hid ⟨hr2, hE2, hg2⟩⟩
    case round =>
      clear hown2 hg2 hr2 hE2
      obtain ⟨j, hj, rfl, hO, HH⟩ := hrel
      by_cases hlt : j < n
      · have q3 : decide (j < n) = true := by simpa using hlt
        obtain ⟨m, hm⟩ : ∃ m, 2 * j = m := ⟨_, rfl⟩
        obtain ⟨m1, hm1⟩ : ∃ m1, m + 1 = m1 := ⟨_, rfl⟩
        have k1 : m < p.size := by omega
        have k2 : m1 < p.size := by omega
        obtain ⟨x1, u1, b1, i1, t1⟩ := hex_at HPL.out HTH.out m k1
        obtain ⟨x2, u2, b2, i2, t2⟩ := hex_at HPL.out HTH.out m1 k2
        have HX1 := Lib.hid i1
        have HX2 := Lib.hid i2
        have HS := Lib.hid (show (filled (bytesH t) j).set j (byte2 x1 x2) = filled (bytesH t) (j + 1) by
          have hj2 : j < (bytesH t).length := by rw [hul]; exact hlt
          have e := bytesH_at n t h2 j hlt hj2
          have g1 : t[2 * j]'(by omega) = p[m] := by have := List.getElem?_eq_some_iff.1 t1; obtain ⟨_, e1⟩ := this; simp only [hm]; exact e1
          have g2 : t[2 * j + 1]'(by omega) = p[m1] := by have := List.getElem?_eq_some_iff.1 t2; obtain ⟨_, e1⟩ := this; simp only [hm, hm1]; exact e1
          rw [g1, g2, u1, u2] at e
          simp only [Option.getD_some] at e
          rw [← e]
          exact filled_step _ j hj2)
        clear u1 u2 i1 i2 t1 t2
        have e41 : 2 * (j : Int) = (m : Int) := by omega
        have e42 : (m : Int) + 1 = (m1 : Int) := by omega
        have w41 : IntKind.i64.wrap (m : Int) = (m : Int) := wrap_small _ (by omega) (by omega)
        have w42 : IntKind.i64.wrap (m1 : Int) = (m1 : Int) := wrap_small _ (by omega) (by omega)
        clear hm hm1
        have hrow2 := hO.row
        have hfl : j < (filled (bytesH t) j).length := by rw [filled_len _ _ (by omega), hul]; exact hlt
        have hcell := hrow2.cell j hfl
        have hfrz := hrow2.frozen j hfl
        obtain ⟨z, hz⟩ : ∃ z, (filled (bytesH t) j)[j] = z := ⟨_, rfl⟩
        rw [hz] at hcell
        have HO := Lib.hid hO
        clear hz hrow2 hfl hO hpn
        go_wp2_with fail
        go_region_held3 (fun _ => True) (trivial) (first
          | (go_at_call 125; refine (indexByte_c _ _ _ _ HX1.out).mono ?_; rintro e w9 ⟨rfl, rfl⟩)
          | (go_at_call 125; refine (indexByte_c _ _ _ _ HX2.out).mono ?_; rintro e w9 ⟨rfl, rfl⟩))
        all_goals
          go_wp2_with fail
          first | rw [or16b b1 b2] | rw [or16 b1 b2]
          have hO3 := OwnB.set HO.out (by rw [filled_len _ _ (by omega), hul]) j (byte2 x1 x2)
          rw [HS.out] at hO3
          obtain ⟨hA, hBb, hC⟩ := HH.out
          have hne : w.heap.size ≠ w1.heap.size := by omega
          have hnb : b ≠ w1.heap.size := by omega
          refine ⟨⟨j + 1, by omega, rfl, hO3, Lib.hid ⟨(Below.heap_setCell _ _ _ _ hnb).trans hA, (Below.heap_setCell _ _ _ _ hne).trans hBb, Gv.drew (hC.setNew (by omega) _ _)⟩⟩, by simp [intOf]; omega⟩
      · have q3 : decide (j < n) = false := by simpa using hlt
        have hje : j = n := by omega
        subst hje
        obtain ⟨hA, hBb, hC⟩ := HH.out
        have hfa : filled (bytesH t) j = bytesH t := by rw [← hul]; exact filled_all _
        rw [hfa] at hO
        have hcv := hO.conv (P := Tryd.prog) 111 9 Tryd.underlying111 (by kernel_rfl) (by kernel_rfl)
        have c0 := hBb.cell 0
        have c1 := hBb.cell 1
        have c2 := hBb.cell 2
        have c3 := hBb.cell 3
        have c4 := hBb.cell 4
        have c5 := hBb.cell 5
        have z0 := hBb.frozen 0
        have z1 := hBb.frozen 1
        have z2 := hBb.frozen 2
        have z3 := hBb.frozen 3
        have z4 := hBb.frozen 4
        have z5 := hBb.frozen 5
        have HH2 := HH
        clear hA hBb hC hfa hO HH
        simp at c0 c1 c2 c3 c4 c5
        go_wp2_with fail
        refine bodyPost_ret (v := .agg #[.int .u8 4, .bool false, .bool false, .string ⟨#[]⟩, .string ⟨(bytesH t).toArray⟩, .slice none 0 0]) (by simp [results, Tryd.results109, go_sem, c0, c1, c2, c3, c4, c5]) rfl ⟨_, rfl, Lib.hid (by rw [Lib.toList_data]), ?_, six_gv HH2.out.2.2 (Nat.le_refl _) _ _ _ _ _ _⟩
        have hL := HH2.out.1
        rw [show t.length = 32 from h35 (by trivial)] at hL
        have hne : b ≠ w.heap.size := by omega
        exact six_lr hL hne _ _ _ _ _ _
end Go.Proofs.YtcgphlilijeifaaDoor.L
end
section
/-
  Reading between quotes, step by step, in plain words.
-/
namespace Go.Proofs.YtcgphlilijeifaaDoor.L
open V (Pt)

/-- M has been read from R on, T is what comes. -/
def QS (q : UInt8) (R M T : List UInt8) : Prop := quotedF q R = (quotedF q T).map fun x => (M ++ x.1, x.2)
theorem QS.start (q : UInt8) (R : List UInt8) : QS q R [] R := by
  unfold QS
  cases quotedF q R <;> rfl
theorem QS.step {q : UInt8} {R M T T' : List UInt8} {d : UInt8} (h : QS q R M T) (e : quotedF q T = (quotedF q T').map fun x => (d :: x.1, x.2)) : QS q R (M ++ [d]) T' := by
  unfold QS at h ⊢
  rw [h, e]
  cases quotedF q T' <;> simp
theorem QS.close {q : UInt8} {R M T : List UInt8} (h : QS q R M (q :: T)) : quotedF q R = some (M, T) := by
  unfold QS at h
  rw [h, quotedF_close]
  simp
theorem QS.bad {q : UInt8} {R M T : List UInt8} (h : QS q R M T) (e : quotedF q T = none) : quotedF q R = none := by
  unfold QS at h
  rw [h, e]; rfl
theorem q_end (q : UInt8) : quotedF q [] = none := by rw [quotedF.eq_def]
theorem q_odd {q c : UInt8} (h1 : c ≠ q) (h2 : plainB c = false) (T : List UInt8) : quotedF q (c :: T) = none := by rw [quotedF.eq_def]; simp [h1, h2]
theorem q_sl_end {q : UInt8} (h : (92 : UInt8) ≠ q) : quotedF q [92] = none := by rw [quotedF.eq_def]; simp [h, p92]
theorem q_sl_odd {q d : UInt8} (h : (92 : UInt8) ≠ q) (h1 : d ≠ q) (h2 : d ≠ 92) (h3 : d ≠ 120) (T : List UInt8) : quotedF q (92 :: d :: T) = none := by rw [quotedF.eq_def]; simp [h, p92, h1, h2, h3]
theorem q_x0 {q : UInt8} (h : (92 : UInt8) ≠ q) (hx : (120 : UInt8) ≠ q) : quotedF q [92, 120] = none := by rw [quotedF.eq_def]; simp [h, p92, hx]
theorem q_x1 {q : UInt8} (h : (92 : UInt8) ≠ q) (hx : (120 : UInt8) ≠ q) (a : UInt8) : quotedF q [92, 120, a] = none := by rw [quotedF.eq_def]; simp [h, p92, hx]
theorem q_xh {q : UInt8} (h : (92 : UInt8) ≠ q) (hx : (120 : UInt8) ≠ q) {a b : UInt8} (ha : unhex a = none) (T : List UInt8) : quotedF q (92 :: 120 :: a :: b :: T) = none := by rw [quotedF.eq_def]; simp [h, p92, hx, ha]
theorem q_xl {q : UInt8} (h : (92 : UInt8) ≠ q) (hx : (120 : UInt8) ≠ q) {a b : UInt8} (hb : unhex b = none) (T : List UInt8) : quotedF q (92 :: 120 :: a :: b :: T) = none := by
  rw [quotedF.eq_def]
  cases ha : unhex a <;> simp [h, p92, hx, ha, hb]
theorem q_xp {q : UInt8} (h : (92 : UInt8) ≠ q) (hx : (120 : UInt8) ≠ q) {a b : UInt8} {x y : Nat} (ha : unhex a = some x) (hb : unhex b = some y) (hp : plainB (byte2 x y) = true) (T : List UInt8) : quotedF q (92 :: 120 :: a :: b :: T) = none := by
  rw [quotedF.eq_def]; simp [h, p92, hx, ha, hb, hp]
theorem q_short {q : UInt8} (h : (92 : UInt8) ≠ q) (hx : (120 : UInt8) ≠ q) {T : List UInt8} (hT : T.length < 2) : quotedF q (92 :: 120 :: T) = none := by
  match T, hT with
  | [], _ => exact q_x0 h hx
  | [a], _ => exact q_x1 h hx a
end Go.Proofs.YtcgphlilijeifaaDoor.L
end
