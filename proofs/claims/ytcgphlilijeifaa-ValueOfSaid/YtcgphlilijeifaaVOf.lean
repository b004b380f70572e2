/-
  Of: the document's, the program's, slices.Clone: the contracts.
-/
import Derived.Test.YtcgphlilijeifaaVCopied
import Derived.Test.YtcgphlilijeifaaVDepth
import Derived.Test.YtcgphlilijeifaaVRef
namespace Go.Proofs.Ytcgphlilijeifaa.V
open Go.RowKit

/-- A tuple of parts. -/
def pT (l : List Pt) : Pt := .mk 7 false false ⟨#[]⟩ ⟨#[]⟩ l
/-- Of's answer. -/
def ofE (l : List Pt) : Int := if 1024 < l.length then 2 else if deepB 16 (pT l) then 91 else 0
theorem ofE_three (l : List Pt) : (1024 < l.length ∧ ofE l = 2) ∨ (¬ 1024 < l.length ∧ deepB 16 (pT l) = true ∧ ofE l = 91) ∨ (¬ 1024 < l.length ∧ deepB 16 (pT l) = false ∧ ofE l = 0) := by
  unfold ofE
  by_cases h : 1024 < l.length
  · exact .inl ⟨h, if_pos h⟩
  · rw [if_neg h]
    cases hd : deepB 16 (pT l) with
    | true => exact .inr (.inl ⟨h, rfl, rfl⟩)
    | false => exact .inr (.inr ⟨h, rfl, rfl⟩)
theorem deepT {l : List Pt} : deepB 16 (pT l) = true ↔ ∃ q ∈ l, 16 ≤ depthP q := by
  rw [deepB_iff, depthP_eq]
  show 16 < (if (7 : Nat) = 7 then depthL l + 1 else 0) ↔ _
  rw [if_pos rfl]
  constructor
  · intro h
    have h2 : ¬ ∀ q ∈ l, depthP q ≤ 15 := fun h3 => by have := (depthL_le l 15).2 h3; omega
    simp only [Classical.not_forall, Nat.not_le] at h2
    obtain ⟨q, hq, hd⟩ := h2
    exact ⟨q, hq, hd⟩
  · rintro ⟨q, hq, hd⟩
    have := depthL_mem hq
    omega
theorem fitT {l : List Pt} (h : l.length * 72 ≤ 140737488351232) : Fit (pT l) := ⟨(by decide : 7 < 256), (by decide : (⟨#[]⟩ : ByteArray).size ≤ 140737488351232), (by decide : (⟨#[]⟩ : ByteArray).size ≤ 140737488351232), show l.length ≤ _ by omega⟩
theorem zeroOf : (Value.agg #[.int .u8 0, .bool false, .bool false, .string ⟨#[]⟩, .string ⟨#[]⟩, .slice none 0 0]) = .agg #[.int .u8 0, .bool false, .bool false, .string ⟨#[]⟩, .string ⟨#[]⟩, .slice none 0 0] := rfl

theorem copied_T (l : List Pt) (a : Option Addr) (cap : Nat) (w : World) (hf : ∀ q ∈ l, FitA q) (hr : ∀ q ∈ l, Roomy q) (hl : l.length * 72 ≤ 140737488351232) (hp : PI w 0 w.heap.size l (.slice a l.length cap)) :
    Calls Try.prog 16 #[.agg #[.int .u8 7, .bool false, .bool false, .string ⟨#[]⟩, .string ⟨#[]⟩, .slice a l.length cap]] w fun e w' =>
      ∃ a2 cap2, e = .returned (.agg #[.int .u8 7, .bool false, .bool false, .string ⟨#[]⟩, .string ⟨#[]⟩, .slice a2 l.length cap2]) ∧ PI w' w.heap.size w'.heap.size l (.slice a2 l.length cap2) ∧ Below w.heap.size w w' :=
  (copied_any (pT l) (.slice a l.length cap) w (.mk _ (fitT hl) hf) (.mk _ hl hr) hp).mono fun _ _ ⟨a2, cap2, h1, h2, h3⟩ => ⟨a2, cap2, h1, h2.reads, h3⟩
theorem rdeep_T (l : List Pt) (a : Option Addr) (cap : Nat) (w : World) (hl : l.length * 72 ≤ 140737488351232) (hp : PI w 0 w.heap.size l (.slice a l.length cap)) :
    Calls Try.prog 26 #[.agg #[.int .u8 7, .bool false, .bool false, .string ⟨#[]⟩, .string ⟨#[]⟩, .slice a l.length cap], .int .i64 16] w fun e w' => e = .returned (.bool (deepB 16 (pT l))) ∧ Below w.heap.size w w' :=
  rdeep_any 16 (pT l) (.slice a l.length cap) w (by decide) (fitT hl) hp

theorem Blank.new (w : World) {ob : Obj} : Blank ((w.alloc (.cells #[.int .u8 0, .bool false, .bool false, .string ⟨#[]⟩, .string ⟨#[]⟩, .slice none 0 0] 27)).alloc ob) w.heap.size := by constructor <;> simp [go_sem]
def RofPost (l : List Pt) (w : World) (e : Ending) (w' : World) : Prop := ∃ (k : Nat) (a : Option Addr) (n cap : Nat), e = .returned (.tuple #[.agg #[.int .u8 k, .bool false, .bool false, .string ⟨#[]⟩, .string ⟨#[]⟩, .slice a n cap], .int .i64 (ofE l)]) ∧
  (ofE l = 0 → k = 7 ∧ n = l.length ∧ PI w' w.heap.size w'.heap.size l (.slice a n cap)) ∧ Below w.heap.size w w'
set_option maxRecDepth 100000 in
set_option maxHeartbeats 1000000 in
theorem rof_any (l : List Pt) (v : Value) (w : World) (hf : ∀ q ∈ l, FitA q) (hr : ∀ q ∈ l, Roomy q) (hl : l.length * 72 ≤ 140737488351232) (hp : PI w 0 w.heap.size l v) :
    Calls Try.prog 13 #[v] w (RofPost l w) := by
  have hp0 := Lib.hid hp
  have HF := Lib.hid hf
  have HR := Lib.hid hr
  obtain ⟨a, cap, rfl, _, _⟩ := hp.open
  have hA : Below w.heap.size w ((w.alloc (.cells #[.int .u8 0, .bool false, .bool false, .string ⟨#[]⟩, .string ⟨#[]⟩, .slice none 0 0] 27)).alloc (.cells #[.int .u8 7, .bool false, .bool false, .string ⟨#[]⟩, .string ⟨#[]⟩, .slice a l.length cap] 27)) := ((Below.refl _ _).alloc (Nat.le_refl _) _).alloc (by simp) _
  clear hp hf hr
  rcases ofE_three l with ⟨h, hE⟩ | ⟨h, hd, hE⟩ | ⟨h, hd, hE⟩
  · have q1 : decide ((1024 : Int) < (l.length : Int)) = true := decide_eq_true (by omega)
    have HE := Lib.hid hE
    clear h hE
    go_enter Try.func13, Try.ntmps13
    go_wp2_with fail
    exact bodyPost_ret (v := .tuple #[.agg #[.int .u8 0, .bool false, .bool false, .string ⟨#[]⟩, .string ⟨#[]⟩, .slice none 0 0], .int .i64 2]) (by simp [results, Try.results13, go_sem]) rfl
      ⟨0, none, 0, 0, by rw [HE.out]; rfl, fun h => by (rw [HE.out] at h; cases h), (Below.refl _ _).alloc (Nat.le_refl _) _⟩
  · have q1 : decide ((1024 : Int) < (l.length : Int)) = false := decide_eq_false (by omega)
    have HE := Lib.hid hE
    have HD := Lib.hid hd
    clear h hE hd
    go_enter Try.func13, Try.ntmps13
    go_wp2_with fail
    refine (rdeep_T l a cap _ hl (hp0.out.later hA)).mono ?_
    rintro e w1 ⟨rfl, hb1⟩
    rw [HD.out]
    have hB1 : Below w.heap.size w w1 := hA.trans (hb1.mono (by simp; omega))
    have hr := Lib.hid ((Blank.new w).later hb1 (by simp; omega))
    obtain ⟨r0, r1, r2, r3, r4, r5, z0, z1, z2, z3, z4, z5⟩ := hr.out
    have hlt : w.heap.size < w1.heap.size := World.block_lt_of_cell? w1 _ r0
    clear hb1
    go_wp2_with fail
    exact bodyPost_ret (v := .tuple #[.agg #[.int .u8 0, .bool false, .bool false, .string ⟨#[]⟩, .string ⟨#[]⟩, .slice none 0 0], .int .i64 91]) (by simp [results, Try.results13, go_sem, r0, r1, r2, r3, r4, r5]) rfl
      ⟨0, none, 0, 0, by rw [HE.out]; rfl, fun h => by (rw [HE.out] at h; cases h), hB1.trans (set6_below w1 w.heap.size 0 0 false false ⟨#[]⟩ ⟨#[]⟩ (.slice none 0 0) (Nat.le_refl _))⟩
  · have q1 : decide ((1024 : Int) < (l.length : Int)) = false := decide_eq_false (by omega)
    have HE := Lib.hid hE
    have HD := Lib.hid hd
    clear h hE hd
    go_enter Try.func13, Try.ntmps13
    go_wp2_with fail
    refine (rdeep_T l a cap _ hl (hp0.out.later hA)).mono ?_
    rintro e w1 ⟨rfl, hb1⟩
    rw [HD.out]
    have hB1 : Below w.heap.size w w1 := hA.trans (hb1.mono (by simp; omega))
    have hr := Lib.hid ((Blank.new w).later hb1 (by simp; omega))
    have hy := Lib.hid ((Box.new (w.alloc (.cells #[.int .u8 0, .bool false, .bool false, .string ⟨#[]⟩, .string ⟨#[]⟩, .slice none 0 0] 27)) (pT l) (.slice a l.length cap) 27).later hb1 (by simp))
    have hbs : (w.alloc (.cells #[.int .u8 0, .bool false, .bool false, .string ⟨#[]⟩, .string ⟨#[]⟩, .slice none 0 0] 27)).heap.size = w.heap.size + 1 := by simp
    rw [hbs] at hy
    have d0 : w1.cell? ⟨w.heap.size + 1, 0, none⟩ = some (.int .u8 7) := hy.out.cells.c0
    have d1 : w1.cell? ⟨w.heap.size + 1, 1, none⟩ = some (.bool false) := hy.out.cells.c1
    have d2 : w1.cell? ⟨w.heap.size + 1, 2, none⟩ = some (.bool false) := hy.out.cells.c2
    have d3 : w1.cell? ⟨w.heap.size + 1, 3, none⟩ = some (.string ⟨#[]⟩) := hy.out.cells.c3
    have d4 : w1.cell? ⟨w.heap.size + 1, 4, none⟩ = some (.string ⟨#[]⟩) := hy.out.cells.c4
    have d5 : w1.cell? ⟨w.heap.size + 1, 5, none⟩ = some (.slice a l.length cap) := hy.out.cells.c5
    have hlt1 : w.heap.size < w1.heap.size := World.block_lt_of_cell? w1 _ hr.out.c0
    clear hb1 hbs
    go_wp2_with fail
    refine (copied_T l a cap _ HF.out HR.out hl (hp0.out.later hB1)).mono ?_
    rintro e w2 ⟨a2, cap2, rfl, hpi, hb2⟩
    have hr2 := Lib.hid (hr.out.later hb2 hlt1)
    have hB2 := two hB1 hb2
    have HPI := Lib.hid hpi
    obtain ⟨r0, r1, r2, r3, r4, r5, z0, z1, z2, z3, z4, z5⟩ := hr2.out
    have hlt : w.heap.size < w2.heap.size := World.block_lt_of_cell? w2 _ r0
    clear d0 d1 d2 d3 d4 d5 hpi hb2
    go_wp2_with fail
    obtain ⟨W', hW'⟩ : ∃ W', W' = set6 w2 w.heap.size 0 7 false false ⟨#[]⟩ ⟨#[]⟩ (.slice a2 l.length cap2) := ⟨_, rfl⟩
    have hFin : RowKit.Hid (PI W' w.heap.size W'.heap.size l (.slice a2 l.length cap2) ∧ Below w.heap.size w W') := by
      rw [hW']
      refine Lib.hid ⟨?_, hB2.trans (set6_below _ _ _ _ _ _ _ _ _ (Nat.le_refl _))⟩
      rw [set6_size]
      exact (HPI.out.same (fun x h1 _ => set6_block _ _ _ _ _ _ _ _ _ (by omega))).wide (by omega) (Nat.le_refl _)
    rw [hW'] at hFin
    clear hW'
    exact bodyPost_ret (v := .tuple #[.agg #[.int .u8 7, .bool false, .bool false, .string ⟨#[]⟩, .string ⟨#[]⟩, .slice a2 l.length cap2], .int .i64 0]) (by simp [results, Try.results13, go_sem, r0, r1, r2, r3, r4, r5]) rfl
      ⟨7, a2, l.length, cap2, by rw [HE.out]; rfl, fun _ => ⟨rfl, rfl, hFin.out.1⟩, hFin.out.2⟩
end Go.Proofs.Ytcgphlilijeifaa.V
