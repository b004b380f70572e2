/-
  The program's Tell: its contract, for every value.
-/
import Derived.Test.YtcgphlilijeifaaDoorVTell
namespace Go.Proofs.YtcgphlilijeifaaDoor.V
open Go.RowKit

theorem part_truth (y : Bool) (w : World) : Calls Tryd.prog 157 #[.agg #[.bool y]] w fun e w' => e = .returned (.agg #[.int .u8 1, .bool y, .bool false, .string ⟨#[]⟩, .string ⟨#[]⟩, .slice none 0 0]) ∧ Below w.heap.size w w' := by
  go_enter Tryd.func157, Tryd.ntmps157
  go_wp2_with fail
  exact bodyPost_ret (v := .agg #[.int .u8 1, .bool y, .bool false, .string ⟨#[]⟩, .string ⟨#[]⟩, .slice none 0 0]) (by simp [results, Tryd.results157, go_sem]) rfl ⟨rfl, ((Below.refl _ _).alloc (Nat.le_refl _) _).alloc (by simp) _⟩
theorem part_whole (b : Bool) (m : ByteArray) (w : World) : Calls Tryd.prog 160 #[.agg #[.bool b, .string m]] w fun e w' => e = .returned (.agg #[.int .u8 2, .bool false, .bool b, .string m, .string ⟨#[]⟩, .slice none 0 0]) ∧ Below w.heap.size w w' := by
  go_enter Tryd.func160, Tryd.ntmps160
  go_wp2_with fail
  exact bodyPost_ret (v := .agg #[.int .u8 2, .bool false, .bool b, .string m, .string ⟨#[]⟩, .slice none 0 0]) (by simp [results, Tryd.results160, go_sem]) rfl ⟨rfl, ((Below.refl _ _).alloc (Nat.le_refl _) _).alloc (by simp) _⟩
theorem part_row (k : Nat) (r : ByteArray) (w : World) : Calls Tryd.prog 167 #[.agg #[.int .u8 k, .string r]] w fun e w' => e = .returned (.agg #[.int .u8 k, .bool false, .bool false, .string ⟨#[]⟩, .string r, .slice none 0 0]) ∧ Below w.heap.size w w' := by
  go_enter Tryd.func167, Tryd.ntmps167
  go_wp2_with fail
  exact bodyPost_ret (v := .agg #[.int .u8 k, .bool false, .bool false, .string ⟨#[]⟩, .string r, .slice none 0 0]) (by simp [results, Tryd.results167, go_sem]) rfl ⟨rfl, ((Below.refl _ _).alloc (Nat.le_refl _) _).alloc (by simp) _⟩

/-- What a part that may be has beside its own fields: nothing. -/
theorem canon {p : Pt} (h : mayB p = true) : (p.kind ≠ 1 → p.yes = false) ∧ (p.kind ≠ 2 → p.neg = false ∧ p.mag = ⟨#[]⟩) ∧ (p.kind ≠ 7 → p.items = []) ∧ (p.kind = 0 ∨ p.kind = 1 ∨ p.kind = 2 ∨ p.kind = 7 → p.raw = ⟨#[]⟩) := by
  have h1 := mayB_ok h
  unfold okOne at h1
  simp only [Bool.and_eq_true] at h1
  obtain ⟨⟨⟨⟨_, h2⟩, h3⟩, h4⟩, h5⟩ := h1
  refine ⟨fun k => ?_, fun k => ?_, fun k => ?_, fun k => ?_⟩
  · simpa [k] using h2
  · have : p.neg = false ∧ p.mag.toList = [] := by simpa [k] using h3
    exact ⟨this.1, ba_nil (by rw [this.2]; rfl)⟩
  · have : (p.kind == 7) = false := by simpa using k
    rw [this, Bool.false_or, List.isEmpty_iff] at h4
    exact h4
  · refine ba_nil ?_
    rcases k with k | k | k | k <;> simp [k] at h5 ⊢
    · exact h5
    · exact h5
    · exact h5.1
    · exact h5.1
theorem tell_flat {p : Pt} {w w' : World} (hi : p.items = []) (hb : Below w.heap.size w w') : OwnI w' false w.heap.size w'.heap.size p.items (.slice none p.items.length 0) ∧ Below w.heap.size w w' := by
  rw [hi]; exact ⟨.nil _ _ rfl, hb⟩

/-- The result's place, behind a call. -/
theorem res_cells {w w1 : World} (hb : Below (w.alloc (.cells #[.int .u8 0, .bool false, .bool false, .string ⟨#[]⟩, .string ⟨#[]⟩, .slice none 0 0] 27)).heap.size (w.alloc (.cells #[.int .u8 0, .bool false, .bool false, .string ⟨#[]⟩, .string ⟨#[]⟩, .slice none 0 0] 27)) w1) :
    w1.cell? ⟨w.heap.size, 0, none⟩ = some (.int .u8 0) ∧ w1.cell? ⟨w.heap.size, 1, none⟩ = some (.bool false) ∧ w1.cell? ⟨w.heap.size, 2, none⟩ = some (.bool false) ∧ w1.cell? ⟨w.heap.size, 3, none⟩ = some (.string ⟨#[]⟩) ∧ w1.cell? ⟨w.heap.size, 4, none⟩ = some (.string ⟨#[]⟩) ∧
      w1.cell? ⟨w.heap.size, 5, none⟩ = some (.slice none 0 0) ∧ w1.frozen? ⟨w.heap.size, 0, none⟩ = false ∧ w1.frozen? ⟨w.heap.size, 1, none⟩ = false ∧ w1.frozen? ⟨w.heap.size, 2, none⟩ = false ∧ w1.frozen? ⟨w.heap.size, 3, none⟩ = false ∧ w1.frozen? ⟨w.heap.size, 4, none⟩ = false ∧ w1.frozen? ⟨w.heap.size, 5, none⟩ = false ∧ w.heap.size < w1.heap.size := by
  have hlt : w.heap.size < (w.alloc (.cells #[.int .u8 0, .bool false, .bool false, .string ⟨#[]⟩, .string ⟨#[]⟩, .slice none 0 0] 27)).heap.size := by simp
  have z : ∀ c, w1.frozen? ⟨w.heap.size, c, none⟩ = false := fun c => (hb.frozen (p := ⟨w.heap.size, c, none⟩) hlt).trans (by simp)
  exact ⟨keep hb hlt (by simp), keep hb hlt (by simp), keep hb hlt (by simp), keep hb hlt (by simp), keep hb hlt (by simp), keep hb hlt (by simp), z 0, z 1, z 2, z 3, z 4, z 5, Nat.lt_of_lt_of_le hlt hb.size⟩
set_option maxHeartbeats 2000000 in
theorem tell_any (p : Pt) : ∀ (v : Value) (w : World), mayB p = true → FitA p → VI w 0 w.heap.size p v → Calls Tryd.prog 37 #[v] w (TellPost p w) := by
  induction p using Pt.ind with
  | h p ih =>
  intro v w hmay hfa hv
  have HV := Lib.hid hv
  obtain ⟨n1, n2, n3, n4⟩ := canon hmay
  cases hv with
  | null _ h =>
    have y1 := n1 (by omega)
    obtain ⟨y2, y3⟩ := n2 (by omega)
    have y4 := n3 (by omega)
    have y5 := n4 (.inl h)
    have HE := Lib.hid (show Value.agg #[.int .u8 p.kind, .bool p.yes, .bool p.neg, .string p.mag, .string p.raw, .slice none p.items.length 0] = .agg #[.int .u8 0, .bool false, .bool false, .string ⟨#[]⟩, .string ⟨#[]⟩, .slice none 0 0] by rw [h, y1, y2, y3, y4, y5]; rfl)
    have H4 := Lib.hid y4
    clear n1 n2 n3 n4 y1 y2 y3 y4 y5 h
    go_enter Tryd.func37, Tryd.ntmps37
    go_wp2_with fail
    exact bodyPost_ret (v := .agg #[.int .u8 0, .bool false, .bool false, .string ⟨#[]⟩, .string ⟨#[]⟩, .slice none 0 0]) (by simp [results, Tryd.results37, go_sem]) rfl
      ⟨none, 0, by rw [HE.out], tell_flat H4.out ((Below.refl _ _).alloc (Nat.le_refl _) _)⟩
  | truth _ h =>
    obtain ⟨y2, y3⟩ := n2 (by omega)
    have y4 := n3 (by omega)
    have y5 := n4 (by omega)
    have HE := Lib.hid (show Value.agg #[.int .u8 p.kind, .bool p.yes, .bool p.neg, .string p.mag, .string p.raw, .slice none p.items.length 0] = .agg #[.int .u8 1, .bool p.yes, .bool false, .string ⟨#[]⟩, .string ⟨#[]⟩, .slice none 0 0] by rw [h, y2, y3, y4, y5]; rfl)
    have H4 := Lib.hid y4
    have m1 : ∀ w : World, (method 338 140 (.agg #[.bool p.yes]) "Part").run Tryd.prog w = .ok (157, .agg #[.bool p.yes]) w := fun _ => by kernel_rfl
    clear n1 n2 n3 n4 y2 y3 y4 y5 h
    go_enter Tryd.func37, Tryd.ntmps37
    go_wp2_with fail
    refine (part_truth p.yes _).mono ?_
    rintro e w1 ⟨rfl, hb1⟩
    have hB := ((Below.refl w.heap.size w).alloc (Nat.le_refl _) (.cells #[.int .u8 0, .bool false, .bool false, .string ⟨#[]⟩, .string ⟨#[]⟩, .slice none 0 0] 27)).trans (hb1.mono (by simp))
    obtain ⟨c0, c1, c2, c3, c4, c5, z0, z1, z2, z3, z4, z5, hlt⟩ := res_cells hb1
    clear hb1
    go_wp2_with fail
    exact bodyPost_ret (v := .agg #[.int .u8 1, .bool p.yes, .bool false, .string ⟨#[]⟩, .string ⟨#[]⟩, .slice none 0 0]) (by simp [results, Tryd.results37, go_sem, c0, c1, c2, c3, c4, c5]) rfl
      ⟨none, 0, by rw [HE.out], tell_flat H4.out ((((((hB.setCell (Nat.le_refl _) _).setCell (Nat.le_refl _) _).setCell (Nat.le_refl _) _).setCell (Nat.le_refl _) _).setCell (Nat.le_refl _) _).setCell (Nat.le_refl _) _)⟩
  | whole _ h =>
    have y1 := n1 (by omega)
    have y4 := n3 (by omega)
    have y5 := n4 (by omega)
    have HE := Lib.hid (show Value.agg #[.int .u8 p.kind, .bool p.yes, .bool p.neg, .string p.mag, .string p.raw, .slice none p.items.length 0] = .agg #[.int .u8 2, .bool false, .bool p.neg, .string p.mag, .string ⟨#[]⟩, .slice none 0 0] by rw [h, y1, y4, y5]; rfl)
    have H4 := Lib.hid y4
    have m1 : ∀ w : World, (method 338 142 (.agg #[.bool p.neg, .string p.mag]) "Part").run Tryd.prog w = .ok (160, .agg #[.bool p.neg, .string p.mag]) w := fun _ => by kernel_rfl
    clear n1 n2 n3 n4 y1 y4 y5 h
    go_enter Tryd.func37, Tryd.ntmps37
    go_wp2_with fail
    refine (part_whole p.neg p.mag _).mono ?_
    rintro e w1 ⟨rfl, hb1⟩
    have hB := ((Below.refl w.heap.size w).alloc (Nat.le_refl _) (.cells #[.int .u8 0, .bool false, .bool false, .string ⟨#[]⟩, .string ⟨#[]⟩, .slice none 0 0] 27)).trans (hb1.mono (by simp))
    obtain ⟨c0, c1, c2, c3, c4, c5, z0, z1, z2, z3, z4, z5, hlt⟩ := res_cells hb1
    clear hb1
    go_wp2_with fail
    exact bodyPost_ret (v := .agg #[.int .u8 2, .bool false, .bool p.neg, .string p.mag, .string ⟨#[]⟩, .slice none 0 0]) (by simp [results, Tryd.results37, go_sem, c0, c1, c2, c3, c4, c5]) rfl
      ⟨none, 0, by rw [HE.out], tell_flat H4.out ((((((hB.setCell (Nat.le_refl _) _).setCell (Nat.le_refl _) _).setCell (Nat.le_refl _) _).setCell (Nat.le_refl _) _).setCell (Nat.le_refl _) _).setCell (Nat.le_refl _) _)⟩
  | row _ h0 h1 h2 h7 =>
    have y1 := n1 h1
    obtain ⟨y2, y3⟩ := n2 h2
    have y4 := n3 h7
    have HE := Lib.hid (show Value.agg #[.int .u8 p.kind, .bool p.yes, .bool p.neg, .string p.mag, .string p.raw, .slice none p.items.length 0] = .agg #[.int .u8 p.kind, .bool false, .bool false, .string ⟨#[]⟩, .string p.raw, .slice none 0 0] by rw [y1, y2, y3, y4]; rfl)
    have H4 := Lib.hid y4
    have m1 : ∀ w : World, (method 338 147 (.agg #[.int .u8 p.kind, .string p.raw]) "Part").run Tryd.prog w = .ok (167, .agg #[.int .u8 p.kind, .string p.raw]) w := fun _ => by kernel_rfl
    clear n1 n2 n3 n4 y1 y2 y3 y4 h0 h1 h2 h7
    go_enter Tryd.func37, Tryd.ntmps37
    go_wp2_with fail
    refine (part_row p.kind p.raw _).mono ?_
    rintro e w1 ⟨rfl, hb1⟩
    have hB := ((Below.refl w.heap.size w).alloc (Nat.le_refl _) (.cells #[.int .u8 0, .bool false, .bool false, .string ⟨#[]⟩, .string ⟨#[]⟩, .slice none 0 0] 27)).trans (hb1.mono (by simp))
    obtain ⟨c0, c1, c2, c3, c4, c5, z0, z1, z2, z3, z4, z5, hlt⟩ := res_cells hb1
    clear hb1
    go_wp2_with fail
    exact bodyPost_ret (v := .agg #[.int .u8 p.kind, .bool false, .bool false, .string ⟨#[]⟩, .string p.raw, .slice none 0 0]) (by simp [results, Tryd.results37, go_sem, c0, c1, c2, c3, c4, c5]) rfl
      ⟨none, 0, by rw [HE.out], tell_flat H4.out ((((((hB.setCell (Nat.le_refl _) _).setCell (Nat.le_refl _) _).setCell (Nat.le_refl _) _).setCell (Nat.le_refl _) _).setCell (Nat.le_refl _) _).setCell (Nat.le_refl _) _)⟩
  | tuple _ h a cap F hc cells deep =>
    have m1 : ∀ w : World, (method 338 145 (.agg #[.slice a p.items.length cap]) "Part").run Tryd.prog w = .ok (164, .agg #[.slice a p.items.length cap]) w := fun _ => by kernel_rfl
    have H7 := Lib.hid h
    have HM := Lib.hid hmay
    have HF := Lib.hid hfa
    have IH := Lib.hid ih
    clear n1 n2 n3 n4 h hmay hfa ih cells deep
    go_enter Tryd.func37, Tryd.ntmps37
    go_wp2_with fail
    refine (part_tuple p H7.out HM.out HF.out IH.out a cap _ (HV.out.later ((Below.refl _ _).alloc (Nat.le_refl _) _))).mono ?_
    rintro e w1 ⟨a2, cap2, rfl, hx, hb1⟩
    have hB := ((Below.refl w.heap.size w).alloc (Nat.le_refl _) (.cells #[.int .u8 0, .bool false, .bool false, .string ⟨#[]⟩, .string ⟨#[]⟩, .slice none 0 0] 27)).trans (hb1.mono (by simp))
    obtain ⟨c0, c1, c2, c3, c4, c5, z0, z1, z2, z3, z4, z5, hlt⟩ := res_cells hb1
    have HX := Lib.hid (show OwnI w1 false (w.heap.size + 1) w1.heap.size p.items (.slice a2 p.items.length cap2) from hx.wide (by simp) (Nat.le_refl _))
    clear hb1 hx
    go_wp2_with fail
    have hSm : Same (w.heap.size + 1) w1.heap.size w1 ((((((w1.setCell ⟨w.heap.size, 0, none⟩ (.int .u8 p.kind)).setCell ⟨w.heap.size, 1, none⟩ (.bool p.yes)).setCell ⟨w.heap.size, 2, none⟩ (.bool p.neg)).setCell ⟨w.heap.size, 3, none⟩ (.string p.mag)).setCell ⟨w.heap.size, 4, none⟩ (.string p.raw)).setCell ⟨w.heap.size, 5, none⟩ (.slice a2 p.items.length cap2)) :=
      (((((Same.setCell (by omega)).trans (Same.setCell (by omega))).trans (Same.setCell (by omega))).trans (Same.setCell (by omega))).trans (Same.setCell (by omega))).trans (Same.setCell (by omega))
    exact bodyPost_ret (v := .agg #[.int .u8 p.kind, .bool p.yes, .bool p.neg, .string p.mag, .string p.raw, .slice a2 p.items.length cap2]) (by simp [results, Tryd.results37, go_sem, c0, c1, c2, c3, c4, c5]) rfl
      ⟨a2, cap2, rfl, (HX.out.same hSm).wide (by omega) (by simp [World.setCell]), ((((((hB.setCell (Nat.le_refl _) _).setCell (Nat.le_refl _) _).setCell (Nat.le_refl _) _).setCell (Nat.le_refl _) _).setCell (Nat.le_refl _) _).setCell (Nat.le_refl _) _)⟩
end Go.Proofs.YtcgphlilijeifaaDoor.V
