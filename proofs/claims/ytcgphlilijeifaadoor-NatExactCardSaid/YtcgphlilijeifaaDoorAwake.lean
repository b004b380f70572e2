/-
  The document's examples, walked.
-/
import Derived.Test.YtcgphlilijeifaaDoorTake
import Derived.Test.YtcgphlilijeifaaDoorPrint
namespace Go.Proofs.YtcgphlilijeifaaDoor
open Go.RowKit

theorem of_list {q : ByteArray} {l : List UInt8} (h : q.toList = l) : q = ⟨l.toArray⟩ := ba_eq (by rw [← Lib.toList_data, h])

theorem l10 : (⟨#[1, 0]⟩ : ByteArray).toList = [1, 0] := by rw [ByteArray.toList_mk]
theorem l256 : (⟨#[45, 50, 53, 54]⟩ : ByteArray).toList = [45, 50, 53, 54] := by rw [ByteArray.toList_mk]
theorem l97 : (⟨#[97, 126, 254, 255]⟩ : ByteArray).toList = [97, 126, 254, 255] := by rw [ByteArray.toList_mk]

theorem parse256 (w : World) : Calls Tryd.prog 26 #[.string ⟨#[45, 50, 53, 54]⟩] w fun e w' => e = .returned (.tuple #[.agg #[.bool true, .string ⟨#[1, 0]⟩], .int .i64 0]) ∧ Below w.heap.size w w' := by
  refine (parse_any ⟨#[45, 50, 53, 54]⟩ w (by decide)).mono ?_
  rintro e w' ⟨q, rfl, hq, hb⟩
  rw [l256] at hq ⊢
  have h1 : parseE [45, 50, 53, 54] = 0 := by kernel_rfl
  have h2 : magN (dv (ds [45, 50, 53, 54])) = [1, 0] := by kernel_rfl
  have hq' := hq.out
  rw [if_pos h1, h2] at hq'
  obtain rfl := of_list hq'
  rw [h1]
  exact ⟨rfl, hb⟩
theorem put256 (w : World) : Calls Tryd.prog 23 #[.agg #[.bool true, .string ⟨#[1, 0]⟩]] w fun e w' => e = .returned (.tuple #[.string ⟨#[126, 254, 255]⟩, .int .i64 0]) ∧ Below w.heap.size w w' := by
  refine (put_ok true ⟨#[1, 0]⟩ w (by rw [l10]; kernel_rfl)).mono ?_
  rintro e w' ⟨q, rfl, hq, hb⟩
  rw [l10] at hq
  have h2 : putBytes true [1, 0] = [126, 254, 255] := by kernel_rfl
  have hq' := hq.out
  rw [h2] at hq'
  obtain rfl := of_list hq'
  exact ⟨rfl, hb⟩
theorem take256 (w : World) : Calls Tryd.prog 25 #[.string ⟨#[97, 126, 254, 255]⟩, .int .i64 1] w fun e w' => e = .returned (.tuple #[.agg #[.bool true, .string ⟨#[1, 0]⟩], .int .i64 4, .int .i64 0]) ∧ Below w.heap.size w w' := by
  refine (take_at ⟨#[97, 126, 254, 255]⟩ 1 w (by decide) (by decide)).mono ?_
  intro e w' h
  unfold TakePost at h
  rw [l97] at h
  have h2 : takeE [97, 126, 254, 255] 1 = .ok (true, [1, 0], 4) := by kernel_rfl
  rw [h2] at h
  obtain ⟨q, rfl, hq, hb⟩ := h
  obtain rfl := of_list hq.out
  exact ⟨rfl, hb⟩
theorem print256 (w : World) : Calls Tryd.prog 24 #[.agg #[.bool false, .string ⟨#[1, 0]⟩]] w fun e w' => e = .returned (.tuple #[.string ⟨#[50, 53, 54]⟩, .int .i64 0]) ∧ Below w.heap.size w w' := by
  refine (print_ok false ⟨#[1, 0]⟩ w (by rw [l10]; kernel_rfl)).mono ?_
  rintro e w' ⟨q, rfl, hq, hb⟩
  rw [l10] at hq
  have h2 : digitsOf false [1, 0] = [50, 53, 54] := by kernel_rfl
  have hq' := hq.out
  rw [h2] at hq'
  obtain rfl := of_list hq'
  exact ⟨rfl, hb⟩
theorem of256 (w : World) : Calls Tryd.prog 31 #[.int .i64 (-256)] w fun e w' => e = .returned (.agg #[.bool true, .string ⟨#[1, 0]⟩]) ∧ Below w.heap.size w w' := by
  refine (of_minus (-256) w (by decide) (by decide)).mono ?_
  rintro e w' ⟨q, rfl, hq, hb⟩
  have h2 : mag8 (Int.natAbs (-256)) = [1, 0] := by kernel_rfl
  have hq' := hq.out
  rw [h2] at hq'
  obtain rfl := of_list hq'
  exact ⟨rfl, hb⟩
theorem small256 (w : World) : Calls Tryd.prog 32 #[.agg #[.bool true, .string ⟨#[1, 0]⟩]] w fun e w' => e = .returned (.tuple #[.int .i64 (-256), .bool true]) ∧ Below w.heap.size w w' := by
  refine (small_any true ⟨#[1, 0]⟩ w (by decide) (-256, true) (by rw [l10]; kernel_rfl)).mono ?_
  rintro e w' ⟨rfl, hb⟩
  exact ⟨rfl, hb⟩

set_option maxRecDepth 100000 in
theorem awake_ok (w : World) : Calls Tryd.prog 21 #[] w fun e w' => e = .returned (.bool true) ∧ Below w.heap.size w w' := by
  have heq : ∀ w : World, (binOp .eql 24 (.agg #[.bool true, .string ⟨#[1, 0]⟩]) (.agg #[.bool true, .string ⟨#[1, 0]⟩])).run Tryd.prog w = .ok (.bool true) w := fun _ => by kernel_rfl
  go_enter Tryd.func21, Tryd.ntmps21
  go_wp2_with fail
  refine (parse256 _).mono ?_
  rintro e w1 ⟨rfl, hb1⟩
  go_wp2_with fail
  refine (put256 _).mono ?_
  rintro e w2 ⟨rfl, hb2⟩
  obtain ⟨c0, c1, hz, hbw⟩ := num_cells hb2
  go_wp2_with fail
  refine (take256 _).mono ?_
  rintro e w3 ⟨rfl, hb3⟩
  have c0' := keep hb3 c0
  have c1' := keep hb3 c1
  clear c0 c1
  have hx : w1.heap.size < w3.heap.size := by have := hb3.size; omega
  go_wp2_with fail
  refine (print256 _).mono ?_
  rintro e w4 ⟨rfl, hb4⟩
  obtain ⟨d0, d1, hz2, hbw2⟩ := num_cells hb4
  have c0 := (hbw2.cell (p := ⟨w1.heap.size, 0, none⟩) hx).trans c0'
  have c1 := (hbw2.cell (p := ⟨w1.heap.size, 1, none⟩) hx).trans c1'
  go_wp2_with fail
  refine (of256 _).mono ?_
  rintro e w5 ⟨rfl, hb5⟩
  go_wp2_with fail
  refine (small256 _).mono ?_
  rintro e w6 ⟨rfl, hb6⟩
  have c0'' := keep hb6 (keep hb5 c0)
  have c1'' := keep hb6 (keep hb5 c1)
  have d0'' := keep hb6 (keep hb5 d0)
  have d1'' := keep hb6 (keep hb5 d1)
  go_wp2
  go_ret
  exact ⟨rfl, two (two (two (two (two hb1 hbw) hb3) hbw2) hb5) hb6⟩
end Go.Proofs.YtcgphlilijeifaaDoor
