import Derived.Test.YtcgphlilijeifaaDoorProg
import Derived.WalkKit
import Derived.Test.YtcgphlilijeifaaDoorLitPrintsG5
/-
  Half bytes, and the letters of a digit of sixteen, at the program.
-/
namespace Go.Proofs.YtcgphlilijeifaaDoor.L
open Go.RowKit

theorem and_bits (c : UInt8) : bits BinOp.and IntKind.u8 (c.toNat : Int) 15 = ((c.toNat % 16 : Nat) : Int) :=
  u8_all (P := fun c => bits BinOp.and IntKind.u8 (c.toNat : Int) 15 = ((c.toNat % 16 : Nat) : Int)) (by decide +kernel) c
theorem run_and (c : UInt8) (w : World) : (binOp .and 5 (.int .u8 (c.toNat : Int)) (.int .u8 15)).run Tryd.prog w = .ok (.int .u8 ((c.toNat % 16 : Nat) : Int)) w := by
  have := and_bits c
  simp [go_sem]
  simpa using this
theorem run_shr (c : UInt8) (w : World) : (binOp .shr 5 (.int .u8 (c.toNat : Int)) (.int .u64 4)).run Tryd.prog w = .ok (.int .u8 ((c.toNat / 16 : Nat) : Int)) w := by
  simp [go_sem]

theorem hx0 (w : World) : (Instr.index 9 (.string ⟨#[48, 49, 50, 51, 52, 53, 54, 55, 56, 57, 97, 98, 99, 100, 101, 102]⟩) (.int .u8 0)).run Tryd.prog w = .ok (.int .u8 48) w := by kernel_rfl
theorem hx1 (w : World) : (Instr.index 9 (.string ⟨#[48, 49, 50, 51, 52, 53, 54, 55, 56, 57, 97, 98, 99, 100, 101, 102]⟩) (.int .u8 1)).run Tryd.prog w = .ok (.int .u8 49) w := by kernel_rfl
theorem hx2 (w : World) : (Instr.index 9 (.string ⟨#[48, 49, 50, 51, 52, 53, 54, 55, 56, 57, 97, 98, 99, 100, 101, 102]⟩) (.int .u8 2)).run Tryd.prog w = .ok (.int .u8 50) w := by kernel_rfl
theorem hx3 (w : World) : (Instr.index 9 (.string ⟨#[48, 49, 50, 51, 52, 53, 54, 55, 56, 57, 97, 98, 99, 100, 101, 102]⟩) (.int .u8 3)).run Tryd.prog w = .ok (.int .u8 51) w := by kernel_rfl
theorem hx4 (w : World) : (Instr.index 9 (.string ⟨#[48, 49, 50, 51, 52, 53, 54, 55, 56, 57, 97, 98, 99, 100, 101, 102]⟩) (.int .u8 4)).run Tryd.prog w = .ok (.int .u8 52) w := by kernel_rfl
theorem hx5 (w : World) : (Instr.index 9 (.string ⟨#[48, 49, 50, 51, 52, 53, 54, 55, 56, 57, 97, 98, 99, 100, 101, 102]⟩) (.int .u8 5)).run Tryd.prog w = .ok (.int .u8 53) w := by kernel_rfl
theorem hx6 (w : World) : (Instr.index 9 (.string ⟨#[48, 49, 50, 51, 52, 53, 54, 55, 56, 57, 97, 98, 99, 100, 101, 102]⟩) (.int .u8 6)).run Tryd.prog w = .ok (.int .u8 54) w := by kernel_rfl
theorem hx7 (w : World) : (Instr.index 9 (.string ⟨#[48, 49, 50, 51, 52, 53, 54, 55, 56, 57, 97, 98, 99, 100, 101, 102]⟩) (.int .u8 7)).run Tryd.prog w = .ok (.int .u8 55) w := by kernel_rfl
theorem hx8 (w : World) : (Instr.index 9 (.string ⟨#[48, 49, 50, 51, 52, 53, 54, 55, 56, 57, 97, 98, 99, 100, 101, 102]⟩) (.int .u8 8)).run Tryd.prog w = .ok (.int .u8 56) w := by kernel_rfl
theorem hx9 (w : World) : (Instr.index 9 (.string ⟨#[48, 49, 50, 51, 52, 53, 54, 55, 56, 57, 97, 98, 99, 100, 101, 102]⟩) (.int .u8 9)).run Tryd.prog w = .ok (.int .u8 57) w := by kernel_rfl
theorem hx10 (w : World) : (Instr.index 9 (.string ⟨#[48, 49, 50, 51, 52, 53, 54, 55, 56, 57, 97, 98, 99, 100, 101, 102]⟩) (.int .u8 10)).run Tryd.prog w = .ok (.int .u8 97) w := by kernel_rfl
theorem hx11 (w : World) : (Instr.index 9 (.string ⟨#[48, 49, 50, 51, 52, 53, 54, 55, 56, 57, 97, 98, 99, 100, 101, 102]⟩) (.int .u8 11)).run Tryd.prog w = .ok (.int .u8 98) w := by kernel_rfl
theorem hx12 (w : World) : (Instr.index 9 (.string ⟨#[48, 49, 50, 51, 52, 53, 54, 55, 56, 57, 97, 98, 99, 100, 101, 102]⟩) (.int .u8 12)).run Tryd.prog w = .ok (.int .u8 99) w := by kernel_rfl
theorem hx13 (w : World) : (Instr.index 9 (.string ⟨#[48, 49, 50, 51, 52, 53, 54, 55, 56, 57, 97, 98, 99, 100, 101, 102]⟩) (.int .u8 13)).run Tryd.prog w = .ok (.int .u8 100) w := by kernel_rfl
theorem hx14 (w : World) : (Instr.index 9 (.string ⟨#[48, 49, 50, 51, 52, 53, 54, 55, 56, 57, 97, 98, 99, 100, 101, 102]⟩) (.int .u8 14)).run Tryd.prog w = .ok (.int .u8 101) w := by kernel_rfl
theorem hx15 (w : World) : (Instr.index 9 (.string ⟨#[48, 49, 50, 51, 52, 53, 54, 55, 56, 57, 97, 98, 99, 100, 101, 102]⟩) (.int .u8 15)).run Tryd.prog w = .ok (.int .u8 102) w := by kernel_rfl
theorem run_hex (n : Nat) (h : n < 16) (w : World) : (Instr.index 9 (.string ⟨#[48, 49, 50, 51, 52, 53, 54, 55, 56, 57, 97, 98, 99, 100, 101, 102]⟩) (.int .u8 n)).run Tryd.prog w = .ok (.int .u8 ((hexC n).toNat : Int)) w := by
  have e : n = 0 ∨ n = 1 ∨ n = 2 ∨ n = 3 ∨ n = 4 ∨ n = 5 ∨ n = 6 ∨ n = 7 ∨ n = 8 ∨ n = 9 ∨ n = 10 ∨ n = 11 ∨ n = 12 ∨ n = 13 ∨ n = 14 ∨ n = 15 := by omega
  rcases e with rfl | rfl | rfl | rfl | rfl | rfl | rfl | rfl | rfl | rfl | rfl | rfl | rfl | rfl | rfl | rfl
  · exact hx0 w
  · exact hx1 w
  · exact hx2 w
  · exact hx3 w
  · exact hx4 w
  · exact hx5 w
  · exact hx6 w
  · exact hx7 w
  · exact hx8 w
  · exact hx9 w
  · exact hx10 w
  · exact hx11 w
  · exact hx12 w
  · exact hx13 w
  · exact hx14 w
  · exact hx15 w
end Go.Proofs.YtcgphlilijeifaaDoor.L
