/-
  The contract of ord.Escape: the escaped text, for every text of at most 2^40 bytes.
-/
import Derived.Test.YtocmnkcnghapfaaRows
import Derived.Test.YtocmnkcnghapfaaBytes
import Derived.Test.YtocmnkcnghapfaaPlain
import Derived.WalkSpells
import Derived.WalkLawsBesides
import Derived.Lib.Hide
namespace Go.Proofs.Ytocmnkcnghapfaa
open Go.RowKit

theorem Try.info5 : (Try.prog.info? 5).map (fun i => (i.zero, i.size, i.bytes)) = some (some (.int .u8 0), 1, 1) := by kernel_rfl

theorem ret_str {l m : List UInt8} (h : l = m) : Ending.returned (.string ⟨l.toArray⟩) = Ending.returned (.string ⟨m.toArray⟩) := by rw [h]

theorem escape_any (s : ByteArray) (w : World) (hs : s.size ≤ 1099511627776) :
    Calls Try.prog 10 #[.string s] w fun e w' => e = .returned (.string ⟨(esc s.data.toList ++ [0, 1]).toArray⟩) ∧ Below w.heap.size w w' := by
  obtain ⟨i0, hi, hz0, hz1, hz2⟩ := info_parts Try.info5
  go_enter Try.func10, Try.ntmps10
  go_wp2_with (first | (at_make; refine wpList_make_own _ rfl _ _ 33 rfl w.heap.size 5 i0 (.int .u8 0) 1 Try.underlying33 hi hz0 hz1 _ _ _ (s.size + 2) rfl rfl (by omega) ?c1 ?c2 ?c3 ?_))
  case c1 => rw [hz2]; omega
  case c2 => unfold maxLen; omega
  case c3 => exact Nat.le_refl _
  intro w1 hown hgrow
  have hB : Below w.heap.size w w1 := (Below.refl _ _).grown hgrow (Nat.le_refl _) (by intro k hk; cases hk)
  have hO : OwnB w1 w.heap.size (.slice (some ⟨w.heap.size, 0, none⟩) 0 (s.size + 2)) [] := hown
  have hsz1 := hB.size
  clear hown hgrow
  go_wp2
  go_loopw [3, 4, 11] (fun v _ i wr => ∃ k : Nat, k ≤ s.size ∧ i = .int .i64 k ∧ OwnB wr w.heap.size v (esc (s.data.toList.take k)) ∧ Below w.heap.size w wr) (fun _ _ i _ => s.size - (intOf i).toNat)
  case atStart => exact ⟨0, Nat.zero_le _, rfl, by simpa [esc] using hO, hB⟩
  case round =>
    clear hO hB hsz1 hi hz0 hz1 hz2
    obtain ⟨k, hk, rfl, hO, hB⟩ := hrel
    have hlen := esc_len (s.data.toList.take k)
    have hlk : (s.data.toList.take k).length ≤ k := List.length_take_le _ _
    by_cases hlt : k < s.size
    · have hst := take_snoc s k hlt
      have HE := Lib.hid (show esc (s.data.toList.take (k + 1)) = esc (s.data.toList.take k) ++ (if s[k] = 0 then [0, 255] else [s[k]]) by rw [hst, esc_append]; simp [esc])
      clear hst
      go_wp2_with (first
        | (at_builtin; refine wpList_append_bytes rfl (.tmp 14) (.tmp 18) 33 rfl Try.underlying33 Try.info5 rfl (hO.alloc _) _ [s[k]] 1 _ rfl rfl (bv_cells_one _ _ _) (by omega) (hB.alloc hB.size _) (by simp; have := hB.size; omega) ?_; intro v1 w1 hO1 hB1 hs1)
        | (at_builtin; refine wpList_append_bytes rfl (.tmp 24) (.tmp 25) 33 rfl Try.underlying33 Try.info5 rfl (hO1.alloc _) _ [255] 1 _ rfl rfl (bv_cells_one _ 255 _) (by simp; omega) (hB1.alloc hs1 _) (by simp; omega) ?_; intro v2 w2 hO2 hB2 hs2))
      · have h0 : s[k] = 0 := UInt8.toNat_inj.1 (by have : ((s[k].toNat : Int) == 0) = true := by assumption
                                                    simp at this; simpa using this)
        go_roundw
        case rel => exact ⟨k + 1, by omega, by go_num, by rw [HE.out, if_pos h0]; simpa [h0] using hO2, hB2⟩
        case measure => simp [intOf]; omega
      · have h0 : ¬ s[k] = 0 := fun h => by
          have h1 : ((s[k].toNat : Int) == 0) = false := by assumption
          simp [h] at h1
        go_roundw
        case rel => exact ⟨k + 1, by omega, by go_num, by rw [HE.out, if_neg h0]; exact hO1, hB1⟩
        case measure => simp [intOf]; omega
    · go_wp2_with (first
        | (at_builtin; refine wpList_append_bytes rfl (.tmp 28) (.tmp 29) 33 rfl Try.underlying33 Try.info5 rfl (hO.alloc _) _ [0, 1] 2 _ rfl rfl (bv_cells_two _ 0 1 _) (by omega) (hB.alloc hB.size _) (by simp; have := hB.size; omega) ?_; intro v1 w1 hO1 hB1 hs1; have hcv := hO1.conv 33 9 Try.underlying33 Try.underlying5 Try.underlying9))
      go_ret
      exact ⟨ret_str (by rw [take_end s k hlt]), hB1⟩
end Go.Proofs.Ytocmnkcnghapfaa
