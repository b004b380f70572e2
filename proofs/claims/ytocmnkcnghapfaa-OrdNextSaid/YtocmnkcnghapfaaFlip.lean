/-
  The contract of ord.Flip: each byte turned, for every text of at most 2^40 bytes.
-/
import Derived.Test.YtocmnkcnghapfaaEscape
namespace Go.Proofs.Ytocmnkcnghapfaa
open Go.RowKit

theorem OwnB.cellAt {w : World} {base g n cap : Nat} {l : List UInt8} (h : OwnB w base (.slice (some ⟨g, 0, none⟩) n cap) l) (hn : n = l.length) (k : Nat) (hk : k < l.length) :
    w.cell? ⟨g, k, none⟩ = some (.int .u8 (l[k].toNat : Int)) := by
  subst hn
  have := World.ownsRow.cellAt h k (by omega)
  rw [this]
  simp [bv, List.getElem?_eq_getElem hk]
theorem OwnB.frozenAt {w : World} {base g n cap : Nat} {l : List UInt8} (h : OwnB w base (.slice (some ⟨g, 0, none⟩) n cap) l) (hn : n = l.length) (k : Nat) : w.frozen? ⟨g, k, none⟩ = false := by
  subst hn
  exact World.ownsRow.frozenAt h k
theorem OwnB.stored {w : World} {base g n cap : Nat} {l : List UInt8} (h : OwnB w base (.slice (some ⟨g, 0, none⟩) n cap) l) (hn : n = l.length) (k : Nat) (c : UInt8) :
    OwnB (w.setCell ⟨g, k, none⟩ (.int .u8 (c.toNat : Int))) base (.slice (some ⟨g, 0, none⟩) n cap) (l.set k c) := by
  subst hn
  have := (World.ownsRow.stored h k (.int .u8 (c.toNat : Int))).1
  unfold OwnB
  rw [List.length_set]
  have e : bv (l.set k c) = (bv l).set k (.int .u8 (c.toNat : Int)) := by simp [bv, List.map_set]
  rw [e]
  exact this
/-- After k rounds. -/
def flipTo (l : List UInt8) (k : Nat) : List UInt8 := (l.take k).map (255 - ·) ++ l.drop k
theorem flipTo_zero (l : List UInt8) : flipTo l 0 = l := by simp [flipTo]
theorem flipTo_length (l : List UInt8) (k : Nat) (h : k ≤ l.length) : (flipTo l k).length = l.length := by simp [flipTo]; omega
theorem flipTo_end (l : List UInt8) (k : Nat) (h : l.length ≤ k) : flipTo l k = l.map (255 - ·) := by simp [flipTo, List.take_of_length_le h, List.drop_of_length_le h]
theorem flipTo_get (l : List UInt8) (k : Nat) (h : k < l.length) (h2 : k < (flipTo l k).length) : (flipTo l k)[k] = l[k] := by
  simp [flipTo, List.getElem_append_right, Nat.min_eq_left (Nat.le_of_lt h)]
theorem flipTo_set (l : List UInt8) (k : Nat) (h : k < l.length) : (flipTo l k).set k (255 - l[k]) = flipTo l (k + 1) := by
  unfold flipTo
  rw [List.set_append, if_neg (by simp; omega), List.length_map, List.length_take, Nat.min_eq_left (Nat.le_of_lt h), Nat.sub_self, List.drop_eq_getElem_cons h, List.set_cons_zero, List.take_succ_eq_append_getElem h, List.map_append, List.append_assoc]
  rfl

theorem sub255 (c : UInt8) : ((255 - c : UInt8).toNat : Int) = 255 - (c.toNat : Int) := by
  have := c.toNat_lt
  rw [UInt8.toNat_sub]
  have h255 : (255 : UInt8).toNat = 255 := rfl
  rw [h255]
  omega

theorem flip_any (s : ByteArray) (w : World) (hs : s.size ≤ 1099511627776) :
    Calls Try.prog 15 #[.string s] w fun e w' => e = .returned (.string ⟨(s.data.toList.map (255 - ·)).toArray⟩) ∧ Below w.heap.size w w' := by
  obtain ⟨i0, hi, hz0, hz1, hz2⟩ := info_parts Try.info5
  go_enter Try.func15, Try.ntmps15
  go_wp2_with (first 
    | (at_make; refine wpList_make_full _ rfl _ _ 33 rfl w.heap.size 5 i0 (.int .u8 0) 1 Try.underlying33 hi hz0 hz1 _ _ _ _ s.size rfl rfl (by omega) (by omega) ?c1 ?c2 ?c3 ?_))
  case c1 => rw [hz2]; omega
  case c2 => unfold maxLen; omega
  case c3 => exact Nat.le_refl _
  intro w1 hown hgrow
  have hB : Below w.heap.size w w1 := (Below.refl _ _).grown hgrow (Nat.le_refl _) (by intro k hk; cases hk)
  have hO : OwnB w1 w.heap.size (.slice (some ⟨w.heap.size, 0, none⟩) s.size s.size) (List.replicate s.size 0) := by
    unfold OwnB
    rw [toList_madeCells_one] at hown
    simpa [bv] using hown
  have hsz1 := hB.size
  clear hown hgrow hi hz0 hz1 hz2
  go_wp2_with (refine wpList_copy_str (o := ⟨some 10, _, _, _, _, _⟩) rfl _ _ 33 9 rfl Try.underlying33 Try.info5 s rfl rfl hO hB hsz1 ?_; intro w2 hO2 hB2 hs2; clear hO hB hsz1)
  go_loopw [4, 13] (fun _ i wr => ∃ k : Nat, k ≤ s.size ∧ i = .int .i64 k ∧ OwnB wr w.heap.size (.slice (some ⟨w.heap.size, 0, none⟩) s.size s.size) (flipTo s.data.toList k) ∧ Below w.heap.size w wr) (fun _ i _ => s.size - (intOf i).toNat)
  case atStart => exact ⟨0, Nat.zero_le _, rfl, by rw [flipTo_zero]; exact hO2, hB2⟩
  case round =>
    clear hO2 hB2 hs2
    obtain ⟨k, hk, rfl, hO, hB⟩ := hrel
    have hsl : s.size = s.data.toList.length := by rw [Array.length_toList]; rfl
    have hfl := flipTo_length s.data.toList k (by omega)
    have hl : s.size = (flipTo s.data.toList k).length := by omega
    by_cases hlt : k < s.size
    · have hc := hO.cellAt hl k (by omega)
      rw [flipTo_get _ k (by omega)] at hc
      have hf := hO.frozenAt hl k
      have hst := Lib.hid (hO.stored hl k (255 - s.data.toList[k]))
      rw [flipTo_set _ k (by omega)] at hst
      obtain ⟨c, hcc⟩ : ∃ c, c = s.data.toList[k] := ⟨_, rfl⟩
      rw [← hcc] at hc hst
      have hbd := c.toNat_lt
      clear hsl hfl hl hcc
      go_wp2
      go_roundw
      case rel => exact ⟨k + 1, by omega, by go_num, by rw [← sub255]; exact hst.out, hB.setCell (Nat.le_refl _) _⟩
      case measure => simp [intOf]; omega
    · have hcv := hO.conv 33 9 Try.underlying33 Try.underlying5 Try.underlying9
      rw [flipTo_end _ k (by omega)] at hcv
      clear hsl hfl hl
      go_wp2
      go_ret
      exact ⟨rfl, hB⟩
end Go.Proofs.Ytocmnkcnghapfaa
