/-
  The contracts of ord.Next and of the law's begins.
-/
import Derived.Test.YtocmnkcnghapfaaCompare
import Derived.BigRegion
namespace Go.Proofs.Ytocmnkcnghapfaa
open Go.RowKit

/-- The least text above all that begin with these bytes, if there is one. -/
def nx : List UInt8 → Option (List UInt8)
  | [] => none
  | c :: r => match nx r with
    | some m => some (c :: m)
    | none => if c = 255 then none else some [c + 1]
theorem nx_append (l m : List UInt8) (h : nx m = none) : nx (l ++ m) = nx l := by
  induction l with
  | nil => simp [nx, h]
  | cons c r ih => simp [nx, ih]
theorem nx_last (l m : List UInt8) (c : UInt8) (h : nx m = none) (hc : c ≠ 255) : nx (l ++ c :: m) = some (l ++ [c + 1]) := by
  induction l with
  | nil => simp [nx, h, hc]
  | cons d r ih => simp [nx, ih]

theorem conv_one (w : World) (c : UInt8) (x : Int) (hx : x = c.toNat) :
    (convert 33 9 (.slice (some ⟨w.heap.size, 0, none⟩) 1 1)).run Try.prog (w.alloc (.cells #[.int .u8 x] 5)).drew = .ok (.string ⟨#[c]⟩) (w.alloc (.cells #[.int .u8 x] 5)).drew := by
  refine run_convert_bytes_back (P := Try.prog) _ 33 9 5 ⟨w.heap.size, 0, none⟩ 1 [c] Try.underlying33 Try.underlying5 Try.underlying9 (fun j hj => ?_)
  subst hx
  have hj0 : j = 0 := by simpa using hj
  subst hj0
  exact one_cell w _ 5 0 _ rfl
theorem add_one255 (c : UInt8) (h : c.toNat < 255) : ((c + 1 : UInt8).toNat : Int) = c.toNat + 1 := by
  rw [UInt8.toNat_add]
  have : (1 : UInt8).toNat = 1 := rfl
  rw [this]
  omega

theorem ba_eq {a b : ByteArray} (h : a.data.toList = b.data.toList) : a = b := by
  cases a with | mk x => cases b with | mk y => exact congrArg ByteArray.mk (Array.toList_inj.1 h)

/-- What Next returns. -/
def nxOut (o : Option (List UInt8)) : Value := .tuple #[.string ⟨(o.getD []).toArray⟩, .bool o.isSome]

theorem ret_next {r : Option (List UInt8)} {l : List UInt8} {b : ByteArray} (h : r = some l) (hb : b = ⟨l.toArray⟩) : Ending.returned (.tuple #[.string b, .bool true]) = Ending.returned (nxOut r) := by
  subst h hb
  rfl

theorem next_any (s : ByteArray) (w : World) (hs : s.size ≤ 1099511627776) (r : Option (List UInt8)) (hr : nx s.data.toList = r) :
    Calls Try.prog 16 #[.string s] w fun e w' => e = .returned (nxOut r) ∧ Below w.heap.size w w' := by
  have HR := Lib.hid hr
  clear hr
  go_enter Try.func16, Try.ntmps16
  go_wp2
  go_loop [4] (fun i => ∃ k : Nat, k ≤ s.size ∧ i = .int .i64 k ∧ RowKit.Hid (nx (s.data.toList.drop k) = none)) (fun i => (intOf i).toNat)
  case atStart => exact ⟨s.size, Nat.le_refl _, rfl, Lib.hid (by rw [drop_end s _ (by omega)]; rfl)⟩
  case round =>
    obtain ⟨k, hk, rfl, HN⟩ := hrel
    rcases Nat.eq_zero_or_pos k with h0 | h0
    · subst h0
      have hrn := Lib.hid (show r = none by have := HR.out; rw [← this]; simpa using HN.out)
      clear HR HN
      go_wp2
      go_ret2
      exact ⟨by rw [hrn.out]; rfl, Below.refl _ _⟩
    · obtain ⟨j, rfl⟩ : ∃ j, k = j + 1 := ⟨k - 1, by omega⟩
      have hj : j < s.size := by omega
      by_cases hc : s[j] = 255
      · have hn1 := Lib.hid (show nx (s.data.toList.drop j) = none by rw [drop_cons s j hj, hc]; simp [nx, HN.out])
        have hc1 : ((s[j].toNat : Int) == 255) = true := by rw [hc]; rfl
        clear hc
        go_wp2
        go_round
        case rel => exact ⟨j, by omega, rfl, hn1⟩
        case measure => simp [intOf]
      · have hrn := Lib.hid (show r = some (s.data.toList.take j ++ [s[j] + 1]) by
          rw [← HR.out, ← nx_last (s.data.toList.take j) _ _ HN.out hc, ← drop_cons s j hj, List.take_append_drop])
        have hc1 : ((s[j].toNat : Int) == 255) = false := by
          have : ¬ s[j].toNat = 255 := fun h => hc (UInt8.toNat_inj.1 (by simpa using h))
          simp; omega
        have hbd : s[j].toNat < 255 := by
          have : ¬ s[j].toNat = 255 := fun h => hc (UInt8.toNat_inj.1 (by simpa using h))
          have := s[j].toNat_lt
          omega
        have hcv := conv_one w (s[j] + 1) _ (add_one255 s[j] hbd).symm
        clear hc HR HN
        go_wp2
        go_region
        all_goals go_wp2
        go_ret2
        exact ⟨ret_next (by rw [hrn.out]) (ba_eq (by simp [ByteArray.data_append, ByteArray.data_extract])), ((Below.refl _ _).alloc (Nat.le_refl _) _).drew⟩
end Go.Proofs.Ytocmnkcnghapfaa
