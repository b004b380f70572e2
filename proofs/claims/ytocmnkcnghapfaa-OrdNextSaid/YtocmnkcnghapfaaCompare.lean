/-
  The contracts of ord.Compare and of the law's own order and begins: for every two texts.
-/
import Derived.Test.YtocmnkcnghapfaaUnescape
import Derived.Test.YtocmnkcnghapfaaCmp
import Derived.BigQuiet
import Derived.Deep.QuietTactic
import Derived.WalkSmall
namespace Go.Proofs.Ytocmnkcnghapfaa
open Go.RowKit

theorem ret_num {a b : Int} (h : a = b) : Ending.returned (.int .i64 a) = Ending.returned (.int .i64 b) := by rw [h]

theorem cp_lt {a b : ByteArray} {k : Nat} {r : Int} (HC : cmp (a.data.toList.drop k) (b.data.toList.drop k) = r) (h1 : k < a.size) (h2 : k < b.size) (h : a[k] < b[k]) : r = -1 := by
  rw [← HC, drop_cons a k h1, drop_cons b k h2, cmp, if_pos h]
theorem cp_gt {a b : ByteArray} {k : Nat} {r : Int} (HC : cmp (a.data.toList.drop k) (b.data.toList.drop k) = r) (h1 : k < a.size) (h2 : k < b.size) (hn : ¬ a[k] < b[k]) (h : b[k] < a[k]) : r = 1 := by
  rw [← HC, drop_cons a k h1, drop_cons b k h2, cmp, if_neg hn, if_pos h]
theorem cp_eq {a b : ByteArray} {k : Nat} {r : Int} (HC : cmp (a.data.toList.drop k) (b.data.toList.drop k) = r) (h1 : k < a.size) (h2 : k < b.size) (hn : ¬ a[k] < b[k]) (h : ¬ b[k] < a[k]) :
    cmp (a.data.toList.drop (k + 1)) (b.data.toList.drop (k + 1)) = r := by
  rw [← HC, drop_cons a k h1, drop_cons b k h2, cmp, if_neg hn, if_neg h]
theorem cp_end {a b : ByteArray} {k : Nat} {r : Int} (HC : cmp (a.data.toList.drop k) (b.data.toList.drop k) = r) (h1 : k ≤ a.size) (h2 : k ≤ b.size) (h : ¬ k < a.size ∨ ¬ k < b.size) :
    r = if a.size < b.size then -1 else if b.size < a.size then 1 else 0 := by
  rw [← HC]
  by_cases ha : k < a.size
  · have hb : ¬ k < b.size := h.resolve_left (fun n => n ha)
    rw [drop_cons a k ha, drop_end b k hb, cmp, if_neg (by omega), if_pos (by omega)]
  · by_cases hb : k < b.size
    · rw [drop_end a k ha, drop_cons b k hb, cmp, if_pos (by omega)]
    · rw [drop_end a k ha, drop_end b k hb, cmp, if_neg (by omega), if_neg (by omega)]

theorem compare_any (a b : ByteArray) (w : World) (ha : a.size ≤ 1099511627776) (hb : b.size ≤ 1099511627776) (r : Int) (hr : cmp a.data.toList b.data.toList = r) :
    Calls Try.prog 13 #[.string a, .string b] w fun e w' => e = .returned (.int .i64 r) ∧ Below w.heap.size w w' := by
  have HR := Lib.hid hr
  clear hr
  go_enter Try.func13, Try.ntmps13
  go_wp2
  all_goals
    go_loopw [5, 11, 4] (fun _ i _ wr => ∃ k : Nat, k ≤ a.size ∧ k ≤ b.size ∧ i = .int .i64 k ∧ Below w.heap.size w wr ∧ RowKit.Hid (cmp (a.data.toList.drop k) (b.data.toList.drop k) = r)) (fun _ i _ _ => a.size - (intOf i).toNat)
    case atStart => exact ⟨0, Nat.zero_le _, Nat.zero_le _, rfl, Below.refl _ _, Lib.hid (by simpa using HR.out)⟩
    case round =>
      obtain ⟨k, hka, hkb, rfl, hB, HC⟩ := hrel
      clear HR
      by_cases hlt : k < a.size ∧ k < b.size
      · obtain ⟨h1, h2⟩ := hlt
        by_cases c1 : a[k].toNat < b[k].toNat
        · have hr := Lib.hid (cp_lt HC.out h1 h2 (UInt8.lt_iff_toNat_lt.2 c1))
          go_wp2
          go_quiet (fail)
          go_wp2
          go_ret
          exact ⟨ret_num hr.out.symm, below_drewN hB _⟩
        · by_cases c2 : b[k].toNat < a[k].toNat
          · have hr := Lib.hid (cp_gt HC.out h1 h2 (fun h => c1 (UInt8.lt_iff_toNat_lt.1 h)) (UInt8.lt_iff_toNat_lt.2 c2))
            go_wp2
            go_quiet (fail)
            go_wp2
            go_quiet (fail)
            go_wp2
            go_ret
            exact ⟨ret_num hr.out.symm, below_drewN (below_drewN hB _) _⟩
          · have hr := Lib.hid (cp_eq HC.out h1 h2 (fun h => c1 (UInt8.lt_iff_toNat_lt.1 h)) (fun h => c2 (UInt8.lt_iff_toNat_lt.1 h)))
            go_wp2
            go_quiet (fail)
            go_wp2
            go_quiet (fail)
            go_wp2
            go_roundw
            case rel => exact ⟨k + 1, by omega, by omega, by go_num, below_drewN hB _, hr⟩
            case measure => simp [intOf]; omega
      · have hor : ¬ k < a.size ∨ ¬ k < b.size := by omega
        have hr := Lib.hid (cp_end HC.out hka hkb hor)
        clear hor
        by_cases e1 : a.size < b.size
        · have hr2 := Lib.hid (show r = -1 by rw [hr.out, if_pos e1])
          clear hr
          go_wp2
          all_goals (go_ret; exact ⟨ret_num hr2.out.symm, hB⟩)
        · by_cases e2 : b.size < a.size
          · have hr2 := Lib.hid (show r = 1 by rw [hr.out, if_neg e1, if_pos e2])
            clear hr
            go_wp2
            all_goals (go_ret; exact ⟨ret_num hr2.out.symm, hB⟩)
          · have hr2 := Lib.hid (show r = 0 by rw [hr.out, if_neg e1, if_neg e2])
            clear hr
            go_wp2
            all_goals (go_ret; exact ⟨ret_num hr2.out.symm, hB⟩)

theorem order_any (a b : ByteArray) (w : World) (r : Int) (hr : cmp a.toList b.toList = r) :
    Calls Try.prog 12 #[.string a, .string b] w fun e w' => e = .returned (.int .i64 r) ∧ Below w.heap.size w w' := by
  have hl := less_iff a.toList b.toList
  have he := eq_iff a.toList b.toList
  rw [hr] at hl he
  rcases cmp_three a.toList b.toList with h | h | h <;> rw [h] at hr <;> subst hr
  · have hl' : Op.bytesLess a.toList b.toList = true := by rw [hl]; rfl
    clear hl he h
    go_enter Try.func12, Try.ntmps12
    go_wp2
    go_ret
    exact ⟨rfl, Below.refl _ _⟩
  · have hl' : Op.bytesLess a.toList b.toList = false := by rw [hl]; rfl
    have he' : (a.toList == b.toList) = true := by rw [he]; rfl
    clear hl he h
    go_enter Try.func12, Try.ntmps12
    go_wp2
    go_ret
    exact ⟨rfl, Below.refl _ _⟩
  · have hl' : Op.bytesLess a.toList b.toList = false := by rw [hl]; rfl
    have he' : (a.toList == b.toList) = false := by rw [he]; rfl
    clear hl he h
    go_enter Try.func12, Try.ntmps12
    go_wp2
    go_ret
    exact ⟨rfl, Below.refl _ _⟩
end Go.Proofs.Ytocmnkcnghapfaa
