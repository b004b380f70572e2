/-
  The contracts of nat.Check and of the document's Check: every number.
-/
import Derived.Test.YtcgphlilijeifaaDoorRows
import Derived.Test.YtcgphlilijeifaaDoorBytes
import Derived.Test.YtcgphlilijeifaaDoorNum
import Derived.WalkSpells
import Derived.WalkLawsBesides
import Derived.Lib.Hide
import Derived.Lib.Strings
namespace Go.Proofs.YtcgphlilijeifaaDoor
open Go.RowKit

theorem two {W a b : World} (h : Below W.heap.size W a) (k : Below a.heap.size a b) : Below W.heap.size W b := h.trans (k.mono h.size)
theorem size_of (s : ByteArray) : s.toList.length = s.size := by rw [Lib.toList_data, Lib.size_eq]
theorem nil_of_size {s : ByteArray} (h : ¬ 0 < s.size) : s.toList = [] := List.eq_nil_of_length_eq_zero (by rw [size_of]; omega)
theorem head_of (s : ByteArray) (h : 0 < s.size) : s.toList.head? = some s[0] := by
  rw [Lib.toList_data]
  have := drop_cons s 0 h
  rw [List.drop_zero] at this
  rw [this]; rfl
theorem u8_eq {c : UInt8} (d : UInt8) {n : Int} (hn : (d.toNat : Int) = n) (h : ((c.toNat : Int) == n) = true) : c = d := by
  rw [← hn] at h
  have h1 : (c.toNat : Int) = d.toNat := by simpa using h
  exact UInt8.toNat_inj.1 (by omega)
theorem u8_ne {c : UInt8} (d : UInt8) {n : Int} (hn : (d.toNat : Int) = n) (h : ((c.toNat : Int) == n) = false) : c ≠ d := by
  rintro rfl
  rw [hn] at h
  simp at h
theorem u8_eqb {c d : UInt8} {n : Int} (hn : (d.toNat : Int) = n) (h : c = d) : ((c.toNat : Int) == n) = true := by subst h hn; simp
theorem u8_neb {c d : UInt8} {n : Int} (hn : (d.toNat : Int) = n) (h : ¬ c = d) : ((c.toNat : Int) == n) = false := by
  rw [← hn, beq_eq_false_iff_ne]
  exact fun e => h (UInt8.toNat_inj.1 (by omega))

theorem check_any (b : Bool) (s : ByteArray) (w : World) (_hs : s.size ≤ 9223372036854775807) (r : Int) (hr : chk b s.toList = r) :
    Calls Tryd.prog 22 #[.agg #[.bool b, .string s]] w fun e w' => e = .returned (.int .i64 r) ∧ Below w.heap.size w w' := by
  by_cases h1 : 255 < s.size
  · rw [chk_long (by rw [size_of]; exact h1)] at hr
    subst hr
    go_enter Tryd.func22, Tryd.ntmps22
    go_wp2
    go_ret
    exact ⟨rfl, (Below.refl _ _).alloc (Nat.le_refl _) _⟩
  · by_cases h2 : 0 < s.size
    · have hne : s.toList.isEmpty = false := by
        cases h : s.toList with
        | nil => have := size_of s; rw [h] at this; simp at this; omega
        | cons _ _ => rfl
      by_cases h3 : s[0] = 0
      · rw [chk_zero (by rw [size_of]; exact h1) (by rw [head_of s h2, h3])] at hr
        have h4 := u8_eqb (n := 0) rfl h3
        subst hr
        clear h3
        go_enter Tryd.func22, Tryd.ntmps22
        go_wp2
        go_ret
        exact ⟨rfl, (Below.refl _ _).alloc (Nat.le_refl _) _⟩
      · rw [chk_ok (by rw [size_of]; exact h1) (by intro e; rw [e] at hne; simp at hne) (by rw [head_of s h2]; simpa using h3)] at hr
        have h4 := u8_neb (n := 0) rfl h3
        subst hr
        clear h3
        go_enter Tryd.func22, Tryd.ntmps22
        go_wp2
        go_ret
        exact ⟨rfl, (Below.refl _ _).alloc (Nat.le_refl _) _⟩
    · have he := nil_of_size h2
      have hne : s.toList.isEmpty = true := by rw [he]; rfl
      cases b
      · rw [chk_nil he] at hr
        subst hr
        clear he
        go_enter Tryd.func22, Tryd.ntmps22
        go_wp2
        go_ret
        exact ⟨rfl, (Below.refl _ _).alloc (Nat.le_refl _) _⟩
      · rw [chk_nil_below he] at hr
        subst hr
        clear he
        go_enter Tryd.func22, Tryd.ntmps22
        go_wp2
        go_ret
        exact ⟨rfl, (Below.refl _ _).alloc (Nat.le_refl _) _⟩
end Go.Proofs.YtcgphlilijeifaaDoor
