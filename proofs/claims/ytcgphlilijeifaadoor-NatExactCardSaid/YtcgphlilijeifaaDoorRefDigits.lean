/-
  The document's digits: its contract.
-/
import Derived.Test.YtcgphlilijeifaaDoorRow
import Derived.Test.YtcgphlilijeifaaDoorRefA
import Derived.Test.YtcgphlilijeifaaDoorParseV
namespace Go.Proofs.YtcgphlilijeifaaDoor
open Go.RowKit

/-- Digits, one at least, the first one no nought but alone. -/
def digitsB (l : List UInt8) : Bool := !l.isEmpty && !(l.head? == some 48 && decide (1 < l.length)) && l.all isDigit
theorem digitsB_nil : digitsB [] = false := rfl
theorem digitsB_zero {l : List UInt8} (h : l.head? = some 48) (h1 : 1 < l.length) : digitsB l = false := by simp [digitsB, h, h1]
theorem digitsB_all {l : List UInt8} (h : l ≠ []) (h1 : l.head? = some 48 → l.length ≤ 1) : digitsB l = l.all isDigit := by
  have e1 : l.isEmpty = false := by cases l with
    | nil => exact absurd rfl h
    | cons _ _ => rfl
  have e2 : (l.head? == some 48 && decide (1 < l.length)) = false := by
    by_cases e : l.head? = some 48
    · have := h1 e
      simp; intro _; omega
    · simp [e]
  rw [digitsB, e1, e2]; simp
theorem head_drop (s : ByteArray) (k : Nat) (h : k < s.size) : (s.data.toList.drop k).head? = some s[k] := by rw [drop_cons s k h]; rfl
theorem all_drop (s : ByteArray) (k : Nat) (h : k < s.size) : (s.data.toList.drop k).all isDigit = (isDigit s[k] && (s.data.toList.drop (k + 1)).all isDigit) := by rw [drop_cons s k h]; rfl
theorem drop_len (s : ByteArray) (k : Nat) : (s.data.toList.drop k).length = s.size - k := by rw [List.length_drop, Array.length_toList]; rfl

set_option maxHeartbeats 1000000 in
theorem digits_any (s : ByteArray) (f : Nat) (w : World) (hs : s.size ≤ 9223372036854775807) (hf : f ≤ s.size) (r : Bool) (hr : digitsB (s.data.toList.drop f) = r) :
    Calls Tryd.prog 101 #[.string s, .int .i64 f] w fun e w' => e = .returned (.bool r) ∧ ∃ n, w' = w.drewN n := by
  by_cases h0 : f = s.size
  · rw [drop_end s f (by omega), digitsB_nil] at hr
    subst hr
    have q0 : ((s.size : Int) == (f : Int)) = true := by simp; omega
    clear h0
    go_enter Tryd.func101, Tryd.ntmps101
    go_wp2_with fail
    go_ret
    exact ⟨rfl, 0, rfl⟩
  · have hfl : f < s.size := by omega
    have q0 : ((s.size : Int) == (f : Int)) = false := by simp; omega
    have hcf := s[f].toNat_lt
    by_cases h1 : s[f] = 48 ∧ f + 1 < s.size
    · obtain ⟨h1, h2⟩ := h1
      rw [digitsB_zero (by rw [head_drop s f hfl, h1]) (by rw [drop_len]; omega)] at hr
      subst hr
      have q1 := u8_eqb (n := 48) rfl h1
      have q2 : decide ((f : Int) + 1 < (s.size : Int)) = true := by simp; omega
      clear h1 h0
      go_enter Tryd.func101, Tryd.ntmps101
      go_wp2_with fail
      go_ret
      exact ⟨rfl, 0, rfl⟩
    · rw [digitsB_all (by intro e; have := drop_len s f; rw [e] at this; simp at this; omega) (by rw [head_drop s f hfl, drop_len]; intro e; have e2 := Option.some.inj e; have : ¬ f + 1 < s.size := fun h => h1 ⟨e2, h⟩; omega)] at hr
      have HR := Lib.hid hr
      clear hr h0
      rcases (show ((s[f].toNat : Int) == 48) = false ∨ (((s[f].toNat : Int) == 48) = true ∧ decide ((f : Int) + 1 < (s.size : Int)) = false) by
        by_cases e : s[f] = 48
        · have : ¬ f + 1 < s.size := fun h => h1 ⟨e, h⟩; exact .inr ⟨u8_eqb (n := 48) rfl e, by simp; omega⟩
        · exact .inl (u8_neb (n := 48) rfl e)) with q1 | ⟨q1, q2⟩
      all_goals
        clear h1
        go_enter Tryd.func101, Tryd.ntmps101
        go_wp2_with fail
        go_loopw [5] (fun i wr => ∃ k : Nat, k ≤ s.size ∧ i = .int .i64 k ∧ RowKit.Hid ((s.data.toList.drop k).all isDigit = r) ∧ ∃ n, wr = w.drewN n) (fun i _ => s.size - (intOf i).toNat)
        case atStart => exact ⟨f, by omega, rfl, HR, 0, rfl⟩
        case round =>
          obtain ⟨k, hk, rfl, HC, n, rfl⟩ := hrel
          by_cases hlt : k < s.size
          · have hc := HC.out
            rw [all_drop s k hlt] at hc
            have hbd := s[k].toNat_lt
            clear HC
            by_cases g1 : s[k].toNat < 48
            · have : isDigit s[k] = false := by simp [isDigit]; omega
              rw [this] at hc
              subst hc
              have p1 : decide ((s[k].toNat : Int) < 48) = true := by simp; omega
              clear this
              go_wp2_with fail
              go_ret
              exact ⟨by rw [Bool.false_and]; rfl, n, rfl⟩
            · have p1 : decide ((s[k].toNat : Int) < 48) = false := by simp; omega
              by_cases g2 : 57 < s[k].toNat
              · have p2 : decide (57 < (s[k].toNat : Int)) = true := by simp; omega
                have : isDigit s[k] = false := by simp [isDigit]; omega
                rw [this] at hc
                subst hc
                clear this
                go_wp2_with fail
                go_ret
                exact ⟨by rw [Bool.false_and]; rfl, n, rfl⟩
              · have p2 : decide (57 < (s[k].toNat : Int)) = false := by simp; omega
                have : isDigit s[k] = true := by simp [isDigit]; omega
                rw [this, Bool.true_and] at hc
                have HC := Lib.hid hc
                clear this hc
                go_wp2_with fail
                go_roundw
                case rel => exact ⟨k + 1, by omega, by go_num, HC, n, rfl⟩
                case measure => simp [intOf]; omega
          · have hc := HC.out
            rw [drop_end s k hlt] at hc
            subst hc
            go_wp2_with fail
            go_ret
            exact ⟨rfl, n, rfl⟩
end Go.Proofs.YtcgphlilijeifaaDoor
