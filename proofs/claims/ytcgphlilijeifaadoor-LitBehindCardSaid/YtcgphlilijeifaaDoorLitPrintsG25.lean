import Derived.Test.YtcgphlilijeifaaDoorLitPrintsG21
import Derived.Test.YtcgphlilijeifaaDoorLitPrintsG20
import Derived.Test.YtcgphlilijeifaaDoorLitPrintsG3
import Derived.Test.YtcgphlilijeifaaDoorLitPrintsG23
import Derived.Test.YtcgphlilijeifaaDoorLitPrintsG24
section
/-
  The document's digits: its contract.
-/
namespace Go.Proofs.YtcgphlilijeifaaDoor
open Go.RowKit

/-- Digits, one at least, the first one no nought but alone. -/
def digitsB (l : List UInt8) : Bool := !l.isEmpty && !(l.head? == some 48 && decide (1 < l.length)) && l.all isDigit
theorem digitsB_nil : digitsB [] = false := rfl
theorem digitsB_zero {l : List UInt8} (h : l.head? = some 48) (h1 : 1 < l.length) : digitsB l = false := by simp [digitsB, h, h1]
theorem digitsB_all {l : List UInt8} (h : l ≠ []) (h1 : l.head? = some 48 → l.length ≤ 1) : digitsB l = l.all isDigit := by
  have e1 : l.isEmpty = false := by cases l with
    | nil => exact absurd rfl h
    | cons _ _ => rfl
  have e2 : (l.head? == some 48 && decide (1 < l.length)) = false := by
    by_cases e : l.head? = some 48
    · have := h1 e
      simp; intro _; omega
    · simp [e]
  rw [digitsB, e1, e2]; simp
theorem head_drop (s : ByteArray) (k : Nat) (h : k < s.size) : (s.data.toList.drop k).head? = some s[k] := by rw [drop_cons s k h]; rfl
theorem all_drop (s : ByteArray) (k : Nat) (h : k < s.size) : (s.data.toList.drop k).all isDigit = (isDigit s[k] && (s.data.toList.drop (k + 1)).all isDigit) := by rw [drop_cons s k h]; rfl
theorem drop_len (s : ByteArray) (k : Nat) : (s.data.toList.drop k).length = s.size - k := by rw [List.length_drop, Array.length_toList]; rfl

set_option maxHeartbeats 1000000 in
theorem digits_any (s : ByteArray) (f : Nat) (w : World) (hs : s.size ≤ 9223372036854775807) (hf : f ≤ s.size) (r : Bool) (hr : digitsB (s.data.toList.drop f) = r) :
    Calls Tryd.prog 101 #[.string s, .int .i64 f] w fun e w' => e = .returned (.bool r) ∧ ∃ n, w' = w.drewN n := by
  by_cases h0 : f = s.size
  · rw [drop_end s f (by omega), digitsB_nil] at hr
    subst hr
    have q0 : ((s.size : Int) == (f : Int)) = true := by simp; omega
    clear h0
    go_enter Tryd.func101, Tryd.ntmps101
    go_wp2_with fail
    go_ret
    exact ⟨rfl, 0, rfl⟩
  · have hfl : f < s.size := by omega
    have q0 : ((s.size : Int) == (f : Int)) = false := by simp; omega
    have hcf := s[f].toNat_lt
    by_cases h1 : s[f] = 48 ∧ f + 1 < s.size
    · obtain ⟨h1, h2⟩ := h1
      rw [digitsB_zero (by rw [head_drop s f hfl, h1]) (by rw [drop_len]; omega)] at hr
      subst hr
      have q1 := u8_eqb (n := 48) rfl h1
      have q2 : decide ((f : Int) + 1 < (s.size : Int)) = true := by simp; omega
      clear h1 h0
      go_enter Tryd.func101, Tryd.ntmps101
      go_wp2_with fail
      go_ret
      exact ⟨rfl, 0, rfl⟩
    · rw [digitsB_all (by intro e; have := drop_len s f; rw [e] at this; simp at this; omega) (by rw [head_drop s f hfl, drop_len]; intro e; have e2 := Option.some.inj e; have : ¬ f + 1 < s.size := fun h => h1 ⟨e2, h⟩; omega)] at hr
      have HR := Lib.hid hr
      clear hr h0
      rcases (show ((s[f].toNat : Int) == 48) = false ∨ (((s[f].toNat : Int) == 48) = true ∧ decide ((f : Int) + 1 < (s.size : Int)) = false) by
        by_cases e : s[f] = 48
        · have : ¬ f + 1 < s.size := fun h => h1 ⟨e, h⟩; exact .inr ⟨u8_eqb (n := 48) rfl e, by simp; omega⟩
        · exact .inl (u8_neb (n := 48) rfl e)) with q1 | ⟨q1, q2⟩
      all_goals
        clear h1
        go_enter Tryd.func101, Tryd.ntmps101
        go_wp2_with fail
        go_loopw [5] (fun i wr => ∃ k : Nat, k ≤ s.size ∧ i = .int .i64 k ∧ RowKit.Hid ((s.data.toList.drop k).all isDigit = r) ∧ ∃ n, wr = w.drewN n) (fun i _ => s.size - (intOf i).toNat)
        case atStart => exact ⟨f, by omega, rfl, HR, 0, rfl⟩
        case round =>
          obtain ⟨k, hk, rfl, HC, n, rfl⟩ := hrel
          by_cases hlt : k < s.size
          · have hc := HC.out
            rw [all_drop s k hlt] at hc
            have hbd := s[k].toNat_lt
            clear HC
            by_cases g1 : s[k].toNat < 48
            · have : isDigit s[k] = false := by simp [isDigit]; omega
              rw [this] at hc
              subst hc
              have p1 : decide ((s[k].toNat : Int) < 48) = true := by simp; omega
              clear this
              go_wp2_with fail
              go_ret
              exact ⟨by rw [Bool.false_and]; rfl, n, rfl⟩
            · have p1 : decide ((s[k].toNat : Int) < 48) = false := by simp; omega
              by_cases g2 : 57 < s[k].toNat
              · have p2 : decide (57 < (s[k].toNat : Int)) = true := by simp; omega
                have : isDigit s[k] = false := by simp [isDigit]; omega
                rw [this] at hc
                subst hc
                clear this
                go_wp2_with fail
                go_ret
                exact ⟨by rw [Bool.false_and]; rfl, n, rfl⟩
              · have p2 : decide (57 < (s[k].toNat : Int)) = false := by simp; omega
                have : isDigit s[k] = true := by simp [isDigit]; omega
                rw [this, Bool.true_and] at hc
                have HC := Lib.hid hc
                clear this hc
                go_wp2_with fail
                go_roundw
                case rel => exact ⟨k + 1, by omega, by go_num, HC, n, rfl⟩
                case measure => simp [intOf]; omega
          · have hc := HC.out
            rw [drop_end s k hlt] at hc
            subst hc
            go_wp2_with fail
            go_ret
            exact ⟨rfl, n, rfl⟩
end Go.Proofs.YtcgphlilijeifaaDoor
end
section
/-
  Numbers as rows of bytes, the lowest one first: by ten, and a digit; plain data. When digits are as a number has them, said as the document says it.
-/
namespace Go.Proofs.YtcgphlilijeifaaDoor

def mulLow : List UInt8 → Nat → List UInt8 × Nat
  | [], d => ([], d)
  | x :: r, d => (UInt8.ofNat (10 * x.toNat + d) :: (mulLow r ((10 * x.toNat + d) / 256)).1, (mulLow r ((10 * x.toNat + d) / 256)).2)
def lv (l : List UInt8) : Nat := nv l.reverse
theorem lv_nil : lv [] = 0 := rfl
theorem lv_cons (x : UInt8) (r : List UInt8) : lv (x :: r) = 256 * lv r + x.toNat := by simp [lv, nv_snoc]
theorem lv_snoc (l : List UInt8) (x : UInt8) : lv (l ++ [x]) = x.toNat * 256 ^ l.length + lv l := by
  simp only [lv, List.reverse_append, List.reverse_cons, List.reverse_nil, List.nil_append, List.singleton_append]
  rw [nv_cons, List.length_reverse]
theorem mulLow_length (l : List UInt8) (d : Nat) : (mulLow l d).1.length = l.length := by
  induction l generalizing d with
  | nil => rfl
  | cons x r ih => simp [mulLow, ih]
theorem mulLow_carry (l : List UInt8) (d : Nat) (h : d ≤ 9) : (mulLow l d).2 ≤ 9 := by
  induction l generalizing d with
  | nil => exact h
  | cons x r ih =>
    have := x.toNat_lt
    exact ih _ (by omega)
theorem mulLow_val (l : List UInt8) (d : Nat) : lv (mulLow l d).1 + (mulLow l d).2 * 256 ^ l.length = 10 * lv l + d := by
  induction l generalizing d with
  | nil => simp [mulLow, lv_nil]
  | cons x r ih =>
    have h := ih ((10 * x.toNat + d) / 256)
    simp only [mulLow, lv_cons, List.length_cons, pow256]
    rw [UInt8.toNat_ofNat']
    have e : (mulLow r ((10 * x.toNat + d) / 256)).2 * (256 ^ r.length * 256) = 256 * ((mulLow r ((10 * x.toNat + d) / 256)).2 * 256 ^ r.length) := by
      rw [← Nat.mul_assoc, Nat.mul_comm]
    rw [e]
    generalize (mulLow r ((10 * x.toNat + d) / 256)).2 * 256 ^ r.length = t at h ⊢
    omega
theorem mulLow_snoc (l : List UInt8) (x : UInt8) (d : Nat) :
    mulLow (l ++ [x]) d = ((mulLow l d).1 ++ [UInt8.ofNat (10 * x.toNat + (mulLow l d).2)], (10 * x.toNat + (mulLow l d).2) / 256) := by
  induction l generalizing d with
  | nil => simp [mulLow]
  | cons y r ih => simp [mulLow, ih]
/-- After k places. -/
def mlTo (l : List UInt8) (d k : Nat) : List UInt8 := (mulLow (l.take k) d).1 ++ l.drop k
theorem mlTo_length (l : List UInt8) (d k : Nat) (h : k ≤ l.length) : (mlTo l d k).length = l.length := by simp [mlTo, mulLow_length]; omega
theorem mlTo_zero (l : List UInt8) (d : Nat) : mlTo l d 0 = l := by simp [mlTo, mulLow]
theorem mlTo_end (l : List UInt8) (d k : Nat) (h : l.length ≤ k) : mlTo l d k = (mulLow l d).1 := by simp [mlTo, List.take_of_length_le h, List.drop_of_length_le h]
theorem mlTo_get (l : List UInt8) (d k : Nat) (h : k < l.length) (h2 : k < (mlTo l d k).length) : (mlTo l d k)[k] = l[k] := by
  simp only [mlTo]
  rw [List.getElem_append_right (by rw [mulLow_length, List.length_take]; omega)]
  simp [mulLow_length, Nat.min_eq_left (Nat.le_of_lt h)]
theorem mlTo_step (l : List UInt8) (d k : Nat) (h : k < l.length) :
    (mlTo l d k).set k (UInt8.ofNat (10 * l[k].toNat + (mulLow (l.take k) d).2)) = mlTo l d (k + 1) ∧ (mulLow (l.take (k + 1)) d).2 = (10 * l[k].toNat + (mulLow (l.take k) d).2) / 256 := by
  have hs : l.take (k + 1) = l.take k ++ [l[k]] := List.take_succ_eq_append_getElem h
  refine ⟨?_, by rw [hs, mulLow_snoc]⟩
  have hd : l.drop k = l[k] :: l.drop (k + 1) := List.drop_eq_getElem_cons h
  have hl : (mulLow (l.take k) d).1.length = k := by rw [mulLow_length, List.length_take]; omega
  unfold mlTo
  rw [hs, mulLow_snoc, hd, List.set_append_right _ _ (by omega), hl, Nat.sub_self, List.set_cons_zero, List.append_assoc]
  rfl
/-- A row by ten, and a digit. -/
def mulNext (l : List UInt8) (d : Nat) : List UInt8 := if 0 < (mulLow l d).2 then (mulLow l d).1 ++ [UInt8.ofNat (mulLow l d).2] else (mulLow l d).1
theorem mulNext_lv (l : List UInt8) (d : Nat) (hd : d ≤ 9) : lv (mulNext l d) = 10 * lv l + d := by
  have h := mulLow_val l d
  have hc := mulLow_carry l d hd
  unfold mulNext
  split
  · rename_i h0
    rw [lv_snoc, UInt8.toNat_ofNat', mulLow_length, Nat.mod_eq_of_lt (by omega)]
    omega
  · rename_i h0
    have : (mulLow l d).2 = 0 := by omega
    rw [this] at h
    omega
theorem rev_head_ne (l : List UInt8) (h : 256 ^ (l.length - 1) ≤ lv l) : l.reverse.head? ≠ some 0 := by
  intro e
  cases hr : l.reverse with
  | nil => rw [hr] at e; cases e
  | cons c r =>
    rw [hr] at e
    have hc : c = 0 := by simpa using e
    have hl : l.length = r.length + 1 := by
      have := congrArg List.length hr
      simpa using this
    unfold lv at h
    rw [hr, nv_cons, hc, hl] at h
    have h2 := nv_lt r
    have h3 : (0 : UInt8).toNat = 0 := rfl
    rw [h3, Nat.zero_mul] at h
    simp only [Nat.add_sub_cancel] at h
    omega
theorem mulNext_head (l : List UInt8) (d : Nat) (hd : d ≤ 9) (h : l.reverse.head? ≠ some 0) : (mulNext l d).reverse.head? ≠ some 0 := by
  have hc := mulLow_carry l d hd
  have hv := mulNext_lv l d hd
  unfold mulNext at hv ⊢
  split
  · simp only [List.reverse_append, List.reverse_cons, List.reverse_nil, List.nil_append, List.singleton_append, List.head?_cons]
    intro e
    have := congrArg UInt8.toNat (Option.some.inj e)
    rw [UInt8.toNat_ofNat'] at this
    have h3 : (0 : UInt8).toNat = 0 := rfl
    omega
  · rename_i h0
    rw [if_neg h0] at hv
    by_cases hn : l = []
    · subst hn
      simp [mulLow]
    · refine rev_head_ne _ ?_
      rw [hv, mulLow_length]
      have := nv_ge h (by simpa using hn)
      rw [List.length_reverse] at this
      have e : lv l = nv l.reverse := rfl
      omega
theorem mulNext_mag (l : List UInt8) (d n : Nat) (hd : d ≤ 9) (h : l.reverse = magN n) : (mulNext l d).reverse = magN (10 * n + d) := by
  refine nv_inj (mulNext_head l d hd (by rw [h]; exact magN_head n)) (magN_head _) ?_
  have := mulNext_lv l d hd
  unfold lv at this
  rw [this, h, magN_nv, magN_nv]
theorem mulNext_length (l : List UInt8) (d : Nat) : (mulNext l d).length ≤ l.length + 1 := by
  unfold mulNext
  split <;> simp [mulLow_length]

/-- As the document says it. -/
theorem good_digitsB (s : List UInt8) : good s = (digitsB (ds s) && !(s == [45, 48])) := by
  by_cases hn : ds s = []
  · rw [hn]; simp [good, hn, digitsB]
  · have e1 : (ds s).isEmpty = false := by cases h : ds s with
      | nil => exact absurd h hn
      | cons _ _ => rfl
    by_cases h48 : (ds s).head? = some 48
    · obtain ⟨r, hr⟩ : ∃ r, ds s = 48 :: r := by
        cases h : ds s with
        | nil => exact absurd h hn
        | cons c r => rw [h] at h48; simp at h48; exact ⟨r, by rw [h48]⟩
      have hs : s = 48 :: r ∨ s = 45 :: 48 :: r := by
        cases s with
        | nil => simp [ds, neg] at hr
        | cons c t =>
          by_cases hc : c = 45
          · subst hc
            exact .inr (by rw [show ds (45 :: t) = t from rfl] at hr; rw [hr])
          · exact .inl (by simpa [ds, neg, hc] using hr)
      cases r with
      | nil =>
        rcases hs with rfl | rfl
        · decide
        · decide
      | cons x t =>
        rcases hs with rfl | rfl <;> simp [good, hr, digitsB]
    · have hne : s ≠ [45, 48] := by
        intro e
        subst e
        exact h48 (by decide)
      have e2 : ((ds s).head? == some 48) = false := by simpa using h48
      have e3 : (s == [45, 48]) = false := by simpa using hne
      simp [good, e1, e2, e3, digitsB]

theorem pow51 : 256 ^ 51 ≤ 10 ^ 123 := by decide
theorem pow_five (a b : Nat) (h : 256 ^ a ≤ 10 ^ b) (k n : Nat) (hk : k = a * 5) (hn : b * 5 ≤ n) : 256 ^ k ≤ 10 ^ n := by
  have h1 : (256 ^ a) ^ 5 ≤ (10 ^ b) ^ 5 := Nat.pow_le_pow_left h 5
  rw [← Nat.pow_mul, ← Nat.pow_mul] at h1
  rw [hk]
  exact Nat.le_trans h1 (Nat.pow_le_pow_right (by decide) hn)
theorem pow_long (n : Nat) (hn : n = 620) : 256 ^ 255 ≤ 10 ^ n := pow_five 51 123 pow51 255 n rfl (by omega)
end Go.Proofs.YtcgphlilijeifaaDoor
end
section
/-
  The document's Parse: its contract.
-/
namespace Go.Proofs.YtcgphlilijeifaaDoor
open Go.RowKit

theorem rds_neg (s : ByteArray) (h : 0 < s.size) (hc : s[0] = 45) : ds s.toList = s.data.toList.drop 1 ∧ neg s.toList = true := by
  have h1 : s.toList = s.data.toList := Lib.toList_data s
  have h2 := drop_cons s 0 h
  rw [List.drop_zero, hc] at h2
  rw [h1, h2]
  exact ⟨rfl, rfl⟩
theorem rds_pos (s : ByteArray) (h : 0 < s.size) (hc : s[0] ≠ 45) : ds s.toList = s.data.toList.drop 0 ∧ neg s.toList = false := by
  have h1 : s.toList = s.data.toList := Lib.toList_data s
  have h2 := drop_cons s 0 h
  rw [List.drop_zero] at h2
  have hn : neg s.toList = false := by rw [h1, h2]; simpa [neg] using hc
  refine ⟨?_, hn⟩
  unfold ds
  rw [hn, List.drop_zero, ← h1]
  rfl
theorem digits_c (s : ByteArray) (f : Nat) (x : Int) (hx : x = f) (w : World) (hs : s.size ≤ 9223372036854775807) (hf : f ≤ s.size) (r : Bool) (hr : digitsB (s.data.toList.drop f) = r) :
    Calls Tryd.prog 101 #[.string s, .int .i64 x] w fun e w' => e = .returned (.bool r) ∧ Below w.heap.size w w' := by
  subst hx
  exact (digits_any s f w hs hf r hr).mono fun e w' ⟨he, n, hn⟩ => ⟨he, hn ▸ Below.drewN_ (Below.refl _ w) n⟩
theorem not_minus0 (s : ByteArray) (h : 0 < s.size) (hc : s[0] ≠ 45) : (s.toList == [45, 48]) = false := by
  have h1 : s.toList = s.data.toList := Lib.toList_data s
  have h2 := drop_cons s 0 h
  rw [List.drop_zero] at h2
  rw [h1, h2]
  simp [hc]
theorem OwnB.form2 {w : World} {base : Nat} {v : Value} {l : List UInt8} (h : OwnB w base v l) : ∃ a cap, v = .slice a l.length cap := by
  rcases h.2 with ⟨rfl, hn⟩ | ⟨g, cap, cur, rfl, hb, _⟩
  · exact ⟨none, 0, by rw [hn]⟩
  · exact ⟨_, cap, rfl⟩
theorem OwnB.at_ {w : World} {base n cap : Nat} {a : Option Addr} {l : List UInt8} (h : OwnB w base (.slice a n cap) l) (hl : 0 < l.length) : ∃ g, a = some ⟨g, 0, none⟩ ∧ base ≤ g ∧ g < w.heap.size := by
  rcases h.2 with ⟨hv, hn⟩ | ⟨g, cap', cur, hv, hb, hgg, _⟩
  · omega
  · injection hv with e1 e2 e3
    exact ⟨g, e1, hb, (Array.getElem?_eq_some_iff.1 hgg).1⟩
theorem OwnB.set {w : World} {base g n cap : Nat} {l : List UInt8} (h : OwnB w base (.slice (some ⟨g, 0, none⟩) n cap) l) (hn : n = l.length) (j : Nat) (c : UInt8) :
    OwnB (w.setCell ⟨g, j, none⟩ (.int .u8 (c.toNat : Int))) base (.slice (some ⟨g, 0, none⟩) n cap) (l.set j c) := by
  subst hn
  have h2 := (World.ownsRow.stored h j (.int .u8 (c.toNat : Int))).1
  unfold OwnB
  rw [List.length_set]
  simpa [bv, List.map_set] using h2
theorem mul_byte (x cr : Nat) : ((UInt8.ofNat (10 * x + cr)).toNat : Int) = (10 * (x : Int) + (cr : Int)) % 256 := by rw [rem_byte]; simp
theorem dv_take (s : ByteArray) (f k : Nat) (hf : f ≤ k) (hk : k < s.size) : dv ((s.data.toList.drop f).take (k + 1 - f)) = 10 * dv ((s.data.toList.drop f).take (k - f)) + (s[k].toNat - 48) := by
  have hl : k - f < (s.data.toList.drop f).length := by rw [drop_len]; omega
  rw [show k + 1 - f = (k - f) + 1 by omega, List.take_succ_eq_append_getElem hl, dv_snoc, List.getElem_drop]
  simp only [show f + (k - f) = k by omega]
  rfl

theorem rparse_nil (s : ByteArray) (w : World) (h0 : s.size = 0) :
    Calls Tryd.prog 68 #[.string s] w fun e w' => e = .returned (.tuple #[.agg #[.bool false, .string ⟨#[]⟩], .int .i64 20]) ∧ Below w.heap.size w w' := by
  have q0 : decide (0 < s.size) = false := decide_eq_false (by omega)
  have hs : s.size ≤ 9223372036854775807 := by omega
  have HD := Lib.hid (show digitsB (s.data.toList.drop 0) = false by rw [drop_end s 0 (by omega)]; rfl)
  clear h0
  go_enter Tryd.func68, Tryd.ntmps68
  go_wp2_with fail
  refine (digits_c s 0 _ (by simp) _ hs (by omega) false HD.out).mono ?_
  rintro e w1 ⟨rfl, hb1⟩
  obtain ⟨c0, c1, hz, hbw⟩ := num_cells hb1
  obtain ⟨g0, g1⟩ := num_free hb1
  clear hb1
  go_wp2_with fail
  exact bodyPost_ret (v := .tuple #[.agg #[.bool false, .string ⟨#[]⟩], .int .i64 20]) (by simp [results, Tryd.results68, go_sem, c0, c1]) rfl ⟨rfl, (hbw.setCell (Nat.le_refl _) _).setCell (Nat.le_refl _) _⟩

theorem rparse_neg_bad (s : ByteArray) (w : World) (hs : s.size ≤ 9223372036854775807) (h0 : 0 < s.size) (hc : s[0] = 45) (hd : digitsB (s.data.toList.drop 1) = false) :
    Calls Tryd.prog 68 #[.string s] w fun e w' => e = .returned (.tuple #[.agg #[.bool false, .string ⟨#[]⟩], .int .i64 20]) ∧ Below w.heap.size w w' := by
  have q0 : decide (0 < (s.size : Int)) = true := by simp; omega
  have q1 := u8_eqb (n := 45) rfl hc
  have HD := Lib.hid hd
  clear hd hc
  go_enter Tryd.func68, Tryd.ntmps68
  go_wp2_with fail
  refine (digits_c s 1 _ (by simp) _ hs (by omega) false HD.out).mono ?_
  rintro e w1 ⟨rfl, hb1⟩
  obtain ⟨c0, c1, hz, hbw⟩ := num_cells hb1
  obtain ⟨g0, g1⟩ := num_free hb1
  clear hb1
  go_wp2_with fail
  exact bodyPost_ret (v := .tuple #[.agg #[.bool false, .string ⟨#[]⟩], .int .i64 20]) (by simp [results, Tryd.results68, go_sem, c0, c1]) rfl ⟨rfl, (hbw.setCell (Nat.le_refl _) _).setCell (Nat.le_refl _) _⟩

theorem rparse_neg_zero (s : ByteArray) (w : World) (hs : s.size ≤ 9223372036854775807) (h0 : 0 < s.size) (hc : s[0] = 45) (hd : digitsB (s.data.toList.drop 1) = true) (hz : s.toList = [45, 48]) :
    Calls Tryd.prog 68 #[.string s] w fun e w' => e = .returned (.tuple #[.agg #[.bool false, .string ⟨#[]⟩], .int .i64 20]) ∧ Below w.heap.size w w' := by
  have q0 : decide (0 < (s.size : Int)) = true := by simp; omega
  have q1 := u8_eqb (n := 45) rfl hc
  have q2 : (s.toList == [45, 48]) = true := by rw [hz]; rfl
  have HD := Lib.hid hd
  clear hd hc hz
  go_enter Tryd.func68, Tryd.ntmps68
  go_wp2_with fail
  refine (digits_c s 1 _ (by simp) _ hs (by omega) true HD.out).mono ?_
  rintro e w1 ⟨rfl, hb1⟩
  obtain ⟨c0, c1, hz, hbw⟩ := num_cells hb1
  obtain ⟨g0, g1⟩ := num_free hb1
  clear hb1
  go_wp2_with fail
  exact bodyPost_ret (v := .tuple #[.agg #[.bool false, .string ⟨#[]⟩], .int .i64 20]) (by simp [results, Tryd.results68, go_sem, c0, c1]) rfl ⟨rfl, (hbw.setCell (Nat.le_refl _) _).setCell (Nat.le_refl _) _⟩

theorem rparse_neg_many (s : ByteArray) (w : World) (hs : s.size ≤ 9223372036854775807) (h0 : 0 < s.size) (hc : s[0] = 45) (hd : digitsB (s.data.toList.drop 1) = true) (q2 : (s.toList == [45, 48]) = false) (hl : 620 < s.size - 1) :
    Calls Tryd.prog 68 #[.string s] w fun e w' => e = .returned (.tuple #[.agg #[.bool false, .string ⟨#[]⟩], .int .i64 21]) ∧ Below w.heap.size w w' := by
  have q0 : decide (0 < (s.size : Int)) = true := by simp; omega
  have q1 := u8_eqb (n := 45) rfl hc
  have HD := Lib.hid hd
  have HDS := Lib.hid (rds_neg s h0 hc)
  clear hd hc
  have q3 : decide (620 < (s.size : Int) - 1) = true := by simp; omega
  go_enter Tryd.func68, Tryd.ntmps68
  go_wp2_with fail
  refine (digits_c s 1 _ (by simp) _ hs (by omega) true HD.out).mono ?_
  rintro e w1 ⟨rfl, hb1⟩
  obtain ⟨c0, c1, hz, hbw⟩ := num_cells hb1
  obtain ⟨g0, g1⟩ := num_free hb1
  clear hb1
  go_wp2_with fail
  exact bodyPost_ret (v := .tuple #[.agg #[.bool false, .string ⟨#[]⟩], .int .i64 21]) (by simp [results, Tryd.results68, go_sem, c0, c1]) rfl ⟨rfl, (hbw.setCell (Nat.le_refl _) _).setCell (Nat.le_refl _) _⟩

set_option maxRecDepth 100000 in
set_option maxHeartbeats 4000000 in
theorem rparse_neg_good (s : ByteArray) (w : World) (hs : s.size ≤ 9223372036854775807) (h0 : 0 < s.size) (hc : s[0] = 45) (hd : digitsB (s.data.toList.drop 1) = true) (q2 : (s.toList == [45, 48]) = false) (hl : ¬ 620 < s.size - 1) :
    Calls Tryd.prog 68 #[.string s] w (ParsePost s w) := by
  have q0 : decide (0 < (s.size : Int)) = true := by simp; omega
  have q1 := u8_eqb (n := 45) rfl hc
  have HD := Lib.hid hd
  have HDS := Lib.hid (rds_neg s h0 hc)
  clear hd hc
  have q3 : decide (620 < (s.size : Int) - 1) = false := by simp; omega
  go_enter Tryd.func68, Tryd.ntmps68
  go_wp2_with fail
  refine (digits_c s 1 _ (by simp) _ hs (by omega) true HD.out).mono ?_
  rintro e w1 ⟨rfl, hb1⟩
  obtain ⟨c0, c1, hz, hbw⟩ := num_cells hb1
  obtain ⟨g0, g1⟩ := num_free hb1
  clear hb1
  go_wp2_with fail
  go_loopw [5, 6] (fun v i wr => ∃ (k : Nat) (low : List UInt8), 1 ≤ k ∧ k ≤ s.size ∧ i = .int .i64 k ∧ low.length + 1 ≤ k ∧ OwnB wr w1.heap.size v low ∧ RowKit.Hid (low.reverse = magN (dv ((s.data.toList.drop 1).take (k - 1)))) ∧ Below w1.heap.size w1 wr ∧ w1.heap.size ≤ wr.heap.size) (fun _ i _ => s.size - (intOf i).toNat)
  case atStart => exact ⟨1, [], Nat.le_refl _, by omega, rfl, by simp, OwnB.nil _ _, Lib.hid (by simp [dv, magN_zero]), Below.refl _ _, Nat.le_refl _⟩
  case round =>
    obtain ⟨k, low, hfk, hk, rfl, hll, hO, HM, hB, hsz⟩ := hrel
    obtain ⟨a, cap, hv⟩ := hO.form2
    rw [hv] at hO ⊢
    clear hv
    by_cases hlt : k < s.size
    · have hdg : isDigit s[k] = true := by
        have h1 := HD.out
        rw [digitsB_all (by intro e; rw [e] at h1; cases h1) (by
          intro e
          rcases Nat.lt_or_ge 1 (s.data.toList.drop 1).length with h2 | h2
          · rw [digitsB_zero e h2] at h1; cases h1
          · exact h2), List.all_eq_true] at h1
        have h2 : s[k] = (s.data.toList.drop 1)[k - 1]'(by rw [drop_len]; omega) := by
          rw [List.getElem_drop]
          simp only [show 1 + (k - 1) = k by omega]
          rfl
        rw [h2]
        exact h1 _ (List.getElem_mem _)
      simp only [isDigit, Bool.and_eq_true, decide_eq_true_eq] at hdg
      obtain ⟨hd1, hd2⟩ := hdg
      have HV := Lib.hid (dv_take s 1 k hfk hlt)
      obtain ⟨D, hD⟩ : ∃ D, dv ((s.data.toList.drop 1).take (k - 1)) = D := ⟨_, rfl⟩
      rw [hD] at HM HV
      clear hD
      have HS := Lib.hid (show (mulNext low (s[k].toNat - 48)).reverse = magN (dv ((s.data.toList.drop 1).take (k + 1 - 1))) by
        rw [HV.out]; exact mulNext_mag low _ D (by omega) HM.out)
      clear HV
      obtain ⟨wo, hwo⟩ : ∃ wo : World, wo = wr := ⟨_, rfl⟩
      subst hwo
      go_wp2_with fail
      go_loopw [7, 8] (fun c y wi => ∃ j cr : Nat, j ≤ low.length ∧ y = .int .i64 j ∧ c = .int .i64 cr ∧ cr ≤ 9 ∧ RowKit.Hid (cr = (mulLow (low.take j) (s[k].toNat - 48)).2) ∧ OwnB wi w1.heap.size (.slice a low.length cap) (mlTo low (s[k].toNat - 48) j) ∧ Below w1.heap.size w1 wi ∧ w1.heap.size ≤ wi.heap.size) (fun _ y _ => low.length - (intOf y).toNat)
      case atStart => exact ⟨0, s[k].toNat - 48, Nat.zero_le _, rfl, by go_num, by omega, Lib.hid rfl, by rw [mlTo_zero]; exact hO, hB, hsz⟩
      case round =>
        clear hO hB hsz
        obtain ⟨j, cr, hj, rfl, rfl, hcr, HC, hO, hB, hsz⟩ := hrel
        by_cases hjl : j < low.length
        · have hml : (mlTo low (s[k].toNat - 48) j).length = low.length := mlTo_length _ _ _ hj
          have HML := Lib.hid hml
          obtain ⟨g, hg, hgb, hgl⟩ := hO.at_ (by rw [hml]; omega)
          subst hg
          have hc2 := hO.row.cell j (by rw [hml]; exact hjl)
          have hf2 := hO.row.frozen j (by rw [hml]; exact hjl)
          rw [mlTo_get _ _ _ hjl (by rw [hml]; exact hjl)] at hc2
          have HST := Lib.hid (mlTo_step low (s[k].toNat - 48) j hjl)
          rw [← HC.out] at HST
          obtain ⟨x, hx⟩ : ∃ x, low[j] = x := ⟨_, rfl⟩
          rw [hx] at hc2 HST
          have hxb := x.toNat_lt
          have HR2 := Lib.hid (hO.set hml.symm j (UInt8.ofNat (10 * x.toNat + cr)))
          have HB2 := Lib.hid (hB.setCell (p := ⟨g, j, none⟩) hgb (.int .u8 ((UInt8.ofNat (10 * x.toNat + cr)).toNat : Int)))
          rw [mul_byte] at HR2 HB2
          clear hx hml hO hB HC
          go_wp2_with fail
          go_roundw
          case rel => exact ⟨j + 1, (10 * x.toNat + cr) / 256, by omega, by go_num, by go_num, by omega, Lib.hid HST.out.2.symm, by rw [← HST.out.1]; exact HR2.out, HB2.out, by simpa [World.setCell] using hsz⟩
          case measure => simp [intOf]; omega
        · rw [mlTo_end _ _ _ (by omega)] at hO
          have HC2 := Lib.hid (show cr = (mulLow low (s[k].toNat - 48)).2 by rw [HC.out, List.take_of_length_le (by omega)])
          have hml := mulLow_length low (s[k].toNat - 48)
          clear HC
          by_cases hc0 : 0 < cr
          · have HN := Lib.hid (show mulNext low (s[k].toNat - 48) = (mulLow low (s[k].toNat - 48)).1 ++ [UInt8.ofNat cr] by unfold mulNext; rw [← HC2.out, if_pos hc0])
            have HU := Lib.hid (ofNat_toNat cr (by omega))
            have hnl := mulNext_length low (s[k].toNat - 48)
            have HML := Lib.hid hml
            have hol : (mulLow low (s[k].toNat - 48)).1.length ≤ 620 := by omega
            clear hml
            go_wp2_with (at_builtin; refine wpList_append_bytes rfl (.tmp 71) (.tmp 74) 111 rfl Tryd.underlying111 Tryd.info5 rfl (hO.alloc _) _ [UInt8.ofNat cr] 1 _ rfl rfl (bv_cells_oneI _ _ _ HU.out) (by omega) (hB.alloc hsz _) (by simp; omega) ?_; intro v7 w7 hO7 hB7 hs7)
            go_roundw
            case rel => exact ⟨k + 1, mulNext low (s[k].toNat - 48), by omega, by omega, by go_num, by omega, by rw [HN.out]; exact hO7, HS, hB7, hs7⟩
            case measure => simp [intOf]; omega
          · have hcz : cr = 0 := by omega
            have HN := Lib.hid (show mulNext low (s[k].toNat - 48) = (mulLow low (s[k].toNat - 48)).1 by unfold mulNext; rw [← HC2.out, if_neg hc0])
            have hnl := mulNext_length low (s[k].toNat - 48)
            have HML := Lib.hid hml
            subst hcz
            clear hml
            go_wp2_with fail
            go_roundw
            case rel => exact ⟨k + 1, mulNext low (s[k].toNat - 48), by omega, by omega, by go_num, by omega, by rw [HN.out]; exact hO, HS, hB, hsz⟩
            case measure => simp [intOf]; omega
    · have HM2 := Lib.hid (show low.reverse = magN (dv (ds s.toList)) by rw [HM.out, HDS.out.1, List.take_of_length_le (by rw [drop_len]; omega)])
      have HG := Lib.hid (show good s.toList = true by rw [good_digitsB, HDS.out.1, HD.out, q2]; rfl)
      have HN2 := Lib.hid (HDS.out.2)
      have hlm : (magN (dv (ds s.toList))).length = low.length := by rw [← HM2.out, List.length_reverse]
      have HLM := Lib.hid hlm
      clear hlm HM HD HDS
      have d0 : wr.cell? ⟨w.heap.size, 0, none⟩ = some (.bool false) := (hB.cell (p := ⟨w.heap.size, 0, none⟩) hz).trans c0
      have d1 : wr.cell? ⟨w.heap.size, 1, none⟩ = some (.string ⟨#[]⟩) := (hB.cell (p := ⟨w.heap.size, 1, none⟩) hz).trans c1
      have e0 : wr.frozen? ⟨w.heap.size, 0, none⟩ = false := (hB.frozen (p := ⟨w.heap.size, 0, none⟩) hz).trans g0
      have e1 : wr.frozen? ⟨w.heap.size, 1, none⟩ = false := (hB.frozen (p := ⟨w.heap.size, 1, none⟩) hz).trans g1
      have hzr : w.heap.size < wr.heap.size := by omega
      have hbr : Below w.heap.size w wr := hbw.trans (hB.mono (Nat.le_of_lt hz))
      clear c0 c1 g0 g1 hbw hB
      by_cases hbig : 255 < low.length
      · have HE := Lib.hid (show parseE s.toList = 21 from parseE_long HG.out (by rw [HLM.out]; exact hbig))
        clear hO
        go_wp2_with fail
        exact bodyPost_ret (v := .tuple #[.agg #[.bool false, .string ⟨#[]⟩], .int .i64 21]) (by simp [results, Tryd.results68, go_sem, d0, d1]) rfl
          (parse_post_no HE.out (by decide) ((hbr.setCell (Nat.le_refl _) _).setCell (Nat.le_refl _) _))
      · have HE := Lib.hid (show parseE s.toList = 0 from parseE_ok HG.out (by rw [HLM.out]; exact hbig))
        have hb32 : decide ((255 : Int) < (low.length : Int)) = false := by simp; omega
        obtain ⟨W1, hW1⟩ : ∃ W1 : World, W1 = wr := ⟨_, rfl⟩
        subst hW1
        have HO := Lib.hid hO
        clear hO
        go_wp2_with fail
        go_loopw [10, 11] (fun v y wi => ∃ z : Int, -1 ≤ z ∧ z < low.length ∧ y = .int .i64 z ∧ OwnB wi W1.heap.size v (low.reverse.take (low.length - (z + 1).toNat)) ∧ Below W1.heap.size W1 wi ∧ W1.heap.size ≤ wi.heap.size) (fun _ y _ => (intOf y + 1).toNat)
        case atStart => exact ⟨(low.length : Int) - 1, by omega, by omega, rfl, by rw [show low.length - ((low.length : Int) - 1 + 1).toNat = 0 by omega]; exact OwnB.nil _ _, Below.refl _ _, Nat.le_refl _⟩
        case round =>
          obtain ⟨z, hz1, hz2, rfl, hO2, hB2, hs2⟩ := hrel
          by_cases hz0 : 0 ≤ z
          · obtain ⟨j, rfl⟩ := Int.eq_ofNat_of_zero_le hz0
            have hjl : j < low.length := by omega
            obtain ⟨g, hg, hgb, hgl⟩ := HO.out.at_ (by omega)
            subst hg
            have hc2 := (HO.out.row.below hB2 hgl).cell j hjl
            have HT := Lib.hid (take_rev low j hjl)
            rw [show low.length - ((j : Int) + 1).toNat = low.length - 1 - j by omega] at hO2
            have hol : (low.reverse.take (low.length - 1 - j)).length ≤ 255 := by simp; omega
            obtain ⟨b, hb⟩ : ∃ b, low[j] = b := ⟨_, rfl⟩
            rw [hb] at hc2 HT
            clear hb
            go_wp2_with (at_builtin; refine wpList_append_bytes rfl (.tmp 87) (.tmp 92) 111 rfl Tryd.underlying111 Tryd.info5 rfl (hO2.alloc _) _ [b] 1 _ rfl rfl (bv_cells_oneI _ _ _ rfl) (by omega) (hB2.alloc hs2 _) (by simp; omega) ?_; intro v7 w7 hO7 hB7 hs7)
            refine ⟨?_, by simp [intOf]⟩
            first
              | exact ⟨(j : Int) - 1, by omega, by omega, rfl, by rw [show low.length - ((j : Int) - 1 + 1).toNat = low.length - 1 - j + 1 by omega, HT.out]; exact hO7, hB7, hs7⟩
              | ((repeat apply Exists.intro); exact ⟨⟨(j : Int) - 1, by omega, by omega, rfl, by rw [show low.length - ((j : Int) - 1 + 1).toNat = low.length - 1 - j + 1 by omega, HT.out]; exact hO7, hB7, hs7⟩, rfl⟩)
          · have hze : low.length - (z + 1).toNat = low.length := by omega
            rw [hze, List.take_of_length_le (by simp)] at hO2
            have hcv := hO2.conv 111 9 Tryd.underlying111 Tryd.underlying5 Tryd.underlying9
            have f0 := (hB2.cell (p := ⟨w.heap.size, 0, none⟩) hzr).trans d0
            have f1 := (hB2.cell (p := ⟨w.heap.size, 1, none⟩) hzr).trans d1
            have y0 := (hB2.frozen (p := ⟨w.heap.size, 0, none⟩) hzr).trans e0
            have y1 := (hB2.frozen (p := ⟨w.heap.size, 1, none⟩) hzr).trans e1
            have hzi : w.heap.size < wr.heap.size := by omega
            have hbr2 : Below w.heap.size w wr := hbr.trans (hB2.mono (by omega))
            have hZE := Lib.hid hze
            clear hze d0 d1 e0 e1 hO2
            go_wp2_with fail
            exact bodyPost_ret (v := .tuple #[.agg #[.bool (neg s.toList), .string ⟨low.reverse.toArray⟩], .int .i64 0]) (by simp [results, Tryd.results68, go_sem, f0, f1, HN2.out]) rfl
              (parse_post_yes HE.out (by rw [← HM2.out, ByteArray.toList_mk]) ((hbr2.setCell (Nat.le_refl _) _).setCell (Nat.le_refl _) _))

theorem rparse_pos_bad (s : ByteArray) (w : World) (hs : s.size ≤ 9223372036854775807) (h0 : 0 < s.size) (hc : s[0] ≠ 45) (hd : digitsB (s.data.toList.drop 0) = false) :
    Calls Tryd.prog 68 #[.string s] w fun e w' => e = .returned (.tuple #[.agg #[.bool false, .string ⟨#[]⟩], .int .i64 20]) ∧ Below w.heap.size w w' := by
  have q0 : decide (0 < (s.size : Int)) = true := by simp; omega
  have q1 := u8_neb (n := 45) rfl hc
  have HD := Lib.hid hd
  clear hd hc
  go_enter Tryd.func68, Tryd.ntmps68
  go_wp2_with fail
  refine (digits_c s 0 _ (by simp) _ hs (by omega) false HD.out).mono ?_
  rintro e w1 ⟨rfl, hb1⟩
  obtain ⟨c0, c1, hz, hbw⟩ := num_cells hb1
  obtain ⟨g0, g1⟩ := num_free hb1
  clear hb1
  go_wp2_with fail
  exact bodyPost_ret (v := .tuple #[.agg #[.bool false, .string ⟨#[]⟩], .int .i64 20]) (by simp [results, Tryd.results68, go_sem, c0, c1]) rfl ⟨rfl, (hbw.setCell (Nat.le_refl _) _).setCell (Nat.le_refl _) _⟩

theorem rparse_pos_many (s : ByteArray) (w : World) (hs : s.size ≤ 9223372036854775807) (h0 : 0 < s.size) (hc : s[0] ≠ 45) (hd : digitsB (s.data.toList.drop 0) = true) (q2 : (s.toList == [45, 48]) = false) (hl : 620 < s.size - 0) :
    Calls Tryd.prog 68 #[.string s] w fun e w' => e = .returned (.tuple #[.agg #[.bool false, .string ⟨#[]⟩], .int .i64 21]) ∧ Below w.heap.size w w' := by
  have q0 : decide (0 < (s.size : Int)) = true := by simp; omega
  have q1 := u8_neb (n := 45) rfl hc
  have HD := Lib.hid hd
  have HDS := Lib.hid (rds_pos s h0 hc)
  clear hd hc
  have q3 : decide (620 < (s.size : Int) - 0) = true := by simp; omega
  go_enter Tryd.func68, Tryd.ntmps68
  go_wp2_with fail
  refine (digits_c s 0 _ (by simp) _ hs (by omega) true HD.out).mono ?_
  rintro e w1 ⟨rfl, hb1⟩
  obtain ⟨c0, c1, hz, hbw⟩ := num_cells hb1
  obtain ⟨g0, g1⟩ := num_free hb1
  clear hb1
  go_wp2_with fail
  exact bodyPost_ret (v := .tuple #[.agg #[.bool false, .string ⟨#[]⟩], .int .i64 21]) (by simp [results, Tryd.results68, go_sem, c0, c1]) rfl ⟨rfl, (hbw.setCell (Nat.le_refl _) _).setCell (Nat.le_refl _) _⟩

set_option maxRecDepth 100000 in
set_option maxHeartbeats 4000000 in
theorem rparse_pos_good (s : ByteArray) (w : World) (hs : s.size ≤ 9223372036854775807) (h0 : 0 < s.size) (hc : s[0] ≠ 45) (hd : digitsB (s.data.toList.drop 0) = true) (q2 : (s.toList == [45, 48]) = false) (hl : ¬ 620 < s.size - 0) :
    Calls Tryd.prog 68 #[.string s] w (ParsePost s w) := by
  have q0 : decide (0 < (s.size : Int)) = true := by simp; omega
  have q1 := u8_neb (n := 45) rfl hc
  have HD := Lib.hid hd
  have HDS := Lib.hid (rds_pos s h0 hc)
  clear hd hc
  have q3 : decide (620 < (s.size : Int) - 0) = false := by simp; omega
  go_enter Tryd.func68, Tryd.ntmps68
  go_wp2_with fail
  refine (digits_c s 0 _ (by simp) _ hs (by omega) true HD.out).mono ?_
  rintro e w1 ⟨rfl, hb1⟩
  obtain ⟨c0, c1, hz, hbw⟩ := num_cells hb1
  obtain ⟨g0, g1⟩ := num_free hb1
  clear hb1
  go_wp2_with fail
  go_loopw [5, 6] (fun v i wr => ∃ (k : Nat) (low : List UInt8), 0 ≤ k ∧ k ≤ s.size ∧ i = .int .i64 k ∧ low.length + 0 ≤ k ∧ OwnB wr w1.heap.size v low ∧ RowKit.Hid (low.reverse = magN (dv ((s.data.toList.drop 0).take (k - 0)))) ∧ Below w1.heap.size w1 wr ∧ w1.heap.size ≤ wr.heap.size) (fun _ i _ => s.size - (intOf i).toNat)
  case atStart => exact ⟨0, [], Nat.le_refl _, by omega, rfl, by simp, OwnB.nil _ _, Lib.hid (by simp [dv, magN_zero]), Below.refl _ _, Nat.le_refl _⟩
  case round =>
    obtain ⟨k, low, hfk, hk, rfl, hll, hO, HM, hB, hsz⟩ := hrel
    obtain ⟨a, cap, hv⟩ := hO.form2
    rw [hv] at hO ⊢
    clear hv
    by_cases hlt : k < s.size
    · have hdg : isDigit s[k] = true := by
        have h1 := HD.out
        rw [digitsB_all (by intro e; rw [e] at h1; cases h1) (by
          intro e
          rcases Nat.lt_or_ge 1 (s.data.toList.drop 0).length with h2 | h2
          · rw [digitsB_zero e h2] at h1; cases h1
          · exact h2), List.all_eq_true] at h1
        have h2 : s[k] = (s.data.toList.drop 0)[k - 0]'(by rw [drop_len]; omega) := by
          rw [List.getElem_drop]
          simp only [show 0 + (k - 0) = k by omega]
          rfl
        rw [h2]
        exact h1 _ (List.getElem_mem _)
      simp only [isDigit, Bool.and_eq_true, decide_eq_true_eq] at hdg
      obtain ⟨hd1, hd2⟩ := hdg
      have HV := Lib.hid (dv_take s 0 k hfk hlt)
      obtain ⟨D, hD⟩ : ∃ D, dv ((s.data.toList.drop 0).take (k - 0)) = D := ⟨_, rfl⟩
      rw [hD] at HM HV
      clear hD
      have HS := Lib.hid (show (mulNext low (s[k].toNat - 48)).reverse = magN (dv ((s.data.toList.drop 0).take (k + 1 - 0))) by
        rw [HV.out]; exact mulNext_mag low _ D (by omega) HM.out)
      clear HV
      obtain ⟨wo, hwo⟩ : ∃ wo : World, wo = wr := ⟨_, rfl⟩
      subst hwo
      go_wp2_with fail
      go_loopw [7, 8] (fun c y wi => ∃ j cr : Nat, j ≤ low.length ∧ y = .int .i64 j ∧ c = .int .i64 cr ∧ cr ≤ 9 ∧ RowKit.Hid (cr = (mulLow (low.take j) (s[k].toNat - 48)).2) ∧ OwnB wi w1.heap.size (.slice a low.length cap) (mlTo low (s[k].toNat - 48) j) ∧ Below w1.heap.size w1 wi ∧ w1.heap.size ≤ wi.heap.size) (fun _ y _ => low.length - (intOf y).toNat)
      case atStart => exact ⟨0, s[k].toNat - 48, Nat.zero_le _, rfl, by go_num, by omega, Lib.hid rfl, by rw [mlTo_zero]; exact hO, hB, hsz⟩
      case round =>
        clear hO hB hsz
        obtain ⟨j, cr, hj, rfl, rfl, hcr, HC, hO, hB, hsz⟩ := hrel
        by_cases hjl : j < low.length
        · have hml : (mlTo low (s[k].toNat - 48) j).length = low.length := mlTo_length _ _ _ hj
          have HML := Lib.hid hml
          obtain ⟨g, hg, hgb, hgl⟩ := hO.at_ (by rw [hml]; omega)
          subst hg
          have hc2 := hO.row.cell j (by rw [hml]; exact hjl)
          have hf2 := hO.row.frozen j (by rw [hml]; exact hjl)
          rw [mlTo_get _ _ _ hjl (by rw [hml]; exact hjl)] at hc2
          have HST := Lib.hid (mlTo_step low (s[k].toNat - 48) j hjl)
          rw [← HC.out] at HST
          obtain ⟨x, hx⟩ : ∃ x, low[j] = x := ⟨_, rfl⟩
          rw [hx] at hc2 HST
          have hxb := x.toNat_lt
          have HR2 := Lib.hid (hO.set hml.symm j (UInt8.ofNat (10 * x.toNat + cr)))
          have HB2 := Lib.hid (hB.setCell (p := ⟨g, j, none⟩) hgb (.int .u8 ((UInt8.ofNat (10 * x.toNat + cr)).toNat : Int)))
          rw [mul_byte] at HR2 HB2
          clear hx hml hO hB HC
          go_wp2_with fail
          go_roundw
          case rel => exact ⟨j + 1, (10 * x.toNat + cr) / 256, by omega, by go_num, by go_num, by omega, Lib.hid HST.out.2.symm, by rw [← HST.out.1]; exact HR2.out, HB2.out, by simpa [World.setCell] using hsz⟩
          case measure => simp [intOf]; omega
        · rw [mlTo_end _ _ _ (by omega)] at hO
          have HC2 := Lib.hid (show cr = (mulLow low (s[k].toNat - 48)).2 by rw [HC.out, List.take_of_length_le (by omega)])
          have hml := mulLow_length low (s[k].toNat - 48)
          clear HC
          by_cases hc0 : 0 < cr
          · have HN := Lib.hid (show mulNext low (s[k].toNat - 48) = (mulLow low (s[k].toNat - 48)).1 ++ [UInt8.ofNat cr] by unfold mulNext; rw [← HC2.out, if_pos hc0])
            have HU := Lib.hid (ofNat_toNat cr (by omega))
            have hnl := mulNext_length low (s[k].toNat - 48)
            have HML := Lib.hid hml
            have hol : (mulLow low (s[k].toNat - 48)).1.length ≤ 620 := by omega
            clear hml
            go_wp2_with (at_builtin; refine wpList_append_bytes rfl (.tmp 71) (.tmp 74) 111 rfl Tryd.underlying111 Tryd.info5 rfl (hO.alloc _) _ [UInt8.ofNat cr] 1 _ rfl rfl (bv_cells_oneI _ _ _ HU.out) (by omega) (hB.alloc hsz _) (by simp; omega) ?_; intro v7 w7 hO7 hB7 hs7)
            go_roundw
            case rel => exact ⟨k + 1, mulNext low (s[k].toNat - 48), by omega, by omega, by go_num, by omega, by rw [HN.out]; exact hO7, HS, hB7, hs7⟩
            case measure => simp [intOf]; omega
          · have hcz : cr = 0 := by omega
            have HN := Lib.hid (show mulNext low (s[k].toNat - 48) = (mulLow low (s[k].toNat - 48)).1 by unfold mulNext; rw [← HC2.out, if_neg hc0])
            have hnl := mulNext_length low (s[k].toNat - 48)
            have HML := Lib.hid hml
            subst hcz
            clear hml
            go_wp2_with fail
            go_roundw
            case rel => exact ⟨k + 1, mulNext low (s[k].toNat - 48), by omega, by omega, by go_num, by omega, by rw [HN.out]; exact hO, HS, hB, hsz⟩
            case measure => simp [intOf]; omega
    · have HM2 := Lib.hid (show low.reverse = magN (dv (ds s.toList)) by rw [HM.out, HDS.out.1, List.take_of_length_le (by rw [drop_len]; omega)])
      have HG := Lib.hid (show good s.toList = true by rw [good_digitsB, HDS.out.1, HD.out, q2]; rfl)
      have HN2 := Lib.hid (HDS.out.2)
      have hlm : (magN (dv (ds s.toList))).length = low.length := by rw [← HM2.out, List.length_reverse]
      have HLM := Lib.hid hlm
      clear hlm HM HD HDS
      have d0 : wr.cell? ⟨w.heap.size, 0, none⟩ = some (.bool false) := (hB.cell (p := ⟨w.heap.size, 0, none⟩) hz).trans c0
      have d1 : wr.cell? ⟨w.heap.size, 1, none⟩ = some (.string ⟨#[]⟩) := (hB.cell (p := ⟨w.heap.size, 1, none⟩) hz).trans c1
      have e0 : wr.frozen? ⟨w.heap.size, 0, none⟩ = false := (hB.frozen (p := ⟨w.heap.size, 0, none⟩) hz).trans g0
      have e1 : wr.frozen? ⟨w.heap.size, 1, none⟩ = false := (hB.frozen (p := ⟨w.heap.size, 1, none⟩) hz).trans g1
      have hzr : w.heap.size < wr.heap.size := by omega
      have hbr : Below w.heap.size w wr := hbw.trans (hB.mono (Nat.le_of_lt hz))
      clear c0 c1 g0 g1 hbw hB
      by_cases hbig : 255 < low.length
      · have HE := Lib.hid (show parseE s.toList = 21 from parseE_long HG.out (by rw [HLM.out]; exact hbig))
        clear hO
        go_wp2_with fail
        exact bodyPost_ret (v := .tuple #[.agg #[.bool false, .string ⟨#[]⟩], .int .i64 21]) (by simp [results, Tryd.results68, go_sem, d0, d1]) rfl
          (parse_post_no HE.out (by decide) ((hbr.setCell (Nat.le_refl _) _).setCell (Nat.le_refl _) _))
      · have HE := Lib.hid (show parseE s.toList = 0 from parseE_ok HG.out (by rw [HLM.out]; exact hbig))
        have hb32 : decide ((255 : Int) < (low.length : Int)) = false := by simp; omega
        obtain ⟨W1, hW1⟩ : ∃ W1 : World, W1 = wr := ⟨_, rfl⟩
        subst hW1
        have HO := Lib.hid hO
        clear hO
        go_wp2_with fail
        go_loopw [10, 11] (fun v y wi => ∃ z : Int, -1 ≤ z ∧ z < low.length ∧ y = .int .i64 z ∧ OwnB wi W1.heap.size v (low.reverse.take (low.length - (z + 1).toNat)) ∧ Below W1.heap.size W1 wi ∧ W1.heap.size ≤ wi.heap.size) (fun _ y _ => (intOf y + 1).toNat)
        case atStart => exact ⟨(low.length : Int) - 1, by omega, by omega, rfl, by rw [show low.length - ((low.length : Int) - 1 + 1).toNat = 0 by omega]; exact OwnB.nil _ _, Below.refl _ _, Nat.le_refl _⟩
        case round =>
          obtain ⟨z, hz1, hz2, rfl, hO2, hB2, hs2⟩ := hrel
          by_cases hz0 : 0 ≤ z
          · obtain ⟨j, rfl⟩ := Int.eq_ofNat_of_zero_le hz0
            have hjl : j < low.length := by omega
            obtain ⟨g, hg, hgb, hgl⟩ := HO.out.at_ (by omega)
            subst hg
            have hc2 := (HO.out.row.below hB2 hgl).cell j hjl
            have HT := Lib.hid (take_rev low j hjl)
            rw [show low.length - ((j : Int) + 1).toNat = low.length - 1 - j by omega] at hO2
            have hol : (low.reverse.take (low.length - 1 - j)).length ≤ 255 := by simp; omega
            obtain ⟨b, hb⟩ : ∃ b, low[j] = b := ⟨_, rfl⟩
            rw [hb] at hc2 HT
            clear hb
            go_wp2_with (at_builtin; refine wpList_append_bytes rfl (.tmp 87) (.tmp 92) 111 rfl Tryd.underlying111 Tryd.info5 rfl (hO2.alloc _) _ [b] 1 _ rfl rfl (bv_cells_oneI _ _ _ rfl) (by omega) (hB2.alloc hs2 _) (by simp; omega) ?_; intro v7 w7 hO7 hB7 hs7)
            refine ⟨?_, by simp [intOf]⟩
            first
              | exact ⟨(j : Int) - 1, by omega, by omega, rfl, by rw [show low.length - ((j : Int) - 1 + 1).toNat = low.length - 1 - j + 1 by omega, HT.out]; exact hO7, hB7, hs7⟩
              | ((repeat apply Exists.intro); exact ⟨⟨(j : Int) - 1, by omega, by omega, rfl, by rw [show low.length - ((j : Int) - 1 + 1).toNat = low.length - 1 - j + 1 by omega, HT.out]; exact hO7, hB7, hs7⟩, rfl⟩)
          · have hze : low.length - (z + 1).toNat = low.length := by omega
            rw [hze, List.take_of_length_le (by simp)] at hO2
            have hcv := hO2.conv 111 9 Tryd.underlying111 Tryd.underlying5 Tryd.underlying9
            have f0 := (hB2.cell (p := ⟨w.heap.size, 0, none⟩) hzr).trans d0
            have f1 := (hB2.cell (p := ⟨w.heap.size, 1, none⟩) hzr).trans d1
            have y0 := (hB2.frozen (p := ⟨w.heap.size, 0, none⟩) hzr).trans e0
            have y1 := (hB2.frozen (p := ⟨w.heap.size, 1, none⟩) hzr).trans e1
            have hzi : w.heap.size < wr.heap.size := by omega
            have hbr2 : Below w.heap.size w wr := hbr.trans (hB2.mono (by omega))
            have hZE := Lib.hid hze
            clear hze d0 d1 e0 e1 hO2
            go_wp2_with fail
            exact bodyPost_ret (v := .tuple #[.agg #[.bool (neg s.toList), .string ⟨low.reverse.toArray⟩], .int .i64 0]) (by simp [results, Tryd.results68, go_sem, f0, f1, HN2.out]) rfl
              (parse_post_yes HE.out (by rw [← HM2.out, ByteArray.toList_mk]) ((hbr2.setCell (Nat.le_refl _) _).setCell (Nat.le_refl _) _))

theorem long_620 {s : ByteArray} {f : Nat} (hg : good s.toList = true) (hd : ds s.toList = s.data.toList.drop f) (hl : 620 < s.size - f) : parseE s.toList = 21 := by
  obtain ⟨n, hn⟩ : ∃ n, n = 620 := ⟨_, rfl⟩
  have h1 : s.toList ≠ [48] := by
    intro e
    have := size_of s
    rw [e] at this
    simp at this
    omega
  exact parseE_long hg (long_of hg n (by rw [hd, drop_len]; omega) (pow_long n hn) h1)
/-- Every text. -/
theorem rparse_any (s : ByteArray) (w : World) (hs : s.size ≤ 9223372036854775807) : Calls Tryd.prog 68 #[.string s] w (ParsePost s w) := by
  have bad : good s.toList = false → (Calls Tryd.prog 68 #[.string s] w fun e w' => e = .returned (.tuple #[.agg #[.bool false, .string ⟨#[]⟩], .int .i64 20]) ∧ Below w.heap.size w w') → Calls Tryd.prog 68 #[.string s] w (ParsePost s w) :=
    fun hg h => h.mono fun e w' ⟨he, hb⟩ => he ▸ parse_post_no (parseE_bad hg) (by decide) hb
  have many : parseE s.toList = 21 → (Calls Tryd.prog 68 #[.string s] w fun e w' => e = .returned (.tuple #[.agg #[.bool false, .string ⟨#[]⟩], .int .i64 21]) ∧ Below w.heap.size w w') → Calls Tryd.prog 68 #[.string s] w (ParsePost s w) :=
    fun hg h => h.mono fun e w' ⟨he, hb⟩ => he ▸ parse_post_no hg (by decide) hb
  by_cases h0 : 0 < s.size
  · by_cases hc : s[0] = 45
    · have hds := (rds_neg s h0 hc).1
      cases hd : digitsB (s.data.toList.drop 1) with
      | false => exact bad (by rw [good_digitsB, hds, hd]; rfl) (rparse_neg_bad s w hs h0 hc hd)
      | true =>
        by_cases hz : s.toList = [45, 48]
        · exact bad (by rw [hz]; decide) (rparse_neg_zero s w hs h0 hc hd hz)
        · have q2 : (s.toList == [45, 48]) = false := by simpa using hz
          by_cases hl : 620 < s.size - 1
          · exact many (long_620 (by rw [good_digitsB, hds, hd, q2]; rfl) hds hl) (rparse_neg_many s w hs h0 hc hd q2 hl)
          · exact rparse_neg_good s w hs h0 hc hd q2 hl
    · have hds := (rds_pos s h0 hc).1
      have q2 := not_minus0 s h0 hc
      cases hd : digitsB (s.data.toList.drop 0) with
      | false => exact bad (by rw [good_digitsB, hds, hd]; rfl) (rparse_pos_bad s w hs h0 hc hd)
      | true =>
        by_cases hl : 620 < s.size - 0
        · exact many (long_620 (by rw [good_digitsB, hds, hd, q2]; rfl) hds hl) (rparse_pos_many s w hs h0 hc hd q2 hl)
        · exact rparse_pos_good s w hs h0 hc hd q2 hl
  · have h00 : s.size = 0 := by omega
    refine bad ?_ (rparse_nil s w h00)
    have e : s.toList = [] := List.eq_nil_of_length_eq_zero (by rw [size_of]; exact h00)
    rw [e]; decide
end Go.Proofs.YtcgphlilijeifaaDoor
end
