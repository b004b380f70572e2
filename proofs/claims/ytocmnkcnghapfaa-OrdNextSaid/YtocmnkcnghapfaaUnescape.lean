/-
  The contract of ord.Unescape: what is read from a place on, for every text and place (a text of at most 2^40 bytes).
-/
import Derived.Test.YtocmnkcnghapfaaEscape
namespace Go.Proofs.Ytocmnkcnghapfaa
open Go.RowKit

theorem unescape_out (s : ByteArray) (i : Int) (w : World) (_hs : s.size ≤ 1099511627776) (hi : i < 0 ∨ (s.size : Int) < i) :
    Calls Try.prog 11 #[.string s, .int .i64 i] w fun e w' => e = .returned (.tuple #[.string ⟨#[]⟩, .int .i64 0, .int .i64 1]) ∧ Below w.heap.size w w' := by
  by_cases h0 : i < 0
  · go_enter Try.func11, Try.ntmps11
    go_wp2
    go_ret3
    exact ⟨rfl, Below.refl _ _⟩
  · have h1 : (s.size : Int) < i := by omega
    clear hi
    go_enter Try.func11, Try.ntmps11
    go_wp2
    go_ret3
    exact ⟨rfl, Below.refl _ _⟩

theorem ret_un {t t' : List UInt8} {n n' : Int} {c c' : Int} (h1 : t = t') (h2 : n = n') (h3 : c = c') :
    Ending.returned (.tuple #[.string ⟨t.toArray⟩, .int .i64 n, .int .i64 c]) = Ending.returned (.tuple #[.string ⟨t'.toArray⟩, .int .i64 n', .int .i64 c']) := by rw [h1, h2, h3]

theorem u8_eq {c : UInt8} (d : UInt8) {n : Int} (hn : (d.toNat : Int) = n) (h : ((c.toNat : Int) == n) = true) : c = d := by
  rw [← hn] at h
  have h1 : (c.toNat : Int) = d.toNat := by simpa using h
  exact UInt8.toNat_inj.1 (by omega)
theorem u8_ne {c : UInt8} (d : UInt8) {n : Int} (hn : (d.toNat : Int) = n) (h : ((c.toNat : Int) == n) = false) : c ≠ d := by
  rintro rfl
  rw [hn] at h
  simp at h

section
variable {s : ByteArray} {l : List UInt8} {j k : Nat} {r : List UInt8 × Nat × Int}
theorem st_zero (HC : comb l j (un (s.data.toList.drop k)) = r) (h2 : k + 1 < s.size) (hc : s[k] = 0) (hd : s[k + 1] = 255) : comb (l ++ [0]) (j + 2) (un (s.data.toList.drop (k + 2))) = r := by
  rw [← HC, drop_cons s k (by omega), drop_cons s (k + 1) h2, hc, hd, comb_zero]
theorem st_done (HC : comb l j (un (s.data.toList.drop k)) = r) (h2 : k + 1 < s.size) (hc : s[k] = 0) (hd : s[k + 1] = 1) : r = (l, j + 2, 0) := by
  rw [← HC, drop_cons s k (by omega), drop_cons s (k + 1) h2, hc, hd, comb_done]
theorem st_bad (HC : comb l j (un (s.data.toList.drop k)) = r) (h2 : k + 1 < s.size) (hc : s[k] = 0) (hd : s[k + 1] ≠ 255) (hd1 : s[k + 1] ≠ 1) : r = ([], j + 1, 10) := by
  rw [← HC, drop_cons s k (by omega), drop_cons s (k + 1) h2, hc, comb_bad _ _ _ _ hd hd1]
theorem st_short (HC : comb l j (un (s.data.toList.drop k)) = r) (h1 : k < s.size) (h2 : ¬ k + 1 < s.size) (hc : s[k] = 0) : r = ([], j + 1, 10) := by
  rw [← HC, drop_cons s k h1, drop_end s (k + 1) h2, hc, comb_short]
theorem st_one (HC : comb l j (un (s.data.toList.drop k)) = r) (h1 : k < s.size) (hc : ¬ s[k] = 0) : comb (l ++ [s[k]]) (j + 1) (un (s.data.toList.drop (k + 1))) = r := by
  rw [← HC, drop_cons s k h1, comb_one _ _ _ _ hc]
theorem st_end (HC : comb l j (un (s.data.toList.drop k)) = r) (h1 : ¬ k < s.size) : r = ([], j, 10) := by
  rw [← HC, drop_end s k h1, comb_empty]
end

theorem unescape_in (s : ByteArray) (at0 : Nat) (w : World) (hs : s.size ≤ 1099511627776) (ha : at0 ≤ s.size) (r : List UInt8 × Nat × Int) (hr : un (s.data.toList.drop at0) = r) :
    Calls Try.prog 11 #[.string s, .int .i64 at0] w fun e w' => e = .returned (.tuple #[.string ⟨r.1.toArray⟩, .int .i64 (at0 + r.2.1 : Nat), .int .i64 r.2.2]) ∧ Below w.heap.size w w' := by
  have h0 : ¬ (at0 : Int) < 0 := by omega
  have h1 : ¬ (s.size : Int) < at0 := by omega
  have HR := Lib.hid hr
  clear hr
  go_enter Try.func11, Try.ntmps11
  go_wp2
  go_loopw [1, 7] (fun i v wr => ∃ (k : Nat) (l : List UInt8), at0 ≤ k ∧ k ≤ s.size ∧ l.length ≤ k - at0 ∧ i = .int .i64 k ∧ OwnB wr w.heap.size v l ∧ Below w.heap.size w wr ∧ RowKit.Hid (comb l (k - at0) (un (s.data.toList.drop k)) = r)) (fun i _ _ => s.size - (intOf i).toNat)
  case atStart => exact ⟨at0, [], Nat.le_refl _, ha, Nat.zero_le _, rfl, OwnB.nil _ _, Below.refl _ _, by have := HR.out; rw [Nat.sub_self, comb_nil]; exact Lib.hid this⟩
  case round =>
    obtain ⟨k, l, hak, hk, hl, rfl, hO, hB, HC⟩ := hrel
    clear h0 h1 HR
    have hsz := hB.size
    by_cases hlt : k < s.size
    · by_cases hc : s[k] = 0
      · have hc1 : ((s[k].toNat : Int) != 0) = false := by simp [hc]
        by_cases h2 : k + 1 < s.size
        · have hcv := hO.conv 33 9 Try.underlying33 Try.underlying5 Try.underlying9
          go_wp2_with (at_builtin; refine wpList_append_bytes rfl (.tmp 44) (.tmp 45) 33 rfl Try.underlying33 Try.info5 rfl (hO.alloc _) _ [0] 1 _ rfl rfl (bv_cells_one _ 0 _) (by omega) (hB.alloc hB.size _) (by simp; have := hB.size; omega) ?_; intro v2 w2 hO2 hB2 hs2)
          · have hd := u8_eq (c := s[k + 1]) 255 rfl (by assumption)
            go_roundw
            case rel => exact ⟨k + 2, l ++ [0], by omega, by omega, by simp; omega, by go_num, hO2, hB2, by have := st_zero HC.out h2 hc hd; rw [show k - at0 + 2 = k + 2 - at0 from by omega] at this; exact Lib.hid this⟩
            case measure => simp [intOf]; omega
          · have hd := u8_eq (c := s[k + 1]) 1 rfl (by assumption)
            have hr := st_done HC.out h2 hc hd
            go_ret3
            exact ⟨ret_un (by rw [hr]) (by rw [hr]; simp; omega) (by rw [hr]), hB⟩
          · have hd := u8_ne (c := s[k + 1]) 255 rfl (by assumption)
            have hd1 := u8_ne (c := s[k + 1]) 1 rfl (by assumption)
            have hr := st_bad HC.out h2 hc hd hd1
            go_ret3
            exact ⟨ret_un (by rw [hr]) (by rw [hr]; simp; omega) (by rw [hr]), hB⟩
        · have h3 : s.size ≤ k + 1 := by omega
          go_wp2
          have hr := st_short HC.out hlt h2 hc
          go_ret3
          exact ⟨ret_un (by rw [hr]) (by rw [hr]; simp; omega) (by rw [hr]), hB⟩
      · have hc1 : ((s[k].toNat : Int) != 0) = true := by
          have : ¬ s[k].toNat = 0 := fun h => hc (UInt8.toNat_inj.1 (by simpa using h))
          simp; omega
        go_wp2_with (at_builtin; refine wpList_append_bytes rfl (.tmp 24) (.tmp 28) 33 rfl Try.underlying33 Try.info5 rfl (hO.alloc _) _ [s[k]] 1 _ rfl rfl (bv_cells_one _ _ _) (by omega) (hB.alloc hB.size _) (by simp; have := hB.size; omega) ?_; intro v2 w2 hO2 hB2 hs2)
        go_roundw
        case rel => exact ⟨k + 1, l ++ [s[k]], by omega, by omega, by simp; omega, by go_num, hO2, hB2, by have := st_one HC.out hlt hc; rw [show k - at0 + 1 = k + 1 - at0 from by omega] at this; exact Lib.hid this⟩
        case measure => simp [intOf]; omega
    · go_wp2
      have hr := st_end HC.out hlt
      go_ret3
      exact ⟨ret_un (by rw [hr]) (by rw [hr]; simp; omega) (by rw [hr]), hB⟩
end Go.Proofs.Ytocmnkcnghapfaa
