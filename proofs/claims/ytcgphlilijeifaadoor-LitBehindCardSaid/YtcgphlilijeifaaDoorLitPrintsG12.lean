import Derived.Test.YtcgphlilijeifaaDoorRows
import Derived.WalkSpells
import Derived.WalkLawsBesides
import Derived.Lib.Hide
import Derived.Lib.Strings
import Derived.Test.YtcgphlilijeifaaDoorLitPrintsG7
import Derived.Test.YtcgphlilijeifaaDoorLitPrintsG0
section
/-
  The contracts of nat.Check and of the document's Check: every number.
-/
namespace Go.Proofs.YtcgphlilijeifaaDoor
open Go.RowKit

theorem two {W a b : World} (h : Below W.heap.size W a) (k : Below a.heap.size a b) : Below W.heap.size W b := h.trans (k.mono h.size)
theorem size_of (s : ByteArray) : s.toList.length = s.size := by rw [Lib.toList_data, Lib.size_eq]
theorem nil_of_size {s : ByteArray} (h : ¬ 0 < s.size) : s.toList = [] := List.eq_nil_of_length_eq_zero (by rw [size_of]; omega)
theorem head_of (s : ByteArray) (h : 0 < s.size) : s.toList.head? = some s[0] := by
  rw [Lib.toList_data]
  have := drop_cons s 0 h
  rw [List.drop_zero] at this
  rw [this]; rfl
theorem u8_eq {c : UInt8} (d : UInt8) {n : Int} (hn : (d.toNat : Int) = n) (h : ((c.toNat : Int) == n) = true) : c = d := by
  rw [← hn] at h
  have h1 : (c.toNat : Int) = d.toNat := by simpa using h
  exact UInt8.toNat_inj.1 (by omega)
theorem u8_ne {c : UInt8} (d : UInt8) {n : Int} (hn : (d.toNat : Int) = n) (h : ((c.toNat : Int) == n) = false) : c ≠ d := by
  rintro rfl
  rw [hn] at h
  simp at h
theorem u8_eqb {c d : UInt8} {n : Int} (hn : (d.toNat : Int) = n) (h : c = d) : ((c.toNat : Int) == n) = true := by subst h hn; simp
theorem u8_neb {c d : UInt8} {n : Int} (hn : (d.toNat : Int) = n) (h : ¬ c = d) : ((c.toNat : Int) == n) = false := by
  rw [← hn, beq_eq_false_iff_ne]
  exact fun e => h (UInt8.toNat_inj.1 (by omega))

theorem check_any (b : Bool) (s : ByteArray) (w : World) (_hs : s.size ≤ 9223372036854775807) (r : Int) (hr : chk b s.toList = r) :
    Calls Tryd.prog 22 #[.agg #[.bool b, .string s]] w fun e w' => e = .returned (.int .i64 r) ∧ Below w.heap.size w w' := by
  by_cases h1 : 255 < s.size
  · rw [chk_long (by rw [size_of]; exact h1)] at hr
    subst hr
    go_enter Tryd.func22, Tryd.ntmps22
    go_wp2
    go_ret
    exact ⟨rfl, (Below.refl _ _).alloc (Nat.le_refl _) _⟩
  · by_cases h2 : 0 < s.size
    · have hne : s.toList.isEmpty = false := by
        cases h : s.toList with
        | nil => have := size_of s; rw [h] at this; simp at this; omega
        | cons _ _ => rfl
      by_cases h3 : s[0] = 0
      · rw [chk_zero (by rw [size_of]; exact h1) (by rw [head_of s h2, h3])] at hr
        have h4 := u8_eqb (n := 0) rfl h3
        subst hr
        clear h3
        go_enter Tryd.func22, Tryd.ntmps22
        go_wp2
        go_ret
        exact ⟨rfl, (Below.refl _ _).alloc (Nat.le_refl _) _⟩
      · rw [chk_ok (by rw [size_of]; exact h1) (by intro e; rw [e] at hne; simp at hne) (by rw [head_of s h2]; simpa using h3)] at hr
        have h4 := u8_neb (n := 0) rfl h3
        subst hr
        clear h3
        go_enter Tryd.func22, Tryd.ntmps22
        go_wp2
        go_ret
        exact ⟨rfl, (Below.refl _ _).alloc (Nat.le_refl _) _⟩
    · have he := nil_of_size h2
      have hne : s.toList.isEmpty = true := by rw [he]; rfl
      cases b
      · rw [chk_nil he] at hr
        subst hr
        clear he
        go_enter Tryd.func22, Tryd.ntmps22
        go_wp2
        go_ret
        exact ⟨rfl, (Below.refl _ _).alloc (Nat.le_refl _) _⟩
      · rw [chk_nil_below he] at hr
        subst hr
        clear he
        go_enter Tryd.func22, Tryd.ntmps22
        go_wp2
        go_ret
        exact ⟨rfl, (Below.refl _ _).alloc (Nat.le_refl _) _⟩
end Go.Proofs.YtcgphlilijeifaaDoor
end
section
/-
  The contract of nat.Put: the number's bytes, for every number that may be; else Check's error.
-/
namespace Go.Proofs.YtcgphlilijeifaaDoor
open Go.RowKit

theorem Tryd.info5 : (Tryd.prog.info? 5).map (fun i => (i.zero, i.size, i.bytes)) = some (some (.int .u8 0), 1, 1) := by kernel_rfl
theorem conv1 (w : World) (c : UInt8) (x : Int) (hx : (c.toNat : Int) = x) :
    (convert 111 9 (.slice (some ⟨w.heap.size, 0, none⟩) 1 1)).run Tryd.prog (w.alloc (.cells #[.int .u8 x] 5)) = .ok (.string ⟨#[c]⟩) (w.alloc (.cells #[.int .u8 x] 5)) := by
  refine run_convert_bytes_back (P := Tryd.prog) _ 111 9 5 ⟨w.heap.size, 0, none⟩ 1 [c] Tryd.underlying111 Tryd.underlying5 Tryd.underlying9 (fun j hj => ?_)
  subst hx
  have hj0 : j = 0 := by simpa using hj
  subst hj0
  exact one_cell w _ 5 0 _ rfl
theorem conv2 (w : World) (c d : UInt8) (x y : Int) (hx : (c.toNat : Int) = x) (hy : (d.toNat : Int) = y) :
    (convert 111 9 (.slice (some ⟨w.heap.size, 0, none⟩) 2 2)).run Tryd.prog (w.alloc (.cells #[.int .u8 x, .int .u8 y] 5)) = .ok (.string ⟨#[c, d]⟩) (w.alloc (.cells #[.int .u8 x, .int .u8 y] 5)) := by
  refine run_convert_bytes_back (P := Tryd.prog) _ 111 9 5 ⟨w.heap.size, 0, none⟩ 2 [c, d] Tryd.underlying111 Tryd.underlying5 Tryd.underlying9 (fun j hj => ?_)
  subst hx hy
  have : j = 0 ∨ j = 1 := by simp at hj; omega
  rcases this with rfl | rfl
  · exact two_cells w _ _ 5 0 _ rfl
  · exact two_cells w _ _ 5 1 _ rfl
/-- A slice that was built of one byte, of two. -/
theorem ownB_one (w : World) (base : Nat) (c : UInt8) (x : Int) (hx : (c.toNat : Int) = x) (hb : base ≤ w.heap.size) : OwnB (w.alloc (.cells #[.int .u8 x] 5)) base (.slice (some ⟨w.heap.size, 0, none⟩) 1 1) [c] := by
  subst hx
  exact ⟨rfl, .inr ⟨w.heap.size, 1, _, rfl, hb, heap_alloc_new w _, Nat.le_refl _, by unfold maxLen; omega, rfl, rfl⟩⟩
theorem ownB_two (w : World) (base : Nat) (c d : UInt8) (x y : Int) (hx : (c.toNat : Int) = x) (hy : (d.toNat : Int) = y) (hb : base ≤ w.heap.size) : OwnB (w.alloc (.cells #[.int .u8 x, .int .u8 y] 5)) base (.slice (some ⟨w.heap.size, 0, none⟩) 2 2) [c, d] := by
  subst hx hy
  exact ⟨rfl, .inr ⟨w.heap.size, 2, _, rfl, hb, heap_alloc_new w _, Nat.le_refl _, by unfold maxLen; omega, rfl, rfl⟩⟩

theorem app_list (a b : ByteArray) : (a ++ b).toList = a.toList ++ b.toList := by
  rw [Lib.toList_data, Lib.toList_data, Lib.toList_data, ByteArray.data_append, Array.toList_append]
theorem app_size (a b : ByteArray) : (a ++ b).size = a.size + b.size := by
  rw [← size_of, app_list, List.length_append, size_of, size_of]

/-- A number that was laid in a new block, behind a call. -/
theorem num_cells {w w1 : World} {b : Bool} {s : ByteArray} {T : TypeId} (hb : Below (w.alloc (.cells #[.bool b, .string s] T)).heap.size (w.alloc (.cells #[.bool b, .string s] T)) w1) :
    w1.cell? ⟨w.heap.size, 0, none⟩ = some (.bool b) ∧ w1.cell? ⟨w.heap.size, 1, none⟩ = some (.string s) ∧ w.heap.size < w1.heap.size ∧ Below w.heap.size w w1 :=
  ⟨(hb.cell (p := ⟨w.heap.size, 0, none⟩) (by simp)).trans (by simp), (hb.cell (p := ⟨w.heap.size, 1, none⟩) (by simp)).trans (by simp),
    by have := hb.size; simp at this; omega, ((Below.refl _ _).alloc (Nat.le_refl _) _).trans (hb.mono (by simp))⟩

theorem put_bad (b : Bool) (s : ByteArray) (w : World) (hs : s.size ≤ 9223372036854775807) (r : Int) (hr : chk b s.toList = r) (_h0 : (r == 0) = false) (h1 : (r != 0) = true) :
    Calls Tryd.prog 23 #[.agg #[.bool b, .string s]] w fun e w' => e = .returned (.tuple #[.string ⟨#[]⟩, .int .i64 r]) ∧ Below w.heap.size w w' := by
  have HR := Lib.hid hr
  clear hr
  go_enter Tryd.func23, Tryd.ntmps23
  go_wp2_with fail
  refine (check_any b s _ hs r HR.out).mono ?_
  rintro e w1 ⟨rfl, hb1⟩
  go_wp2
  go_ret2
  exact ⟨rfl, (num_cells hb1).2.2.2⟩

theorem one_byte (n : Nat) (h : n < 256) : ∃ c : UInt8, (c.toNat : Int) = n ∧ Hid (c = UInt8.ofNat n) := ⟨UInt8.ofNat n, ofNat_toNat _ h, rfl⟩
theorem bytes1 (c : UInt8) : (⟨#[c]⟩ : ByteArray).toList = [c] := by rw [Lib.toList_data]
theorem bytes2 (c d : UInt8) : (⟨#[c, d]⟩ : ByteArray).toList = [c, d] := by rw [Lib.toList_data]

set_option maxRecDepth 100000 in
theorem put_plus (s : ByteArray) (w : World) (hr : chk false s.toList = 0) :
    Calls Tryd.prog 23 #[.agg #[.bool false, .string s]] w fun e w' => ∃ p : ByteArray, e = .returned (.tuple #[.string p, .int .i64 0]) ∧ Hid (p.toList = putBytes false s.toList) ∧ Below w.heap.size w w' := by
  have hlen := (chk_zero_iff.1 hr).1
  rw [size_of] at hlen
  have HR := Lib.hid hr
  clear hr
  by_cases hk : s.size ≤ 126
  · go_enter Tryd.func23, Tryd.ntmps23
    go_wp2_with fail
    refine (check_any false s _ (by omega) 0 HR.out).mono ?_
    rintro e w1 ⟨rfl, hb1⟩
    obtain ⟨hc0, hc1, hz, hbw⟩ := num_cells hb1
    obtain ⟨c, hc, HC⟩ := one_byte (128 + s.size) (by omega)
    have hcv := conv1 w1 c (128 + s.size) (by rw [hc]; simp)
    clear hc
    go_wp2
    go_ret2
    exact ⟨_, rfl, Lib.hid (by rw [app_list, bytes1, HC.out, putBytes, putHead, size_of]; simp [hk]), hbw.alloc hbw.size _⟩
  · go_enter Tryd.func23, Tryd.ntmps23
    go_wp2_with fail
    refine (check_any false s _ (by omega) 0 HR.out).mono ?_
    rintro e w1 ⟨rfl, hb1⟩
    obtain ⟨hc0, hc1, hz, hbw⟩ := num_cells hb1
    obtain ⟨c, hc, HC⟩ := one_byte s.size (by omega)
    have hcv := conv2 w1 255 c 255 s.size rfl hc
    clear hc
    go_wp2
    go_ret2
    exact ⟨_, rfl, Lib.hid (by rw [app_list, bytes2, HC.out, putBytes, putHead, size_of]; simp [hk]), hbw.alloc hbw.size _⟩

/-- A head, and the first k bytes turned. -/
def turned (h : List UInt8) (l : List UInt8) (k : Nat) : List UInt8 := h ++ (l.take k).map (255 - ·)
theorem turned_zero (h l : List UInt8) : turned h l 0 = h := by simp [turned]
theorem turned_succ (h : List UInt8) (s : ByteArray) (k : Nat) (hk : k < s.size) : turned h s.data.toList (k + 1) = turned h s.data.toList k ++ [255 - s[k]] := by
  rw [turned, take_snoc s k hk, turned]; simp
theorem turned_end (h : List UInt8) (s : ByteArray) (k : Nat) (hk : ¬ k < s.size) : turned h s.data.toList k = h ++ s.data.toList.map (255 - ·) := by
  rw [turned, take_end s k hk]
theorem turned_len (h l : List UInt8) (k : Nat) : (turned h l k).length ≤ h.length + k := by
  have := List.length_take_le k l
  simp only [turned, List.length_append, List.length_map]; omega
theorem bv_cells_oneI (w : World) (c : UInt8) (x : Int) (h : (c.toNat : Int) = x) {T : TypeId} : ∀ j u, (bv [c])[j]? = some u → (w.alloc (.cells #[.int .u8 x] T)).cell? ((⟨w.heap.size, 0, none⟩ : Addr).add j) = some u := by subst h; exact bv_cells_one w c T

set_option maxHeartbeats 400000 in
/-- Below nought: the loop that turns the magnitude's bytes, behind a head that was built. -/
theorem put_minus (s : ByteArray) (w : World) (hr : chk true s.toList = 0) :
    Calls Tryd.prog 23 #[.agg #[.bool true, .string s]] w fun e w' => ∃ p : ByteArray, e = .returned (.tuple #[.string p, .int .i64 0]) ∧ Hid (p.toList = putBytes true s.toList) ∧ Below w.heap.size w w' := by
  have hlen := (chk_zero_iff.1 hr).1
  rw [size_of] at hlen
  have HR := Lib.hid hr
  clear hr
  by_cases hk : s.size ≤ 126
  · have hk2 : ¬ 126 < s.size := by omega
    go_enter Tryd.func23, Tryd.ntmps23
    go_wp2_with fail
    refine (check_any true s _ (by omega) 0 HR.out).mono ?_
    rintro e w1 ⟨rfl, hb1⟩
    obtain ⟨hc0, hc1, hz, hbw⟩ := num_cells hb1
    obtain ⟨c, hc, HC⟩ := one_byte (128 - s.size) (by omega)
    have hO := Lib.hid (ownB_one w1 w1.heap.size c (128 - s.size) (by rw [hc]; omega) (Nat.le_refl _))
    clear hc
    go_wp2
    go_loopw [6, 7, 54] (fun v _ i wr => ∃ k : Nat, k ≤ s.size ∧ i = .int .i64 k ∧ OwnB wr w1.heap.size v (turned [c] s.data.toList k) ∧ Below w1.heap.size w1 wr) (fun _ _ i _ => s.size - (intOf i).toNat)
    case atStart => exact ⟨0, Nat.zero_le _, rfl, by rw [turned_zero]; exact hO.out, (Below.refl _ _).alloc (Nat.le_refl _) _⟩
    case round =>
      obtain ⟨k, hkk, rfl, hO1, hB⟩ := hrel
      have hcx : wr.cell? ⟨w.heap.size, 1, none⟩ = some (.string s) := (hB.cell (p := ⟨w.heap.size, 1, none⟩) hz).trans hc1
      have hzr : w.heap.size < wr.heap.size := by have := hB.size; omega
      have hlk := turned_len [c] s.data.toList k
      simp only [List.length_cons, List.length_nil] at hlk
      clear hc0 hc1 hO
      by_cases hlt : k < s.size
      · have hbd := s[k].toNat_lt
        have hsb := Lib.hid (sub255 s[k])
        go_wp2_with (at_builtin; refine wpList_append_bytes rfl (.tmp 57) (.tmp 63) 111 rfl Tryd.underlying111 Tryd.info5 rfl (hO1.alloc _) _ [255 - s[k]] 1 _ rfl rfl (bv_cells_oneI _ _ _ hsb.out) (by simp; omega) (hB.alloc hB.size _) (by simp; have := hB.size; omega) ?_; intro v2 w2 hO2 hB2 hs2)
        go_roundw
        case rel => exact ⟨k + 1, by omega, by go_num, by rw [turned_succ _ s k hlt]; exact hO2, hB2⟩
        case measure => simp [intOf]; omega
      · have hcv := hO1.conv 111 9 Tryd.underlying111 Tryd.underlying5 Tryd.underlying9
        rw [turned_end _ s k hlt] at hcv
        go_wp2
        go_ret2
        exact ⟨_, rfl, Lib.hid (by rw [ByteArray.toList_mk, HC.out, putBytes, putHead, size_of, Lib.toList_data]; simp [hk]), hbw.trans (hB.mono (Nat.le_of_lt hz))⟩
  · have hk2 : 126 < s.size := by omega
    have hk3 : decide ((126 : Int) < (s.size : Int)) = true := by simp; omega
    go_enter Tryd.func23, Tryd.ntmps23
    go_wp2_with fail
    refine (check_any true s _ (by omega) 0 HR.out).mono ?_
    rintro e w1 ⟨rfl, hb1⟩
    obtain ⟨hc0, hc1, hz, hbw⟩ := num_cells hb1
    obtain ⟨c, hc, HC⟩ := one_byte (255 - s.size) (by omega)
    have hO := Lib.hid (fun (o : Obj) => ownB_two (w1.alloc o) w1.heap.size 1 c 1 (255 - s.size) rfl (by rw [hc]; omega) (by simp))
    clear hc
    go_wp2
    go_loopw [6, 7, 54] (fun v _ i wr => ∃ k : Nat, k ≤ s.size ∧ i = .int .i64 k ∧ OwnB wr w1.heap.size v (turned [1, c] s.data.toList k) ∧ Below w1.heap.size w1 wr) (fun _ _ i _ => s.size - (intOf i).toNat)
    case atStart => exact ⟨0, Nat.zero_le _, rfl, by rw [turned_zero]; simpa using hO.out _, ((Below.refl _ _).alloc (Nat.le_refl _) _).alloc (by simp) _⟩
    case round =>
      obtain ⟨k, hkk, rfl, hO1, hB⟩ := hrel
      have hcx : wr.cell? ⟨w.heap.size, 1, none⟩ = some (.string s) := (hB.cell (p := ⟨w.heap.size, 1, none⟩) hz).trans hc1
      have hzr : w.heap.size < wr.heap.size := by have := hB.size; omega
      have hlk := turned_len [1, c] s.data.toList k
      simp only [List.length_cons, List.length_nil] at hlk
      clear hc0 hc1 hO
      by_cases hlt : k < s.size
      · have hbd := s[k].toNat_lt
        have hsb := Lib.hid (sub255 s[k])
        go_wp2_with (at_builtin; refine wpList_append_bytes rfl (.tmp 57) (.tmp 63) 111 rfl Tryd.underlying111 Tryd.info5 rfl (hO1.alloc _) _ [255 - s[k]] 1 _ rfl rfl (bv_cells_oneI _ _ _ hsb.out) (by simp; omega) (hB.alloc hB.size _) (by simp; have := hB.size; omega) ?_; intro v2 w2 hO2 hB2 hs2)
        go_roundw
        case rel => exact ⟨k + 1, by omega, by go_num, by rw [turned_succ _ s k hlt]; exact hO2, hB2⟩
        case measure => simp [intOf]; omega
      · have hcv := hO1.conv 111 9 Tryd.underlying111 Tryd.underlying5 Tryd.underlying9
        rw [turned_end _ s k hlt] at hcv
        go_wp2
        go_ret2
        exact ⟨_, rfl, Lib.hid (by rw [ByteArray.toList_mk, HC.out, putBytes, putHead, size_of, Lib.toList_data]; simp [hk]), hbw.trans (hB.mono (Nat.le_of_lt hz))⟩

/-- A number that may be. -/
theorem put_ok (b : Bool) (s : ByteArray) (w : World) (hr : chk b s.toList = 0) :
    Calls Tryd.prog 23 #[.agg #[.bool b, .string s]] w fun e w' => ∃ p : ByteArray, e = .returned (.tuple #[.string p, .int .i64 0]) ∧ Hid (p.toList = putBytes b s.toList) ∧ Below w.heap.size w w' := by
  cases b
  · exact put_plus s w hr
  · exact put_minus s w hr
end Go.Proofs.YtcgphlilijeifaaDoor
end
