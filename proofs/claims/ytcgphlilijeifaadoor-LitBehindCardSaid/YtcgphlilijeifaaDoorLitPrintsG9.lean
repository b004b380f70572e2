import Derived.Test.YtcgphlilijeifaaDoorRows
import Derived.WalkKit
import Derived.Below
import Derived.WalkSpells
import Derived.WalkLawsBesides
import Derived.Lib.Hide
import Derived.Stop.Asserts
import Derived.Test.YtcgphlilijeifaaDoorLitPrintsG2
section
/-
  How parts and values lie in memory; what stays where other memory is written.
-/
namespace Go.Proofs.YtcgphlilijeifaaDoor.V
open Go.RowKit

theorem two {W a b : World} (h : Below W.heap.size W a) (k : Below a.heap.size a b) : Below W.heap.size W b := h.trans (k.mono h.size)
theorem keep {W w1 : World} {B : Nat} (hb : Below B W w1) {b o : Nat} {v : Value} (hB : b < B) (h : W.cell? ⟨b, o, none⟩ = some v) : w1.cell? ⟨b, o, none⟩ = some v := (hb.cell hB).trans h
theorem keeps {W w1 : World} (hb : Below W.heap.size W w1) {p : Addr} {v : Value} (h : W.cell? p = some v) : w1.cell? p = some v := (hb.cell (World.block_lt_of_cell? W p h)).trans h
theorem size_of (s : ByteArray) : s.toList.length = s.size := by rw [Lib.toList_data, Lib.size_eq]

/-- The blocks from lo up to hi are as they were. -/
def Same (lo hi : Nat) (w w' : World) : Prop := ∀ k, lo ≤ k → k < hi → w'.heap[k]? = w.heap[k]?
theorem Same.of_below {B lo hi : Nat} {w w' : World} (h : Below B w w') (hB : hi ≤ B) : Same lo hi w w' := fun k _ hk => h.block k (by omega)
theorem Same.mono {lo hi lo' hi' : Nat} {w w' : World} (h : Same lo hi w w') (h1 : lo ≤ lo') (h2 : hi' ≤ hi) : Same lo' hi' w w' := fun k a b => h k (by omega) (by omega)
theorem Same.trans {lo hi : Nat} {a b c : World} (h : Same lo hi a b) (k : Same lo hi b c) : Same lo hi a c := fun i h1 h2 => (k i h1 h2).trans (h i h1 h2)
theorem Same.refl (lo hi : Nat) (w : World) : Same lo hi w w := fun _ _ _ => rfl
theorem Same.cell {lo hi b o : Nat} {w w' : World} {v : Value} (h : Same lo hi w w') (h1 : lo ≤ b) (h2 : b < hi) (hc : w.cell? ⟨b, o, none⟩ = some v) : w'.cell? ⟨b, o, none⟩ = some v :=
  (World.cell?_of_block (w := w) (h b h1 h2)).trans hc

/-- Bounds of a part's own fields. -/
structure Fit (p : Pt) : Prop where
  k : p.kind < 256
  m : p.mag.size ≤ 140737488351232
  r : p.raw.size ≤ 140737488351232
  l : p.items.length ≤ 140737488351232
/-- The six cells of a part; v: its items' list. -/
def cellsOf (p : Pt) (v : Value) : Array Value := #[.int .u8 p.kind, .bool p.yes, .bool p.neg, .string p.mag, .string p.raw, v]
structure PartCells (w : World) (b o : Nat) (p : Pt) (v : Value) : Prop where
  c0 : w.cell? ⟨b, o, none⟩ = some (.int .u8 p.kind)
  c1 : w.cell? ⟨b, o + 1, none⟩ = some (.bool p.yes)
  c2 : w.cell? ⟨b, o + 2, none⟩ = some (.bool p.neg)
  c3 : w.cell? ⟨b, o + 3, none⟩ = some (.string p.mag)
  c4 : w.cell? ⟨b, o + 4, none⟩ = some (.string p.raw)
  c5 : w.cell? ⟨b, o + 5, none⟩ = some v
theorem PartCells.same {lo hi b o : Nat} {w w' : World} {p : Pt} {v : Value} (h : PartCells w b o p v) (hs : Same lo hi w w') (h1 : lo ≤ b) (h2 : b < hi) : PartCells w' b o p v :=
  ⟨hs.cell h1 h2 h.c0, hs.cell h1 h2 h.c1, hs.cell h1 h2 h.c2, hs.cell h1 h2 h.c3, hs.cell h1 h2 h.c4, hs.cell h1 h2 h.c5⟩

/-- The slice reads as the parts l; all that it leads to lies in the blocks from lo up to hi. -/
inductive PI (w : World) (lo hi : Nat) : List Pt → Value → Prop
  | mk (l : List Pt) (a : Option Addr) (cap : Nat) (F : Nat → Value) (hc : l.length ≤ cap)
      (cells : ∀ j (h : j < l.length), ∃ b off, a = some ⟨b, off, none⟩ ∧ lo ≤ b ∧ b < hi ∧ PartCells w b (off + j * 6) l[j] (F j))
      (fits : ∀ j (h : j < l.length), Fit l[j]) (deep : ∀ j (h : j < l.length), PI w lo hi l[j].items (F j)) : PI w lo hi l (.slice a l.length cap)
theorem PI.same {lo hi : Nat} {w w' : World} {l : List Pt} {v : Value} (h : PI w lo hi l v) (hs : Same lo hi w w') : PI w' lo hi l v := by
  induction h with
  | mk l a cap F hc cells fits deep ih =>
    exact .mk l a cap F hc (fun j hj => by
      obtain ⟨b, off, ha, h1, h2, h3⟩ := cells j hj
      exact ⟨b, off, ha, h1, h2, h3.same hs h1 h2⟩) fits ih
theorem PI.wide {lo hi lo' hi' : Nat} {w : World} {l : List Pt} {v : Value} (h : PI w lo hi l v) (h1 : lo' ≤ lo) (h2 : hi ≤ hi') : PI w lo' hi' l v := by
  induction h with
  | mk l a cap F hc cells fits deep ih =>
    exact .mk l a cap F hc (fun j hj => by
      obtain ⟨b, off, ha, h3, h4, h5⟩ := cells j hj
      exact ⟨b, off, ha, by omega, by omega, h5⟩) fits ih
theorem PI.nil (w : World) (lo hi : Nat) : PI w lo hi [] (.slice none 0 0) := .mk [] none 0 (fun _ => .slice none 0 0) (Nat.le_refl _) (fun j h => by cases h) (fun j h => by cases h) (fun j h => by cases h)
/-- The list opened: its value, and each of its places. -/
theorem PI.open {lo hi : Nat} {w : World} {l : List Pt} {v : Value} (h : PI w lo hi l v) : ∃ (a : Option Addr) (cap : Nat), v = .slice a l.length cap ∧ l.length ≤ cap ∧
    ∀ j (h : j < l.length), ∃ b off u, a = some ⟨b, off, none⟩ ∧ lo ≤ b ∧ b < hi ∧ PartCells w b (off + j * 6) l[j] u ∧ Fit l[j] ∧ PI w lo hi l[j].items u := by
  cases h with
  | mk _ a cap F hc cells fits deep =>
    refine ⟨a, cap, rfl, hc, fun j hj => ?_⟩
    obtain ⟨b, off, ha, h1, h2, h3⟩ := cells j hj
    exact ⟨b, off, F j, ha, h1, h2, h3, fits j hj, deep j hj⟩

/-- The interface value v is the part p; its memory lies in the blocks from lo up to hi. -/
inductive VI (w : World) (lo hi : Nat) : Pt → Value → Prop
  | null (p : Pt) (h : p.kind = 0) : VI w lo hi p .nilIface
  | truth (p : Pt) (h : p.kind = 1) : VI w lo hi p (.iface 140 (.agg #[.bool p.yes]))
  | whole (p : Pt) (h : p.kind = 2) : VI w lo hi p (.iface 142 (.agg #[.bool p.neg, .string p.mag]))
  | row (p : Pt) (h0 : p.kind ≠ 0) (h1 : p.kind ≠ 1) (h2 : p.kind ≠ 2) (h7 : p.kind ≠ 7) : VI w lo hi p (.iface 147 (.agg #[.int .u8 p.kind, .string p.raw]))
  | tuple (p : Pt) (h : p.kind = 7) (a : Option Addr) (cap : Nat) (F : Nat → Value) (hc : p.items.length ≤ cap)
      (cells : ∀ j, j < p.items.length → ∃ g, a = some ⟨g, 0, none⟩ ∧ lo ≤ g ∧ g < hi ∧ w.cell? ⟨g, j, none⟩ = some (F j))
      (deep : ∀ j (h : j < p.items.length), VI w lo hi p.items[j] (F j)) : VI w lo hi p (.iface 145 (.agg #[.slice a p.items.length cap]))
theorem VI.same {lo hi : Nat} {w w' : World} {p : Pt} {v : Value} (h : VI w lo hi p v) (hs : Same lo hi w w') : VI w' lo hi p v := by
  induction h with
  | null p h => exact .null p h
  | truth p h => exact .truth p h
  | whole p h => exact .whole p h
  | row p h0 h1 h2 h7 => exact .row p h0 h1 h2 h7
  | tuple p h a cap F hc cells deep ih =>
    exact .tuple p h a cap F hc (fun j hj => by
      obtain ⟨g, ha, h1, h2, h3⟩ := cells j hj
      exact ⟨g, ha, h1, h2, hs.cell h1 h2 h3⟩) ih
theorem VI.wide {lo hi lo' hi' : Nat} {w : World} {p : Pt} {v : Value} (h : VI w lo hi p v) (h1 : lo' ≤ lo) (h2 : hi ≤ hi') : VI w lo' hi' p v := by
  induction h with
  | null p h => exact .null p h
  | truth p h => exact .truth p h
  | whole p h => exact .whole p h
  | row p h0 h1 h2 h7 => exact .row p h0 h1 h2 h7
  | tuple p h a cap F hc cells deep ih =>
    exact .tuple p h a cap F hc (fun j hj => by
      obtain ⟨g, ha, h3, h4, h5⟩ := cells j hj
      exact ⟨g, ha, by omega, by omega, h5⟩) ih
end Go.Proofs.YtcgphlilijeifaaDoor.V
end
section
/-
  The contracts of nat.Check and of the document's Check: every number.
-/
namespace Go.Proofs.YtcgphlilijeifaaDoor.V
open Go.RowKit

theorem chk_long {b : Bool} {m : List UInt8} (h : 255 < m.length) : chk b m = 21 := by simp [chk, h]
theorem chk_nil_below {m : List UInt8} (h : m = []) : chk true m = 20 := by simp [chk, h]
theorem chk_nil {m : List UInt8} (h : m = []) : chk false m = 0 := by simp [chk, h]
theorem chk_zero {b : Bool} {m : List UInt8} (h : ¬ 255 < m.length) (h0 : m.head? = some 0) : chk b m = 20 := by simp [chk, h, h0]
theorem chk_ok {b : Bool} {m : List UInt8} (h : ¬ 255 < m.length) (hn : m ≠ []) (h0 : m.head? ≠ some 0) : chk b m = 0 := by simp [chk, h, h0, hn]
theorem drop_cons (s : ByteArray) (k : Nat) (h : k < s.size) : s.data.toList.drop k = s[k] :: s.data.toList.drop (k + 1) := by
  rw [List.drop_eq_getElem_cons (by simpa using h)]; rfl
theorem nil_of_size {s : ByteArray} (h : ¬ 0 < s.size) : s.toList = [] := List.eq_nil_of_length_eq_zero (by rw [size_of]; omega)
theorem head_of (s : ByteArray) (h : 0 < s.size) : s.toList.head? = some s[0] := by
  rw [Lib.toList_data]
  have := drop_cons s 0 h
  rw [List.drop_zero] at this
  rw [this]; rfl
theorem u8_eq {c : UInt8} (d : UInt8) {n : Int} (hn : (d.toNat : Int) = n) (h : ((c.toNat : Int) == n) = true) : c = d := by
  rw [← hn] at h
  have h1 : (c.toNat : Int) = d.toNat := by simpa using h
  exact UInt8.toNat_inj.1 (by omega)
theorem u8_ne {c : UInt8} (d : UInt8) {n : Int} (hn : (d.toNat : Int) = n) (h : ((c.toNat : Int) == n) = false) : c ≠ d := by
  rintro rfl
  rw [hn] at h
  simp at h
theorem u8_eqb {c d : UInt8} {n : Int} (hn : (d.toNat : Int) = n) (h : c = d) : ((c.toNat : Int) == n) = true := by subst h hn; simp
theorem u8_neb {c d : UInt8} {n : Int} (hn : (d.toNat : Int) = n) (h : ¬ c = d) : ((c.toNat : Int) == n) = false := by
  rw [← hn, beq_eq_false_iff_ne]
  exact fun e => h (UInt8.toNat_inj.1 (by omega))

theorem check_any (b : Bool) (s : ByteArray) (w : World) (_hs : s.size ≤ 9223372036854775807) (r : Int) (hr : chk b s.toList = r) :
    Calls Tryd.prog 22 #[.agg #[.bool b, .string s]] w fun e w' => e = .returned (.int .i64 r) ∧ Below w.heap.size w w' := by
  by_cases h1 : 255 < s.size
  · rw [chk_long (by rw [size_of]; exact h1)] at hr
    subst hr
    go_enter Tryd.func22, Tryd.ntmps22
    go_wp2
    go_ret
    exact ⟨rfl, (Below.refl _ _).alloc (Nat.le_refl _) _⟩
  · by_cases h2 : 0 < s.size
    · have hne : s.toList.isEmpty = false := by
        cases h : s.toList with
        | nil => have := size_of s; rw [h] at this; simp at this; omega
        | cons _ _ => rfl
      by_cases h3 : s[0] = 0
      · rw [chk_zero (by rw [size_of]; exact h1) (by rw [head_of s h2, h3])] at hr
        have h4 := u8_eqb (n := 0) rfl h3
        subst hr
        clear h3
        go_enter Tryd.func22, Tryd.ntmps22
        go_wp2
        go_ret
        exact ⟨rfl, (Below.refl _ _).alloc (Nat.le_refl _) _⟩
      · rw [chk_ok (by rw [size_of]; exact h1) (by intro e; rw [e] at hne; simp at hne) (by rw [head_of s h2]; simpa using h3)] at hr
        have h4 := u8_neb (n := 0) rfl h3
        subst hr
        clear h3
        go_enter Tryd.func22, Tryd.ntmps22
        go_wp2
        go_ret
        exact ⟨rfl, (Below.refl _ _).alloc (Nat.le_refl _) _⟩
    · have he := nil_of_size h2
      have hne : s.toList.isEmpty = true := by rw [he]; rfl
      cases b
      · rw [chk_nil he] at hr
        subst hr
        clear he
        go_enter Tryd.func22, Tryd.ntmps22
        go_wp2
        go_ret
        exact ⟨rfl, (Below.refl _ _).alloc (Nat.le_refl _) _⟩
      · rw [chk_nil_below he] at hr
        subst hr
        clear he
        go_enter Tryd.func22, Tryd.ntmps22
        go_wp2
        go_ret
        exact ⟨rfl, (Below.refl _ _).alloc (Nat.le_refl _) _⟩
theorem rcheck_any (b : Bool) (s : ByteArray) (w : World) (_hs : s.size ≤ 9223372036854775807) (r : Int) (hr : chk b s.toList = r) :
    Calls Tryd.prog 64 #[.agg #[.bool b, .string s]] w fun e w' => e = .returned (.int .i64 r) ∧ Below w.heap.size w w' := by
  by_cases h1 : 255 < s.size
  · rw [chk_long (by rw [size_of]; exact h1)] at hr
    subst hr
    go_enter Tryd.func64, Tryd.ntmps64
    go_wp2
    go_ret
    exact ⟨rfl, (Below.refl _ _).alloc (Nat.le_refl _) _⟩
  · by_cases h2 : 0 < s.size
    · have hne : s.toList ≠ [] := by intro e; have := size_of s; rw [e] at this; simp at this; omega
      have q1 : ((s.size : Int) == 0) = false := beq_eq_false_iff_ne.2 (by omega)
      have q2 : decide ((0 : Int) < (s.size : Int)) = true := decide_eq_true (by omega)
      by_cases h3 : s[0] = 0
      · rw [chk_zero (by rw [size_of]; exact h1) (by rw [head_of s h2, h3])] at hr
        have h4 := u8_eqb (n := 0) rfl h3
        subst hr
        clear h3 hne
        go_enter Tryd.func64, Tryd.ntmps64
        go_wp2
        go_ret
        exact ⟨rfl, (Below.refl _ _).alloc (Nat.le_refl _) _⟩
      · rw [chk_ok (by rw [size_of]; exact h1) hne (by rw [head_of s h2]; simpa using h3)] at hr
        have h4 := u8_neb (n := 0) rfl h3
        subst hr
        clear h3 hne
        go_enter Tryd.func64, Tryd.ntmps64
        go_wp2
        go_ret
        exact ⟨rfl, (Below.refl _ _).alloc (Nat.le_refl _) _⟩
    · have he := nil_of_size h2
      have q1 : ((s.size : Int) == 0) = true := beq_iff_eq.2 (by omega)
      have q2 : decide ((0 : Int) < (s.size : Int)) = false := decide_eq_false (by omega)
      cases b
      · rw [chk_nil he] at hr
        subst hr
        clear he
        go_enter Tryd.func64, Tryd.ntmps64
        go_wp2
        go_ret
        exact ⟨rfl, (Below.refl _ _).alloc (Nat.le_refl _) _⟩
      · rw [chk_nil_below he] at hr
        subst hr
        clear he
        go_enter Tryd.func64, Tryd.ntmps64
        go_wp2
        go_ret
        exact ⟨rfl, (Below.refl _ _).alloc (Nat.le_refl _) _⟩


theorem eql_num (x y : Bool) (a b : ByteArray) (E : Bool) (h : (x == y && a.toList == b.toList) = E) (w : World) : (binOp .eql 24 (.agg #[.bool x, .string a]) (.agg #[.bool y, .string b])).run Tryd.prog w = .ok (.bool E) w := by
  subst h
  by_cases hx : x = y <;> by_cases ha : a.toList = b.toList <;> simp [go_sem, hx, ha]
theorem neq_num (x y : Bool) (a b : ByteArray) (E : Bool) (h : (x == y && a.toList == b.toList) = E) (w : World) : (binOp .neq 24 (.agg #[.bool x, .string a]) (.agg #[.bool y, .string b])).run Tryd.prog w = .ok (.bool !E) w := by
  subst h
  by_cases hx : x = y <;> by_cases ha : a.toList = b.toList <;> simp [go_sem, hx, ha]
end Go.Proofs.YtcgphlilijeifaaDoor.V
end
section
/-
  Is a part deeper than so many: the program's and the document's.
-/
namespace Go.Proofs.YtcgphlilijeifaaDoor.V
open Go.RowKit

theorem PI.later {w w1 : World} {l : List Pt} {v : Value} (h : PI w 0 w.heap.size l v) (hb : Below w.heap.size w w1) : PI w1 0 w1.heap.size l v :=
  (h.same (Same.of_below hb (Nat.le_refl _))).wide (Nat.le_refl _) hb.size
theorem VI.later {w w1 : World} {p : Pt} {v : Value} (h : VI w 0 w.heap.size p v) (hb : Below w.heap.size w w1) : VI w1 0 w1.heap.size p v :=
  (h.same (Same.of_below hb (Nat.le_refl _))).wide (Nat.le_refl _) hb.size
theorem any_drop {f : Pt → Bool} {l : List Pt} {k : Nat} (h : k < l.length) : (l.drop k).any f = (f l[k] || (l.drop (k + 1)).any f) := by
  rw [List.drop_eq_getElem_cons h]; rfl
theorem all_drop {f : Pt → Bool} {l : List Pt} {k : Nat} (h : k < l.length) : (l.drop k).all f = (f l[k] && (l.drop (k + 1)).all f) := by
  rw [List.drop_eq_getElem_cons h]; rfl

set_option maxRecDepth 100000 in
set_option maxHeartbeats 1000000 in
theorem deep_any (n : Nat) : ∀ (p : Pt) (v : Value) (w : World), n ≤ 1000 → Fit p → PI w 0 w.heap.size p.items v →
    Calls Tryd.prog 47 #[.agg #[.int .u8 p.kind, .bool p.yes, .bool p.neg, .string p.mag, .string p.raw, v], .int .i64 n] w fun e w' => e = .returned (.bool (deepB n p)) ∧ Below w.heap.size w w' := by
  induction n with
  | zero =>
    intro p v w _ hf hp
    have hk := hf.k
    by_cases h7 : p.kind = 7
    · have q1 : ((p.kind : Int) != 7) = false := by rw [h7]; rfl
      have HD := Lib.hid (show deepB 0 p = true by simp [deepB, h7])
      clear h7
      go_enter Tryd.func47, Tryd.ntmps47
      go_wp2_with fail
      go_ret
      exact ⟨by rw [HD.out]; rfl, (Below.refl _ _).alloc (Nat.le_refl _) _⟩
    · have q1 : ((p.kind : Int) != 7) = true := by simp; omega
      have HD := Lib.hid (show deepB 0 p = false by simp [deepB, h7])
      clear h7
      go_enter Tryd.func47, Tryd.ntmps47
      go_wp2_with fail
      go_ret
      exact ⟨by rw [HD.out]; rfl, (Below.refl _ _).alloc (Nat.le_refl _) _⟩
  | succ n ih =>
    intro p v w hn hf hp
    have hk := hf.k
    have hl := hf.l
    by_cases h7 : p.kind = 7
    · have q1 : ((p.kind : Int) != 7) = false := by rw [h7]; rfl
      have q2 : ((n : Int) + 1 == 0) = false := beq_eq_false_iff_ne.2 (by omega)
      have HD := Lib.hid (show deepB (n + 1) p = (p.items.drop 0).any (deepB n) by simp [deepB, h7])
      obtain ⟨a, cap, rfl, hcap, hat⟩ := hp.open
      have HA := Lib.hid hat
      have IH := Lib.hid ih
      clear h7 hat ih hp
      go_enter Tryd.func47, Tryd.ntmps47
      go_wp2_with fail
      go_loopw [15] (fun i wr => ∃ k : Nat, k ≤ p.items.length ∧ i = .int .i64 k ∧ RowKit.Hid (deepB (n + 1) p = (p.items.drop k).any (deepB n)) ∧ Below w.heap.size w wr ∧ w.heap.size < wr.heap.size) (fun i _ => p.items.length - (intOf i).toNat)
      case atStart => exact ⟨0, Nat.zero_le _, rfl, HD, (Below.refl _ _).alloc (Nat.le_refl _) _, by simp⟩
      case round =>
        obtain ⟨k, hkl, rfl, HK, hB, hsz⟩ := hrel
        by_cases hlt : k < p.items.length
        · have q3 : decide (k < p.items.length) = true := by simpa using hlt
          obtain ⟨b, off, u, rfl, _, hb, hc, hfit, hpi⟩ := HA.out k hlt
          obtain ⟨d0, d1, d2, d3, d4, d5⟩ := hc.same (Same.of_below hB (Nat.le_refl _)) (Nat.zero_le _) hb
          have HE := Lib.hid (any_drop (f := deepB n) hlt)
          obtain ⟨q, hq⟩ : ∃ q, p.items[k] = q := ⟨_, rfl⟩
          rw [hq] at d0 d1 d2 d3 d4 hfit hpi HE
          obtain ⟨a2, cap2, rfl, _, _⟩ := hpi.open
          have hpi2 := Lib.hid hpi
          clear hc hq hpi
          go_wp2_with fail
          have hpw : PI (wr.alloc (.cells #[.int .u8 q.kind, .bool q.yes, .bool q.neg, .string q.mag, .string q.raw, .slice a2 q.items.length cap2] 27)) 0 (wr.alloc (.cells #[.int .u8 q.kind, .bool q.yes, .bool q.neg, .string q.mag, .string q.raw, .slice a2 q.items.length cap2] 27)).heap.size q.items (.slice a2 q.items.length cap2) :=
            hpi2.out.later (hB.alloc (Nat.le_of_lt hsz) _)
          refine (IH.out q _ _ (by omega) hfit hpw).mono ?_
          rintro e w1 ⟨rfl, hb1⟩
          have hB1 : Below w.heap.size w w1 := (hB.alloc (Nat.le_of_lt hsz) _).trans (hb1.mono (by simp; omega))
          have hz1 : w.heap.size < w1.heap.size := by have := hb1.size; simp at this; omega
          cases hd : deepB n q with
          | true =>
            have HD2 := Lib.hid (show deepB (n + 1) p = true by rw [HK.out, HE.out, hd]; rfl)
            clear hd hB hb1 hpw d0 d1 d2 d3 d4 d5
            go_wp2_with fail
            go_ret
            exact ⟨by rw [HD2.out]; rfl, hB1⟩
          | false =>
            have HD2 := Lib.hid (show deepB (n + 1) p = (p.items.drop (k + 1)).any (deepB n) by rw [HK.out, HE.out, hd]; rfl)
            clear hd hB hb1 hpw d0 d1 d2 d3 d4 d5
            go_wp2_with fail
            refine ⟨?_, by simp [intOf]; omega⟩
            (repeat apply Exists.intro)
            exact ⟨⟨k + 1, by omega, rfl, HD2, hB1, hz1⟩, rfl⟩
        · have q3 : decide (k < p.items.length) = false := by simpa using hlt
          have HD2 := Lib.hid (show deepB (n + 1) p = false by rw [HK.out, List.drop_of_length_le (by omega)]; rfl)
          go_wp2_with fail
          go_ret
          exact ⟨by rw [HD2.out]; rfl, hB⟩
    · have q1 : ((p.kind : Int) != 7) = true := by simp; omega
      have HD := Lib.hid (show deepB (n + 1) p = false by simp [deepB, h7])
      clear h7
      go_enter Tryd.func47, Tryd.ntmps47
      go_wp2_with fail
      go_ret
      exact ⟨by rw [HD.out]; rfl, (Below.refl _ _).alloc (Nat.le_refl _) _⟩
end Go.Proofs.YtcgphlilijeifaaDoor.V
end
section
/-
  May a part be: the program's answer.
-/
namespace Go.Proofs.YtcgphlilijeifaaDoor.V
open Go.RowKit

theorem may_kind {p : Pt} {y z t : Bool} (hy : p.yes = y) (hz : (!p.neg && p.mag.toList.isEmpty) = z) (ht : p.items.isEmpty = t) (X : Bool)
    (hX : (if p.kind = 2 then p.raw.toList.isEmpty && chk p.neg p.mag.toList == 0 else if p.kind = 4 then p.raw.size == 16 else if p.kind = 3 ∨ p.kind = 5 ∨ p.kind = 6 then decide (p.raw.size ≤ 65536)
      else if p.kind = 7 then p.raw.toList.isEmpty && decide (p.items.length ≤ 1024) else p.raw.toList.isEmpty) = X) :
    mayB p = ((decide (p.kind ≤ 7) && (p.kind == 1 || !y) && (p.kind == 2 || z) && (p.kind == 7 || t) && X) && (!(p.kind == 7) || p.items.all mayB)) := by
  rw [mayB_eq]
  unfold okOne
  rw [hX, hy, hz, ht]

set_option maxRecDepth 100000 in
set_option maxHeartbeats 2000000 in
theorem may_0 (p : Pt) (v : Value) (w : World) (hf : Fit p) (hp : PI w 0 w.heap.size p.items v) (hk : p.kind = 0) :
    Calls Tryd.prog 48 #[.agg #[.int .u8 p.kind, .bool p.yes, .bool p.neg, .string p.mag, .string p.raw, v]] w fun e w' => e = .returned (.bool (mayB p)) ∧ Below w.heap.size w w' := by
  obtain ⟨a, cap, rfl, _, _⟩ := hp.open
  clear hp
  have hm := hf.m
  have hr := hf.r
  have hl := hf.l
  have hkb := hf.k
  obtain ⟨y, hy⟩ : ∃ y, p.yes = y := ⟨_, rfl⟩
  obtain ⟨z, hz⟩ : ∃ z, (!p.neg && p.mag.toList.isEmpty) = z := ⟨_, rfl⟩
  obtain ⟨t, ht⟩ : ∃ t, p.items.isEmpty = t := ⟨_, rfl⟩
  have hM := may_kind hy hz ht (p.raw.toList.isEmpty) (by simp [hk])
  have h24 := eql_num p.neg false p.mag ⟨#[]⟩ z (by rw [← hz]; cases p.neg <;> simp)
  have h24n := neq_num p.neg false p.mag ⟨#[]⟩ z (by rw [← hz]; cases p.neg <;> simp)
  have hl0 : ((p.items.length : Int) == 0) = t := by rw [← ht]; cases p.items <;> simp; omega
  have hl1 : decide (0 < p.items.length) = !t := by rw [← ht]; cases p.items <;> simp
  have e0 : ((p.kind : Int) == 0) = true := beq_iff_eq.2 (by omega)
  have n0 : ((p.kind : Int) != 0) = false := by rw [bne, e0]; rfl
  have e1 : ((p.kind : Int) == 1) = false := beq_eq_false_iff_ne.2 (by omega)
  have n1 : ((p.kind : Int) != 1) = true := by rw [bne, e1]; rfl
  have e2 : ((p.kind : Int) == 2) = false := beq_eq_false_iff_ne.2 (by omega)
  have n2 : ((p.kind : Int) != 2) = true := by rw [bne, e2]; rfl
  have e3 : ((p.kind : Int) == 3) = false := beq_eq_false_iff_ne.2 (by omega)
  have n3 : ((p.kind : Int) != 3) = true := by rw [bne, e3]; rfl
  have e4 : ((p.kind : Int) == 4) = false := beq_eq_false_iff_ne.2 (by omega)
  have n4 : ((p.kind : Int) != 4) = true := by rw [bne, e4]; rfl
  have e5 : ((p.kind : Int) == 5) = false := beq_eq_false_iff_ne.2 (by omega)
  have n5 : ((p.kind : Int) != 5) = true := by rw [bne, e5]; rfl
  have e6 : ((p.kind : Int) == 6) = false := beq_eq_false_iff_ne.2 (by omega)
  have n6 : ((p.kind : Int) != 6) = true := by rw [bne, e6]; rfl
  have e7 : ((p.kind : Int) == 7) = false := beq_eq_false_iff_ne.2 (by omega)
  have n7 : ((p.kind : Int) != 7) = true := by rw [bne, e7]; rfl
  have HM := Lib.hid (show mayB p = (!y && z && t && (p.raw.toList.isEmpty)) by rw [hM]; simp [hk])
  clear hM hz ht hk
  cases y <;> cases z <;> cases t
  · go_enter Tryd.func48, Tryd.ntmps48
    go_wp2_with fail
    go_ret
    exact ⟨by rw [HM.out]; rfl, (Below.refl _ _).alloc (Nat.le_refl _) _⟩
  · go_enter Tryd.func48, Tryd.ntmps48
    go_wp2_with fail
    go_ret
    exact ⟨by rw [HM.out]; rfl, (Below.refl _ _).alloc (Nat.le_refl _) _⟩
  · go_enter Tryd.func48, Tryd.ntmps48
    go_wp2_with fail
    go_ret
    exact ⟨by rw [HM.out]; rfl, (Below.refl _ _).alloc (Nat.le_refl _) _⟩
  · go_enter Tryd.func48, Tryd.ntmps48
    go_wp2_with fail
    go_ret
    exact ⟨by rw [HM.out]; first | rfl | exact congrArg (fun b => Ending.returned (.bool b)) (by rw [Bool.eq_iff_iff]; simp; omega), (Below.refl _ _).alloc (Nat.le_refl _) _⟩
  · go_enter Tryd.func48, Tryd.ntmps48
    go_wp2_with fail
    go_ret
    exact ⟨by rw [HM.out]; rfl, (Below.refl _ _).alloc (Nat.le_refl _) _⟩
  · go_enter Tryd.func48, Tryd.ntmps48
    go_wp2_with fail
    go_ret
    exact ⟨by rw [HM.out]; rfl, (Below.refl _ _).alloc (Nat.le_refl _) _⟩
  · go_enter Tryd.func48, Tryd.ntmps48
    go_wp2_with fail
    go_ret
    exact ⟨by rw [HM.out]; rfl, (Below.refl _ _).alloc (Nat.le_refl _) _⟩
  · go_enter Tryd.func48, Tryd.ntmps48
    go_wp2_with fail
    go_ret
    exact ⟨by rw [HM.out]; rfl, (Below.refl _ _).alloc (Nat.le_refl _) _⟩

set_option maxRecDepth 100000 in
set_option maxHeartbeats 2000000 in
theorem may_1 (p : Pt) (v : Value) (w : World) (hf : Fit p) (hp : PI w 0 w.heap.size p.items v) (hk : p.kind = 1) :
    Calls Tryd.prog 48 #[.agg #[.int .u8 p.kind, .bool p.yes, .bool p.neg, .string p.mag, .string p.raw, v]] w fun e w' => e = .returned (.bool (mayB p)) ∧ Below w.heap.size w w' := by
  obtain ⟨a, cap, rfl, _, _⟩ := hp.open
  clear hp
  have hm := hf.m
  have hr := hf.r
  have hl := hf.l
  have hkb := hf.k
  obtain ⟨y, hy⟩ : ∃ y, p.yes = y := ⟨_, rfl⟩
  obtain ⟨z, hz⟩ : ∃ z, (!p.neg && p.mag.toList.isEmpty) = z := ⟨_, rfl⟩
  obtain ⟨t, ht⟩ : ∃ t, p.items.isEmpty = t := ⟨_, rfl⟩
  have hM := may_kind hy hz ht (p.raw.toList.isEmpty) (by simp [hk])
  have h24 := eql_num p.neg false p.mag ⟨#[]⟩ z (by rw [← hz]; cases p.neg <;> simp)
  have h24n := neq_num p.neg false p.mag ⟨#[]⟩ z (by rw [← hz]; cases p.neg <;> simp)
  have hl0 : ((p.items.length : Int) == 0) = t := by rw [← ht]; cases p.items <;> simp; omega
  have hl1 : decide (0 < p.items.length) = !t := by rw [← ht]; cases p.items <;> simp
  have e0 : ((p.kind : Int) == 0) = false := beq_eq_false_iff_ne.2 (by omega)
  have n0 : ((p.kind : Int) != 0) = true := by rw [bne, e0]; rfl
  have e1 : ((p.kind : Int) == 1) = true := beq_iff_eq.2 (by omega)
  have n1 : ((p.kind : Int) != 1) = false := by rw [bne, e1]; rfl
  have e2 : ((p.kind : Int) == 2) = false := beq_eq_false_iff_ne.2 (by omega)
  have n2 : ((p.kind : Int) != 2) = true := by rw [bne, e2]; rfl
  have e3 : ((p.kind : Int) == 3) = false := beq_eq_false_iff_ne.2 (by omega)
  have n3 : ((p.kind : Int) != 3) = true := by rw [bne, e3]; rfl
  have e4 : ((p.kind : Int) == 4) = false := beq_eq_false_iff_ne.2 (by omega)
  have n4 : ((p.kind : Int) != 4) = true := by rw [bne, e4]; rfl
  have e5 : ((p.kind : Int) == 5) = false := beq_eq_false_iff_ne.2 (by omega)
  have n5 : ((p.kind : Int) != 5) = true := by rw [bne, e5]; rfl
  have e6 : ((p.kind : Int) == 6) = false := beq_eq_false_iff_ne.2 (by omega)
  have n6 : ((p.kind : Int) != 6) = true := by rw [bne, e6]; rfl
  have e7 : ((p.kind : Int) == 7) = false := beq_eq_false_iff_ne.2 (by omega)
  have n7 : ((p.kind : Int) != 7) = true := by rw [bne, e7]; rfl
  have HM := Lib.hid (show mayB p = (z && t && (p.raw.toList.isEmpty)) by rw [hM]; simp [hk])
  clear hM hz ht hk
  cases z <;> cases t
  · go_enter Tryd.func48, Tryd.ntmps48
    go_wp2_with fail
    go_ret
    exact ⟨by rw [HM.out]; rfl, (Below.refl _ _).alloc (Nat.le_refl _) _⟩
  · go_enter Tryd.func48, Tryd.ntmps48
    go_wp2_with fail
    go_ret
    exact ⟨by rw [HM.out]; rfl, (Below.refl _ _).alloc (Nat.le_refl _) _⟩
  · go_enter Tryd.func48, Tryd.ntmps48
    go_wp2_with fail
    go_ret
    exact ⟨by rw [HM.out]; rfl, (Below.refl _ _).alloc (Nat.le_refl _) _⟩
  · go_enter Tryd.func48, Tryd.ntmps48
    go_wp2_with fail
    go_ret
    exact ⟨by rw [HM.out]; first | rfl | exact congrArg (fun b => Ending.returned (.bool b)) (by rw [Bool.eq_iff_iff]; simp; omega), (Below.refl _ _).alloc (Nat.le_refl _) _⟩

set_option maxRecDepth 100000 in
set_option maxHeartbeats 2000000 in
theorem may_2 (p : Pt) (v : Value) (w : World) (hf : Fit p) (hp : PI w 0 w.heap.size p.items v) (hk : p.kind = 2) :
    Calls Tryd.prog 48 #[.agg #[.int .u8 p.kind, .bool p.yes, .bool p.neg, .string p.mag, .string p.raw, v]] w fun e w' => e = .returned (.bool (mayB p)) ∧ Below w.heap.size w w' := by
  obtain ⟨a, cap, rfl, _, _⟩ := hp.open
  clear hp
  have hm := hf.m
  have hr := hf.r
  have hl := hf.l
  have hkb := hf.k
  obtain ⟨y, hy⟩ : ∃ y, p.yes = y := ⟨_, rfl⟩
  obtain ⟨z, hz⟩ : ∃ z, (!p.neg && p.mag.toList.isEmpty) = z := ⟨_, rfl⟩
  obtain ⟨t, ht⟩ : ∃ t, p.items.isEmpty = t := ⟨_, rfl⟩
  have hM := may_kind hy hz ht (p.raw.toList.isEmpty && chk p.neg p.mag.toList == 0) (by simp [hk])
  have h24 := eql_num p.neg false p.mag ⟨#[]⟩ z (by rw [← hz]; cases p.neg <;> simp)
  have h24n := neq_num p.neg false p.mag ⟨#[]⟩ z (by rw [← hz]; cases p.neg <;> simp)
  have hl0 : ((p.items.length : Int) == 0) = t := by rw [← ht]; cases p.items <;> simp; omega
  have hl1 : decide (0 < p.items.length) = !t := by rw [← ht]; cases p.items <;> simp
  have e0 : ((p.kind : Int) == 0) = false := beq_eq_false_iff_ne.2 (by omega)
  have n0 : ((p.kind : Int) != 0) = true := by rw [bne, e0]; rfl
  have e1 : ((p.kind : Int) == 1) = false := beq_eq_false_iff_ne.2 (by omega)
  have n1 : ((p.kind : Int) != 1) = true := by rw [bne, e1]; rfl
  have e2 : ((p.kind : Int) == 2) = true := beq_iff_eq.2 (by omega)
  have n2 : ((p.kind : Int) != 2) = false := by rw [bne, e2]; rfl
  have e3 : ((p.kind : Int) == 3) = false := beq_eq_false_iff_ne.2 (by omega)
  have n3 : ((p.kind : Int) != 3) = true := by rw [bne, e3]; rfl
  have e4 : ((p.kind : Int) == 4) = false := beq_eq_false_iff_ne.2 (by omega)
  have n4 : ((p.kind : Int) != 4) = true := by rw [bne, e4]; rfl
  have e5 : ((p.kind : Int) == 5) = false := beq_eq_false_iff_ne.2 (by omega)
  have n5 : ((p.kind : Int) != 5) = true := by rw [bne, e5]; rfl
  have e6 : ((p.kind : Int) == 6) = false := beq_eq_false_iff_ne.2 (by omega)
  have n6 : ((p.kind : Int) != 6) = true := by rw [bne, e6]; rfl
  have e7 : ((p.kind : Int) == 7) = false := beq_eq_false_iff_ne.2 (by omega)
  have n7 : ((p.kind : Int) != 7) = true := by rw [bne, e7]; rfl
  have HM := Lib.hid (show mayB p = (!y && true && t && (p.raw.toList.isEmpty && chk p.neg p.mag.toList == 0)) by rw [hM]; simp [hk])
  clear hM hz ht hk
  cases y <;> cases t
  · go_enter Tryd.func48, Tryd.ntmps48
    go_wp2_with fail
    go_ret
    exact ⟨by rw [HM.out]; rfl, (Below.refl _ _).alloc (Nat.le_refl _) _⟩
  · obtain ⟨x, hx⟩ : ∃ x, p.raw.toList.isEmpty = x := ⟨_, rfl⟩
    rw [hx] at HM
    cases x
    · go_enter Tryd.func48, Tryd.ntmps48
      go_wp2_with fail
      go_ret
      exact ⟨by rw [HM.out]; rfl, (Below.refl _ _).alloc (Nat.le_refl _) _⟩
    · obtain ⟨r, hr2⟩ : ∃ r, chk p.neg p.mag.toList = r := ⟨_, rfl⟩
      rw [hr2] at HM
      have HR := Lib.hid hr2
      have hlen : p.raw.size = 0 := by rw [← size_of, List.isEmpty_iff.1 hx]; rfl
      have hl64 : decide (65536 < (p.raw.size : Int)) = false := by simp; omega
      clear hr2 hlen
      go_enter Tryd.func48, Tryd.ntmps48
      go_wp2_with fail
      refine (check_any p.neg p.mag _ (by omega) r HR.out).mono ?_
      rintro e w1 ⟨rfl, hb1⟩
      go_wp2_with fail
      go_ret
      exact ⟨by rw [HM.out]; rfl, two ((Below.refl _ _).alloc (Nat.le_refl _) _) hb1⟩
  · go_enter Tryd.func48, Tryd.ntmps48
    go_wp2_with fail
    go_ret
    exact ⟨by rw [HM.out]; rfl, (Below.refl _ _).alloc (Nat.le_refl _) _⟩
  · go_enter Tryd.func48, Tryd.ntmps48
    go_wp2_with fail
    go_ret
    exact ⟨by rw [HM.out]; rfl, (Below.refl _ _).alloc (Nat.le_refl _) _⟩

set_option maxRecDepth 100000 in
set_option maxHeartbeats 2000000 in
theorem may_3 (p : Pt) (v : Value) (w : World) (hf : Fit p) (hp : PI w 0 w.heap.size p.items v) (hk : p.kind = 3) :
    Calls Tryd.prog 48 #[.agg #[.int .u8 p.kind, .bool p.yes, .bool p.neg, .string p.mag, .string p.raw, v]] w fun e w' => e = .returned (.bool (mayB p)) ∧ Below w.heap.size w w' := by
  obtain ⟨a, cap, rfl, _, _⟩ := hp.open
  clear hp
  have hm := hf.m
  have hr := hf.r
  have hl := hf.l
  have hkb := hf.k
  obtain ⟨y, hy⟩ : ∃ y, p.yes = y := ⟨_, rfl⟩
  obtain ⟨z, hz⟩ : ∃ z, (!p.neg && p.mag.toList.isEmpty) = z := ⟨_, rfl⟩
  obtain ⟨t, ht⟩ : ∃ t, p.items.isEmpty = t := ⟨_, rfl⟩
  have hM := may_kind hy hz ht (decide (p.raw.size ≤ 65536)) (by simp [hk])
  have h24 := eql_num p.neg false p.mag ⟨#[]⟩ z (by rw [← hz]; cases p.neg <;> simp)
  have h24n := neq_num p.neg false p.mag ⟨#[]⟩ z (by rw [← hz]; cases p.neg <;> simp)
  have hl0 : ((p.items.length : Int) == 0) = t := by rw [← ht]; cases p.items <;> simp; omega
  have hl1 : decide (0 < p.items.length) = !t := by rw [← ht]; cases p.items <;> simp
  have e0 : ((p.kind : Int) == 0) = false := beq_eq_false_iff_ne.2 (by omega)
  have n0 : ((p.kind : Int) != 0) = true := by rw [bne, e0]; rfl
  have e1 : ((p.kind : Int) == 1) = false := beq_eq_false_iff_ne.2 (by omega)
  have n1 : ((p.kind : Int) != 1) = true := by rw [bne, e1]; rfl
  have e2 : ((p.kind : Int) == 2) = false := beq_eq_false_iff_ne.2 (by omega)
  have n2 : ((p.kind : Int) != 2) = true := by rw [bne, e2]; rfl
  have e3 : ((p.kind : Int) == 3) = true := beq_iff_eq.2 (by omega)
  have n3 : ((p.kind : Int) != 3) = false := by rw [bne, e3]; rfl
  have e4 : ((p.kind : Int) == 4) = false := beq_eq_false_iff_ne.2 (by omega)
  have n4 : ((p.kind : Int) != 4) = true := by rw [bne, e4]; rfl
  have e5 : ((p.kind : Int) == 5) = false := beq_eq_false_iff_ne.2 (by omega)
  have n5 : ((p.kind : Int) != 5) = true := by rw [bne, e5]; rfl
  have e6 : ((p.kind : Int) == 6) = false := beq_eq_false_iff_ne.2 (by omega)
  have n6 : ((p.kind : Int) != 6) = true := by rw [bne, e6]; rfl
  have e7 : ((p.kind : Int) == 7) = false := beq_eq_false_iff_ne.2 (by omega)
  have n7 : ((p.kind : Int) != 7) = true := by rw [bne, e7]; rfl
  have HM := Lib.hid (show mayB p = (!y && z && t && (decide (p.raw.size ≤ 65536))) by rw [hM]; simp [hk])
  clear hM hz ht hk
  cases y <;> cases z <;> cases t
  · go_enter Tryd.func48, Tryd.ntmps48
    go_wp2_with fail
    go_ret
    exact ⟨by rw [HM.out]; rfl, (Below.refl _ _).alloc (Nat.le_refl _) _⟩
  · go_enter Tryd.func48, Tryd.ntmps48
    go_wp2_with fail
    go_ret
    exact ⟨by rw [HM.out]; rfl, (Below.refl _ _).alloc (Nat.le_refl _) _⟩
  · go_enter Tryd.func48, Tryd.ntmps48
    go_wp2_with fail
    go_ret
    exact ⟨by rw [HM.out]; rfl, (Below.refl _ _).alloc (Nat.le_refl _) _⟩
  · go_enter Tryd.func48, Tryd.ntmps48
    go_wp2_with fail
    go_ret
    exact ⟨by rw [HM.out]; first | rfl | exact congrArg (fun b => Ending.returned (.bool b)) (by rw [Bool.eq_iff_iff]; simp; omega), (Below.refl _ _).alloc (Nat.le_refl _) _⟩
  · go_enter Tryd.func48, Tryd.ntmps48
    go_wp2_with fail
    go_ret
    exact ⟨by rw [HM.out]; rfl, (Below.refl _ _).alloc (Nat.le_refl _) _⟩
  · go_enter Tryd.func48, Tryd.ntmps48
    go_wp2_with fail
    go_ret
    exact ⟨by rw [HM.out]; rfl, (Below.refl _ _).alloc (Nat.le_refl _) _⟩
  · go_enter Tryd.func48, Tryd.ntmps48
    go_wp2_with fail
    go_ret
    exact ⟨by rw [HM.out]; rfl, (Below.refl _ _).alloc (Nat.le_refl _) _⟩
  · go_enter Tryd.func48, Tryd.ntmps48
    go_wp2_with fail
    go_ret
    exact ⟨by rw [HM.out]; rfl, (Below.refl _ _).alloc (Nat.le_refl _) _⟩

set_option maxRecDepth 100000 in
set_option maxHeartbeats 2000000 in
theorem may_4 (p : Pt) (v : Value) (w : World) (hf : Fit p) (hp : PI w 0 w.heap.size p.items v) (hk : p.kind = 4) :
    Calls Tryd.prog 48 #[.agg #[.int .u8 p.kind, .bool p.yes, .bool p.neg, .string p.mag, .string p.raw, v]] w fun e w' => e = .returned (.bool (mayB p)) ∧ Below w.heap.size w w' := by
  obtain ⟨a, cap, rfl, _, _⟩ := hp.open
  clear hp
  have hm := hf.m
  have hr := hf.r
  have hl := hf.l
  have hkb := hf.k
  obtain ⟨y, hy⟩ : ∃ y, p.yes = y := ⟨_, rfl⟩
  obtain ⟨z, hz⟩ : ∃ z, (!p.neg && p.mag.toList.isEmpty) = z := ⟨_, rfl⟩
  obtain ⟨t, ht⟩ : ∃ t, p.items.isEmpty = t := ⟨_, rfl⟩
  have hM := may_kind hy hz ht (p.raw.size == 16) (by simp [hk])
  have h24 := eql_num p.neg false p.mag ⟨#[]⟩ z (by rw [← hz]; cases p.neg <;> simp)
  have h24n := neq_num p.neg false p.mag ⟨#[]⟩ z (by rw [← hz]; cases p.neg <;> simp)
  have hl0 : ((p.items.length : Int) == 0) = t := by rw [← ht]; cases p.items <;> simp; omega
  have hl1 : decide (0 < p.items.length) = !t := by rw [← ht]; cases p.items <;> simp
  have e0 : ((p.kind : Int) == 0) = false := beq_eq_false_iff_ne.2 (by omega)
  have n0 : ((p.kind : Int) != 0) = true := by rw [bne, e0]; rfl
  have e1 : ((p.kind : Int) == 1) = false := beq_eq_false_iff_ne.2 (by omega)
  have n1 : ((p.kind : Int) != 1) = true := by rw [bne, e1]; rfl
  have e2 : ((p.kind : Int) == 2) = false := beq_eq_false_iff_ne.2 (by omega)
  have n2 : ((p.kind : Int) != 2) = true := by rw [bne, e2]; rfl
  have e3 : ((p.kind : Int) == 3) = false := beq_eq_false_iff_ne.2 (by omega)
  have n3 : ((p.kind : Int) != 3) = true := by rw [bne, e3]; rfl
  have e4 : ((p.kind : Int) == 4) = true := beq_iff_eq.2 (by omega)
  have n4 : ((p.kind : Int) != 4) = false := by rw [bne, e4]; rfl
  have e5 : ((p.kind : Int) == 5) = false := beq_eq_false_iff_ne.2 (by omega)
  have n5 : ((p.kind : Int) != 5) = true := by rw [bne, e5]; rfl
  have e6 : ((p.kind : Int) == 6) = false := beq_eq_false_iff_ne.2 (by omega)
  have n6 : ((p.kind : Int) != 6) = true := by rw [bne, e6]; rfl
  have e7 : ((p.kind : Int) == 7) = false := beq_eq_false_iff_ne.2 (by omega)
  have n7 : ((p.kind : Int) != 7) = true := by rw [bne, e7]; rfl
  have HM := Lib.hid (show mayB p = (!y && z && t && (p.raw.size == 16)) by rw [hM]; simp [hk])
  clear hM hz ht hk
  cases y <;> cases z <;> cases t
  · go_enter Tryd.func48, Tryd.ntmps48
    go_wp2_with fail
    go_ret
    exact ⟨by rw [HM.out]; rfl, (Below.refl _ _).alloc (Nat.le_refl _) _⟩
  · go_enter Tryd.func48, Tryd.ntmps48
    go_wp2_with fail
    go_ret
    exact ⟨by rw [HM.out]; rfl, (Below.refl _ _).alloc (Nat.le_refl _) _⟩
  · go_enter Tryd.func48, Tryd.ntmps48
    go_wp2_with fail
    go_ret
    exact ⟨by rw [HM.out]; rfl, (Below.refl _ _).alloc (Nat.le_refl _) _⟩
  · go_enter Tryd.func48, Tryd.ntmps48
    go_wp2_with fail
    go_ret
    exact ⟨by rw [HM.out]; first | rfl | exact congrArg (fun b => Ending.returned (.bool b)) (by rw [Bool.eq_iff_iff]; simp; omega), (Below.refl _ _).alloc (Nat.le_refl _) _⟩
  · go_enter Tryd.func48, Tryd.ntmps48
    go_wp2_with fail
    go_ret
    exact ⟨by rw [HM.out]; rfl, (Below.refl _ _).alloc (Nat.le_refl _) _⟩
  · go_enter Tryd.func48, Tryd.ntmps48
    go_wp2_with fail
    go_ret
    exact ⟨by rw [HM.out]; rfl, (Below.refl _ _).alloc (Nat.le_refl _) _⟩
  · go_enter Tryd.func48, Tryd.ntmps48
    go_wp2_with fail
    go_ret
    exact ⟨by rw [HM.out]; rfl, (Below.refl _ _).alloc (Nat.le_refl _) _⟩
  · go_enter Tryd.func48, Tryd.ntmps48
    go_wp2_with fail
    go_ret
    exact ⟨by rw [HM.out]; rfl, (Below.refl _ _).alloc (Nat.le_refl _) _⟩

set_option maxRecDepth 100000 in
set_option maxHeartbeats 2000000 in
theorem may_5 (p : Pt) (v : Value) (w : World) (hf : Fit p) (hp : PI w 0 w.heap.size p.items v) (hk : p.kind = 5) :
    Calls Tryd.prog 48 #[.agg #[.int .u8 p.kind, .bool p.yes, .bool p.neg, .string p.mag, .string p.raw, v]] w fun e w' => e = .returned (.bool (mayB p)) ∧ Below w.heap.size w w' := by
  obtain ⟨a, cap, rfl, _, _⟩ := hp.open
  clear hp
  have hm := hf.m
  have hr := hf.r
  have hl := hf.l
  have hkb := hf.k
  obtain ⟨y, hy⟩ : ∃ y, p.yes = y := ⟨_, rfl⟩
  obtain ⟨z, hz⟩ : ∃ z, (!p.neg && p.mag.toList.isEmpty) = z := ⟨_, rfl⟩
  obtain ⟨t, ht⟩ : ∃ t, p.items.isEmpty = t := ⟨_, rfl⟩
  have hM := may_kind hy hz ht (decide (p.raw.size ≤ 65536)) (by simp [hk])
  have h24 := eql_num p.neg false p.mag ⟨#[]⟩ z (by rw [← hz]; cases p.neg <;> simp)
  have h24n := neq_num p.neg false p.mag ⟨#[]⟩ z (by rw [← hz]; cases p.neg <;> simp)
  have hl0 : ((p.items.length : Int) == 0) = t := by rw [← ht]; cases p.items <;> simp; omega
  have hl1 : decide (0 < p.items.length) = !t := by rw [← ht]; cases p.items <;> simp
  have e0 : ((p.kind : Int) == 0) = false := beq_eq_false_iff_ne.2 (by omega)
  have n0 : ((p.kind : Int) != 0) = true := by rw [bne, e0]; rfl
  have e1 : ((p.kind : Int) == 1) = false := beq_eq_false_iff_ne.2 (by omega)
  have n1 : ((p.kind : Int) != 1) = true := by rw [bne, e1]; rfl
  have e2 : ((p.kind : Int) == 2) = false := beq_eq_false_iff_ne.2 (by omega)
  have n2 : ((p.kind : Int) != 2) = true := by rw [bne, e2]; rfl
  have e3 : ((p.kind : Int) == 3) = false := beq_eq_false_iff_ne.2 (by omega)
  have n3 : ((p.kind : Int) != 3) = true := by rw [bne, e3]; rfl
  have e4 : ((p.kind : Int) == 4) = false := beq_eq_false_iff_ne.2 (by omega)
  have n4 : ((p.kind : Int) != 4) = true := by rw [bne, e4]; rfl
  have e5 : ((p.kind : Int) == 5) = true := beq_iff_eq.2 (by omega)
  have n5 : ((p.kind : Int) != 5) = false := by rw [bne, e5]; rfl
  have e6 : ((p.kind : Int) == 6) = false := beq_eq_false_iff_ne.2 (by omega)
  have n6 : ((p.kind : Int) != 6) = true := by rw [bne, e6]; rfl
  have e7 : ((p.kind : Int) == 7) = false := beq_eq_false_iff_ne.2 (by omega)
  have n7 : ((p.kind : Int) != 7) = true := by rw [bne, e7]; rfl
  have HM := Lib.hid (show mayB p = (!y && z && t && (decide (p.raw.size ≤ 65536))) by rw [hM]; simp [hk])
  clear hM hz ht hk
  cases y <;> cases z <;> cases t
  · go_enter Tryd.func48, Tryd.ntmps48
    go_wp2_with fail
    go_ret
    exact ⟨by rw [HM.out]; rfl, (Below.refl _ _).alloc (Nat.le_refl _) _⟩
  · go_enter Tryd.func48, Tryd.ntmps48
    go_wp2_with fail
    go_ret
    exact ⟨by rw [HM.out]; rfl, (Below.refl _ _).alloc (Nat.le_refl _) _⟩
  · go_enter Tryd.func48, Tryd.ntmps48
    go_wp2_with fail
    go_ret
    exact ⟨by rw [HM.out]; rfl, (Below.refl _ _).alloc (Nat.le_refl _) _⟩
  · go_enter Tryd.func48, Tryd.ntmps48
    go_wp2_with fail
    go_ret
    exact ⟨by rw [HM.out]; first | rfl | exact congrArg (fun b => Ending.returned (.bool b)) (by rw [Bool.eq_iff_iff]; simp; omega), (Below.refl _ _).alloc (Nat.le_refl _) _⟩
  · go_enter Tryd.func48, Tryd.ntmps48
    go_wp2_with fail
    go_ret
    exact ⟨by rw [HM.out]; rfl, (Below.refl _ _).alloc (Nat.le_refl _) _⟩
  · go_enter Tryd.func48, Tryd.ntmps48
    go_wp2_with fail
    go_ret
    exact ⟨by rw [HM.out]; rfl, (Below.refl _ _).alloc (Nat.le_refl _) _⟩
  · go_enter Tryd.func48, Tryd.ntmps48
    go_wp2_with fail
    go_ret
    exact ⟨by rw [HM.out]; rfl, (Below.refl _ _).alloc (Nat.le_refl _) _⟩
  · go_enter Tryd.func48, Tryd.ntmps48
    go_wp2_with fail
    go_ret
    exact ⟨by rw [HM.out]; rfl, (Below.refl _ _).alloc (Nat.le_refl _) _⟩

set_option maxRecDepth 100000 in
set_option maxHeartbeats 2000000 in
theorem may_6 (p : Pt) (v : Value) (w : World) (hf : Fit p) (hp : PI w 0 w.heap.size p.items v) (hk : p.kind = 6) :
    Calls Tryd.prog 48 #[.agg #[.int .u8 p.kind, .bool p.yes, .bool p.neg, .string p.mag, .string p.raw, v]] w fun e w' => e = .returned (.bool (mayB p)) ∧ Below w.heap.size w w' := by
  obtain ⟨a, cap, rfl, _, _⟩ := hp.open
  clear hp
  have hm := hf.m
  have hr := hf.r
  have hl := hf.l
  have hkb := hf.k
  obtain ⟨y, hy⟩ : ∃ y, p.yes = y := ⟨_, rfl⟩
  obtain ⟨z, hz⟩ : ∃ z, (!p.neg && p.mag.toList.isEmpty) = z := ⟨_, rfl⟩
  obtain ⟨t, ht⟩ : ∃ t, p.items.isEmpty = t := ⟨_, rfl⟩
  have hM := may_kind hy hz ht (decide (p.raw.size ≤ 65536)) (by simp [hk])
  have h24 := eql_num p.neg false p.mag ⟨#[]⟩ z (by rw [← hz]; cases p.neg <;> simp)
  have h24n := neq_num p.neg false p.mag ⟨#[]⟩ z (by rw [← hz]; cases p.neg <;> simp)
  have hl0 : ((p.items.length : Int) == 0) = t := by rw [← ht]; cases p.items <;> simp; omega
  have hl1 : decide (0 < p.items.length) = !t := by rw [← ht]; cases p.items <;> simp
  have e0 : ((p.kind : Int) == 0) = false := beq_eq_false_iff_ne.2 (by omega)
  have n0 : ((p.kind : Int) != 0) = true := by rw [bne, e0]; rfl
  have e1 : ((p.kind : Int) == 1) = false := beq_eq_false_iff_ne.2 (by omega)
  have n1 : ((p.kind : Int) != 1) = true := by rw [bne, e1]; rfl
  have e2 : ((p.kind : Int) == 2) = false := beq_eq_false_iff_ne.2 (by omega)
  have n2 : ((p.kind : Int) != 2) = true := by rw [bne, e2]; rfl
  have e3 : ((p.kind : Int) == 3) = false := beq_eq_false_iff_ne.2 (by omega)
  have n3 : ((p.kind : Int) != 3) = true := by rw [bne, e3]; rfl
  have e4 : ((p.kind : Int) == 4) = false := beq_eq_false_iff_ne.2 (by omega)
  have n4 : ((p.kind : Int) != 4) = true := by rw [bne, e4]; rfl
  have e5 : ((p.kind : Int) == 5) = false := beq_eq_false_iff_ne.2 (by omega)
  have n5 : ((p.kind : Int) != 5) = true := by rw [bne, e5]; rfl
  have e6 : ((p.kind : Int) == 6) = true := beq_iff_eq.2 (by omega)
  have n6 : ((p.kind : Int) != 6) = false := by rw [bne, e6]; rfl
  have e7 : ((p.kind : Int) == 7) = false := beq_eq_false_iff_ne.2 (by omega)
  have n7 : ((p.kind : Int) != 7) = true := by rw [bne, e7]; rfl
  have HM := Lib.hid (show mayB p = (!y && z && t && (decide (p.raw.size ≤ 65536))) by rw [hM]; simp [hk])
  clear hM hz ht hk
  cases y <;> cases z <;> cases t
  · go_enter Tryd.func48, Tryd.ntmps48
    go_wp2_with fail
    go_ret
    exact ⟨by rw [HM.out]; rfl, (Below.refl _ _).alloc (Nat.le_refl _) _⟩
  · go_enter Tryd.func48, Tryd.ntmps48
    go_wp2_with fail
    go_ret
    exact ⟨by rw [HM.out]; rfl, (Below.refl _ _).alloc (Nat.le_refl _) _⟩
  · go_enter Tryd.func48, Tryd.ntmps48
    go_wp2_with fail
    go_ret
    exact ⟨by rw [HM.out]; rfl, (Below.refl _ _).alloc (Nat.le_refl _) _⟩
  · go_enter Tryd.func48, Tryd.ntmps48
    go_wp2_with fail
    go_ret
    exact ⟨by rw [HM.out]; first | rfl | exact congrArg (fun b => Ending.returned (.bool b)) (by rw [Bool.eq_iff_iff]; simp; omega), (Below.refl _ _).alloc (Nat.le_refl _) _⟩
  · go_enter Tryd.func48, Tryd.ntmps48
    go_wp2_with fail
    go_ret
    exact ⟨by rw [HM.out]; rfl, (Below.refl _ _).alloc (Nat.le_refl _) _⟩
  · go_enter Tryd.func48, Tryd.ntmps48
    go_wp2_with fail
    go_ret
    exact ⟨by rw [HM.out]; rfl, (Below.refl _ _).alloc (Nat.le_refl _) _⟩
  · go_enter Tryd.func48, Tryd.ntmps48
    go_wp2_with fail
    go_ret
    exact ⟨by rw [HM.out]; rfl, (Below.refl _ _).alloc (Nat.le_refl _) _⟩
  · go_enter Tryd.func48, Tryd.ntmps48
    go_wp2_with fail
    go_ret
    exact ⟨by rw [HM.out]; rfl, (Below.refl _ _).alloc (Nat.le_refl _) _⟩

set_option maxRecDepth 100000 in
set_option maxHeartbeats 2000000 in
theorem may_8 (p : Pt) (v : Value) (w : World) (hf : Fit p) (hp : PI w 0 w.heap.size p.items v) (hk : 7 < p.kind) :
    Calls Tryd.prog 48 #[.agg #[.int .u8 p.kind, .bool p.yes, .bool p.neg, .string p.mag, .string p.raw, v]] w fun e w' => e = .returned (.bool (mayB p)) ∧ Below w.heap.size w w' := by
  obtain ⟨a, cap, rfl, _, _⟩ := hp.open
  clear hp
  have hm := hf.m
  have hr := hf.r
  have hl := hf.l
  have hkb := hf.k
  obtain ⟨y, hy⟩ : ∃ y, p.yes = y := ⟨_, rfl⟩
  obtain ⟨z, hz⟩ : ∃ z, (!p.neg && p.mag.toList.isEmpty) = z := ⟨_, rfl⟩
  obtain ⟨t, ht⟩ : ∃ t, p.items.isEmpty = t := ⟨_, rfl⟩
  have hM := may_kind hy hz ht (p.raw.toList.isEmpty) (by simp [show ¬ p.kind = 2 by omega, show ¬ p.kind = 4 by omega, show ¬ p.kind = 3 by omega, show ¬ p.kind = 5 by omega, show ¬ p.kind = 6 by omega, show ¬ p.kind = 7 by omega])
  have h24 := eql_num p.neg false p.mag ⟨#[]⟩ z (by rw [← hz]; cases p.neg <;> simp)
  have h24n := neq_num p.neg false p.mag ⟨#[]⟩ z (by rw [← hz]; cases p.neg <;> simp)
  have hl0 : ((p.items.length : Int) == 0) = t := by rw [← ht]; cases p.items <;> simp; omega
  have hl1 : decide (0 < p.items.length) = !t := by rw [← ht]; cases p.items <;> simp
  have e0 : ((p.kind : Int) == 0) = false := beq_eq_false_iff_ne.2 (by omega)
  have n0 : ((p.kind : Int) != 0) = true := by rw [bne, e0]; rfl
  have e1 : ((p.kind : Int) == 1) = false := beq_eq_false_iff_ne.2 (by omega)
  have n1 : ((p.kind : Int) != 1) = true := by rw [bne, e1]; rfl
  have e2 : ((p.kind : Int) == 2) = false := beq_eq_false_iff_ne.2 (by omega)
  have n2 : ((p.kind : Int) != 2) = true := by rw [bne, e2]; rfl
  have e3 : ((p.kind : Int) == 3) = false := beq_eq_false_iff_ne.2 (by omega)
  have n3 : ((p.kind : Int) != 3) = true := by rw [bne, e3]; rfl
  have e4 : ((p.kind : Int) == 4) = false := beq_eq_false_iff_ne.2 (by omega)
  have n4 : ((p.kind : Int) != 4) = true := by rw [bne, e4]; rfl
  have e5 : ((p.kind : Int) == 5) = false := beq_eq_false_iff_ne.2 (by omega)
  have n5 : ((p.kind : Int) != 5) = true := by rw [bne, e5]; rfl
  have e6 : ((p.kind : Int) == 6) = false := beq_eq_false_iff_ne.2 (by omega)
  have n6 : ((p.kind : Int) != 6) = true := by rw [bne, e6]; rfl
  have e7 : ((p.kind : Int) == 7) = false := beq_eq_false_iff_ne.2 (by omega)
  have n7 : ((p.kind : Int) != 7) = true := by rw [bne, e7]; rfl
  have HM := Lib.hid (show mayB p = false by rw [hM]; simp [show ¬ p.kind ≤ 7 by omega])
  clear hM hz ht hk
  cases y <;> cases z <;> cases t
  · go_enter Tryd.func48, Tryd.ntmps48
    go_wp2_with fail
    go_ret
    exact ⟨by rw [HM.out]; rfl, (Below.refl _ _).alloc (Nat.le_refl _) _⟩
  · go_enter Tryd.func48, Tryd.ntmps48
    go_wp2_with fail
    go_ret
    exact ⟨by rw [HM.out]; rfl, (Below.refl _ _).alloc (Nat.le_refl _) _⟩
  · go_enter Tryd.func48, Tryd.ntmps48
    go_wp2_with fail
    go_ret
    exact ⟨by rw [HM.out]; rfl, (Below.refl _ _).alloc (Nat.le_refl _) _⟩
  · go_enter Tryd.func48, Tryd.ntmps48
    go_wp2_with fail
    go_ret
    exact ⟨by rw [HM.out]; rfl, (Below.refl _ _).alloc (Nat.le_refl _) _⟩
  · go_enter Tryd.func48, Tryd.ntmps48
    go_wp2_with fail
    go_ret
    exact ⟨by rw [HM.out]; rfl, (Below.refl _ _).alloc (Nat.le_refl _) _⟩
  · go_enter Tryd.func48, Tryd.ntmps48
    go_wp2_with fail
    go_ret
    exact ⟨by rw [HM.out]; rfl, (Below.refl _ _).alloc (Nat.le_refl _) _⟩
  · go_enter Tryd.func48, Tryd.ntmps48
    go_wp2_with fail
    go_ret
    exact ⟨by rw [HM.out]; rfl, (Below.refl _ _).alloc (Nat.le_refl _) _⟩
  · go_enter Tryd.func48, Tryd.ntmps48
    go_wp2_with fail
    go_ret
    exact ⟨by rw [HM.out]; rfl, (Below.refl _ _).alloc (Nat.le_refl _) _⟩

end Go.Proofs.YtcgphlilijeifaaDoor.V
end
section
/-
  May a part be: the document's answer.
-/
namespace Go.Proofs.YtcgphlilijeifaaDoor.V
open Go.RowKit

set_option maxRecDepth 100000 in
set_option maxHeartbeats 2000000 in
theorem rmay_0 (p : Pt) (v : Value) (w : World) (hf : Fit p) (hp : PI w 0 w.heap.size p.items v) (hk : p.kind = 0) :
    Calls Tryd.prog 46 #[.agg #[.int .u8 p.kind, .bool p.yes, .bool p.neg, .string p.mag, .string p.raw, v]] w fun e w' => e = .returned (.bool (mayB p)) ∧ Below w.heap.size w w' := by
  obtain ⟨a, cap, rfl, _, _⟩ := hp.open
  clear hp
  have hm := hf.m
  have hr := hf.r
  have hl := hf.l
  have hkb := hf.k
  obtain ⟨y, hy⟩ : ∃ y, p.yes = y := ⟨_, rfl⟩
  obtain ⟨z, hz⟩ : ∃ z, (!p.neg && p.mag.toList.isEmpty) = z := ⟨_, rfl⟩
  obtain ⟨t, ht⟩ : ∃ t, p.items.isEmpty = t := ⟨_, rfl⟩
  have hM := may_kind hy hz ht (p.raw.toList.isEmpty) (by simp [hk])
  have h24 := eql_num p.neg false p.mag ⟨#[]⟩ z (by rw [← hz]; cases p.neg <;> simp)
  have h24n := neq_num p.neg false p.mag ⟨#[]⟩ z (by rw [← hz]; cases p.neg <;> simp)
  have hl0 : ((p.items.length : Int) == 0) = t := by rw [← ht]; cases p.items <;> simp; omega
  have hl1 : decide (0 < p.items.length) = !t := by rw [← ht]; cases p.items <;> simp
  have e0 : ((p.kind : Int) == 0) = true := beq_iff_eq.2 (by omega)
  have n0 : ((p.kind : Int) != 0) = false := by rw [bne, e0]; rfl
  have e1 : ((p.kind : Int) == 1) = false := beq_eq_false_iff_ne.2 (by omega)
  have n1 : ((p.kind : Int) != 1) = true := by rw [bne, e1]; rfl
  have e2 : ((p.kind : Int) == 2) = false := beq_eq_false_iff_ne.2 (by omega)
  have n2 : ((p.kind : Int) != 2) = true := by rw [bne, e2]; rfl
  have e3 : ((p.kind : Int) == 3) = false := beq_eq_false_iff_ne.2 (by omega)
  have n3 : ((p.kind : Int) != 3) = true := by rw [bne, e3]; rfl
  have e4 : ((p.kind : Int) == 4) = false := beq_eq_false_iff_ne.2 (by omega)
  have n4 : ((p.kind : Int) != 4) = true := by rw [bne, e4]; rfl
  have e5 : ((p.kind : Int) == 5) = false := beq_eq_false_iff_ne.2 (by omega)
  have n5 : ((p.kind : Int) != 5) = true := by rw [bne, e5]; rfl
  have e6 : ((p.kind : Int) == 6) = false := beq_eq_false_iff_ne.2 (by omega)
  have n6 : ((p.kind : Int) != 6) = true := by rw [bne, e6]; rfl
  have e7 : ((p.kind : Int) == 7) = false := beq_eq_false_iff_ne.2 (by omega)
  have n7 : ((p.kind : Int) != 7) = true := by rw [bne, e7]; rfl
  have g7 : decide (7 < (p.kind : Int)) = false := by simp; omega
  have HM := Lib.hid (show mayB p = (!y && z && t && (p.raw.toList.isEmpty)) by rw [hM]; simp [hk])
  clear hM hz ht hk
  cases y <;> cases z <;> cases t
  · go_enter Tryd.func46, Tryd.ntmps46
    go_wp2_with fail
    go_ret
    exact ⟨by rw [HM.out]; rfl, (((Below.refl _ _).alloc (Nat.le_refl _) _).alloc (by simp) _)⟩
  · go_enter Tryd.func46, Tryd.ntmps46
    go_wp2_with fail
    go_ret
    exact ⟨by rw [HM.out]; rfl, (((Below.refl _ _).alloc (Nat.le_refl _) _).alloc (by simp) _)⟩
  · go_enter Tryd.func46, Tryd.ntmps46
    go_wp2_with fail
    go_ret
    exact ⟨by rw [HM.out]; rfl, (((Below.refl _ _).alloc (Nat.le_refl _) _).alloc (by simp) _)⟩
  · have hlz : ¬ 0 < p.items.length := of_decide_eq_false hl1
    have hlx : decide (1024 < (p.items.length : Int)) = false := by simp; omega
    clear hlz
    obtain ⟨x, hx⟩ : ∃ x, p.raw.toList.isEmpty = x := ⟨_, rfl⟩
    rw [hx] at HM
    cases x
    · go_enter Tryd.func46, Tryd.ntmps46
      go_wp2_with fail
      go_ret
      exact ⟨by rw [HM.out]; rfl, (((Below.refl _ _).alloc (Nat.le_refl _) _).alloc (by simp) _)⟩
    · have hlen : p.raw.size = 0 := by rw [← size_of, List.isEmpty_iff.1 hx]; rfl
      have hl64 : decide (65536 < (p.raw.size : Int)) = false := by simp; omega
      clear hlen
      go_enter Tryd.func46, Tryd.ntmps46
      go_wp2_with fail
      refine wp_loop_rounds 1 ?_
      rw [rounds_succ]
      go_wp2_with fail
      go_ret
      exact ⟨by rw [HM.out]; rfl, (((Below.refl _ _).alloc (Nat.le_refl _) _).alloc (by simp) _)⟩
  · go_enter Tryd.func46, Tryd.ntmps46
    go_wp2_with fail
    go_ret
    exact ⟨by rw [HM.out]; rfl, (((Below.refl _ _).alloc (Nat.le_refl _) _).alloc (by simp) _)⟩
  · go_enter Tryd.func46, Tryd.ntmps46
    go_wp2_with fail
    go_ret
    exact ⟨by rw [HM.out]; rfl, (((Below.refl _ _).alloc (Nat.le_refl _) _).alloc (by simp) _)⟩
  · go_enter Tryd.func46, Tryd.ntmps46
    go_wp2_with fail
    go_ret
    exact ⟨by rw [HM.out]; rfl, (((Below.refl _ _).alloc (Nat.le_refl _) _).alloc (by simp) _)⟩
  · go_enter Tryd.func46, Tryd.ntmps46
    go_wp2_with fail
    go_ret
    exact ⟨by rw [HM.out]; rfl, (((Below.refl _ _).alloc (Nat.le_refl _) _).alloc (by simp) _)⟩

set_option maxRecDepth 100000 in
set_option maxHeartbeats 2000000 in
theorem rmay_1 (p : Pt) (v : Value) (w : World) (hf : Fit p) (hp : PI w 0 w.heap.size p.items v) (hk : p.kind = 1) :
    Calls Tryd.prog 46 #[.agg #[.int .u8 p.kind, .bool p.yes, .bool p.neg, .string p.mag, .string p.raw, v]] w fun e w' => e = .returned (.bool (mayB p)) ∧ Below w.heap.size w w' := by
  obtain ⟨a, cap, rfl, _, _⟩ := hp.open
  clear hp
  have hm := hf.m
  have hr := hf.r
  have hl := hf.l
  have hkb := hf.k
  obtain ⟨y, hy⟩ : ∃ y, p.yes = y := ⟨_, rfl⟩
  obtain ⟨z, hz⟩ : ∃ z, (!p.neg && p.mag.toList.isEmpty) = z := ⟨_, rfl⟩
  obtain ⟨t, ht⟩ : ∃ t, p.items.isEmpty = t := ⟨_, rfl⟩
  have hM := may_kind hy hz ht (p.raw.toList.isEmpty) (by simp [hk])
  have h24 := eql_num p.neg false p.mag ⟨#[]⟩ z (by rw [← hz]; cases p.neg <;> simp)
  have h24n := neq_num p.neg false p.mag ⟨#[]⟩ z (by rw [← hz]; cases p.neg <;> simp)
  have hl0 : ((p.items.length : Int) == 0) = t := by rw [← ht]; cases p.items <;> simp; omega
  have hl1 : decide (0 < p.items.length) = !t := by rw [← ht]; cases p.items <;> simp
  have e0 : ((p.kind : Int) == 0) = false := beq_eq_false_iff_ne.2 (by omega)
  have n0 : ((p.kind : Int) != 0) = true := by rw [bne, e0]; rfl
  have e1 : ((p.kind : Int) == 1) = true := beq_iff_eq.2 (by omega)
  have n1 : ((p.kind : Int) != 1) = false := by rw [bne, e1]; rfl
  have e2 : ((p.kind : Int) == 2) = false := beq_eq_false_iff_ne.2 (by omega)
  have n2 : ((p.kind : Int) != 2) = true := by rw [bne, e2]; rfl
  have e3 : ((p.kind : Int) == 3) = false := beq_eq_false_iff_ne.2 (by omega)
  have n3 : ((p.kind : Int) != 3) = true := by rw [bne, e3]; rfl
  have e4 : ((p.kind : Int) == 4) = false := beq_eq_false_iff_ne.2 (by omega)
  have n4 : ((p.kind : Int) != 4) = true := by rw [bne, e4]; rfl
  have e5 : ((p.kind : Int) == 5) = false := beq_eq_false_iff_ne.2 (by omega)
  have n5 : ((p.kind : Int) != 5) = true := by rw [bne, e5]; rfl
  have e6 : ((p.kind : Int) == 6) = false := beq_eq_false_iff_ne.2 (by omega)
  have n6 : ((p.kind : Int) != 6) = true := by rw [bne, e6]; rfl
  have e7 : ((p.kind : Int) == 7) = false := beq_eq_false_iff_ne.2 (by omega)
  have n7 : ((p.kind : Int) != 7) = true := by rw [bne, e7]; rfl
  have g7 : decide (7 < (p.kind : Int)) = false := by simp; omega
  have HM := Lib.hid (show mayB p = (z && t && (p.raw.toList.isEmpty)) by rw [hM]; simp [hk])
  clear hM hz ht hk
  cases z <;> cases t
  · go_enter Tryd.func46, Tryd.ntmps46
    go_wp2_with fail
    go_ret
    exact ⟨by rw [HM.out]; rfl, (((Below.refl _ _).alloc (Nat.le_refl _) _).alloc (by simp) _)⟩
  · go_enter Tryd.func46, Tryd.ntmps46
    go_wp2_with fail
    go_ret
    exact ⟨by rw [HM.out]; rfl, (((Below.refl _ _).alloc (Nat.le_refl _) _).alloc (by simp) _)⟩
  · go_enter Tryd.func46, Tryd.ntmps46
    go_wp2_with fail
    go_ret
    exact ⟨by rw [HM.out]; rfl, (((Below.refl _ _).alloc (Nat.le_refl _) _).alloc (by simp) _)⟩
  · have hlz : ¬ 0 < p.items.length := of_decide_eq_false hl1
    have hlx : decide (1024 < (p.items.length : Int)) = false := by simp; omega
    clear hlz
    obtain ⟨x, hx⟩ : ∃ x, p.raw.toList.isEmpty = x := ⟨_, rfl⟩
    rw [hx] at HM
    cases x
    · go_enter Tryd.func46, Tryd.ntmps46
      go_wp2_with fail
      go_ret
      exact ⟨by rw [HM.out]; rfl, (((Below.refl _ _).alloc (Nat.le_refl _) _).alloc (by simp) _)⟩
    · have hlen : p.raw.size = 0 := by rw [← size_of, List.isEmpty_iff.1 hx]; rfl
      have hl64 : decide (65536 < (p.raw.size : Int)) = false := by simp; omega
      clear hlen
      go_enter Tryd.func46, Tryd.ntmps46
      go_wp2_with fail
      refine wp_loop_rounds 1 ?_
      rw [rounds_succ]
      go_wp2_with fail
      go_ret
      exact ⟨by rw [HM.out]; rfl, (((Below.refl _ _).alloc (Nat.le_refl _) _).alloc (by simp) _)⟩

set_option maxRecDepth 100000 in
set_option maxHeartbeats 2000000 in
theorem rmay_2 (p : Pt) (v : Value) (w : World) (hf : Fit p) (hp : PI w 0 w.heap.size p.items v) (hk : p.kind = 2) :
    Calls Tryd.prog 46 #[.agg #[.int .u8 p.kind, .bool p.yes, .bool p.neg, .string p.mag, .string p.raw, v]] w fun e w' => e = .returned (.bool (mayB p)) ∧ Below w.heap.size w w' := by
  obtain ⟨a, cap, rfl, _, _⟩ := hp.open
  clear hp
  have hm := hf.m
  have hr := hf.r
  have hl := hf.l
  have hkb := hf.k
  obtain ⟨y, hy⟩ : ∃ y, p.yes = y := ⟨_, rfl⟩
  obtain ⟨z, hz⟩ : ∃ z, (!p.neg && p.mag.toList.isEmpty) = z := ⟨_, rfl⟩
  obtain ⟨t, ht⟩ : ∃ t, p.items.isEmpty = t := ⟨_, rfl⟩
  have hM := may_kind hy hz ht (p.raw.toList.isEmpty && chk p.neg p.mag.toList == 0) (by simp [hk])
  have h24 := eql_num p.neg false p.mag ⟨#[]⟩ z (by rw [← hz]; cases p.neg <;> simp)
  have h24n := neq_num p.neg false p.mag ⟨#[]⟩ z (by rw [← hz]; cases p.neg <;> simp)
  have hl0 : ((p.items.length : Int) == 0) = t := by rw [← ht]; cases p.items <;> simp; omega
  have hl1 : decide (0 < p.items.length) = !t := by rw [← ht]; cases p.items <;> simp
  have e0 : ((p.kind : Int) == 0) = false := beq_eq_false_iff_ne.2 (by omega)
  have n0 : ((p.kind : Int) != 0) = true := by rw [bne, e0]; rfl
  have e1 : ((p.kind : Int) == 1) = false := beq_eq_false_iff_ne.2 (by omega)
  have n1 : ((p.kind : Int) != 1) = true := by rw [bne, e1]; rfl
  have e2 : ((p.kind : Int) == 2) = true := beq_iff_eq.2 (by omega)
  have n2 : ((p.kind : Int) != 2) = false := by rw [bne, e2]; rfl
  have e3 : ((p.kind : Int) == 3) = false := beq_eq_false_iff_ne.2 (by omega)
  have n3 : ((p.kind : Int) != 3) = true := by rw [bne, e3]; rfl
  have e4 : ((p.kind : Int) == 4) = false := beq_eq_false_iff_ne.2 (by omega)
  have n4 : ((p.kind : Int) != 4) = true := by rw [bne, e4]; rfl
  have e5 : ((p.kind : Int) == 5) = false := beq_eq_false_iff_ne.2 (by omega)
  have n5 : ((p.kind : Int) != 5) = true := by rw [bne, e5]; rfl
  have e6 : ((p.kind : Int) == 6) = false := beq_eq_false_iff_ne.2 (by omega)
  have n6 : ((p.kind : Int) != 6) = true := by rw [bne, e6]; rfl
  have e7 : ((p.kind : Int) == 7) = false := beq_eq_false_iff_ne.2 (by omega)
  have n7 : ((p.kind : Int) != 7) = true := by rw [bne, e7]; rfl
  have g7 : decide (7 < (p.kind : Int)) = false := by simp; omega
  have HM := Lib.hid (show mayB p = (!y && true && t && (p.raw.toList.isEmpty && chk p.neg p.mag.toList == 0)) by rw [hM]; simp [hk])
  clear hM hz ht hk
  cases y <;> cases t
  · go_enter Tryd.func46, Tryd.ntmps46
    go_wp2_with fail
    go_ret
    exact ⟨by rw [HM.out]; rfl, (((Below.refl _ _).alloc (Nat.le_refl _) _).alloc (by simp) _)⟩
  · have hlz : ¬ 0 < p.items.length := of_decide_eq_false hl1
    have hlx : decide (1024 < (p.items.length : Int)) = false := by simp; omega
    clear hlz
    obtain ⟨x, hx⟩ : ∃ x, p.raw.toList.isEmpty = x := ⟨_, rfl⟩
    rw [hx] at HM
    cases x
    · go_enter Tryd.func46, Tryd.ntmps46
      go_wp2_with fail
      go_ret
      exact ⟨by rw [HM.out]; rfl, (((Below.refl _ _).alloc (Nat.le_refl _) _).alloc (by simp) _)⟩
    · obtain ⟨r, hr2⟩ : ∃ r, chk p.neg p.mag.toList = r := ⟨_, rfl⟩
      rw [hr2] at HM
      have HR := Lib.hid hr2
      have hlen : p.raw.size = 0 := by rw [← size_of, List.isEmpty_iff.1 hx]; rfl
      have hl64 : decide (65536 < (p.raw.size : Int)) = false := by simp; omega
      clear hr2 hlen
      go_enter Tryd.func46, Tryd.ntmps46
      go_wp2_with fail
      refine (rcheck_any p.neg p.mag _ (by omega) r HR.out).mono ?_
      rintro e w1 ⟨rfl, hb1⟩
      go_wp2_with fail
      go_ret
      exact ⟨by rw [HM.out]; rfl, two ((((Below.refl _ _).alloc (Nat.le_refl _) _).alloc (by simp) _)) hb1⟩
  · go_enter Tryd.func46, Tryd.ntmps46
    go_wp2_with fail
    go_ret
    exact ⟨by rw [HM.out]; rfl, (((Below.refl _ _).alloc (Nat.le_refl _) _).alloc (by simp) _)⟩
  · go_enter Tryd.func46, Tryd.ntmps46
    go_wp2_with fail
    go_ret
    exact ⟨by rw [HM.out]; rfl, (((Below.refl _ _).alloc (Nat.le_refl _) _).alloc (by simp) _)⟩

set_option maxRecDepth 100000 in
set_option maxHeartbeats 2000000 in
theorem rmay_3 (p : Pt) (v : Value) (w : World) (hf : Fit p) (hp : PI w 0 w.heap.size p.items v) (hk : p.kind = 3) :
    Calls Tryd.prog 46 #[.agg #[.int .u8 p.kind, .bool p.yes, .bool p.neg, .string p.mag, .string p.raw, v]] w fun e w' => e = .returned (.bool (mayB p)) ∧ Below w.heap.size w w' := by
  obtain ⟨a, cap, rfl, _, _⟩ := hp.open
  clear hp
  have hm := hf.m
  have hr := hf.r
  have hl := hf.l
  have hkb := hf.k
  obtain ⟨y, hy⟩ : ∃ y, p.yes = y := ⟨_, rfl⟩
  obtain ⟨z, hz⟩ : ∃ z, (!p.neg && p.mag.toList.isEmpty) = z := ⟨_, rfl⟩
  obtain ⟨t, ht⟩ : ∃ t, p.items.isEmpty = t := ⟨_, rfl⟩
  have hM := may_kind hy hz ht (decide (p.raw.size ≤ 65536)) (by simp [hk])
  have h24 := eql_num p.neg false p.mag ⟨#[]⟩ z (by rw [← hz]; cases p.neg <;> simp)
  have h24n := neq_num p.neg false p.mag ⟨#[]⟩ z (by rw [← hz]; cases p.neg <;> simp)
  have hl0 : ((p.items.length : Int) == 0) = t := by rw [← ht]; cases p.items <;> simp; omega
  have hl1 : decide (0 < p.items.length) = !t := by rw [← ht]; cases p.items <;> simp
  have e0 : ((p.kind : Int) == 0) = false := beq_eq_false_iff_ne.2 (by omega)
  have n0 : ((p.kind : Int) != 0) = true := by rw [bne, e0]; rfl
  have e1 : ((p.kind : Int) == 1) = false := beq_eq_false_iff_ne.2 (by omega)
  have n1 : ((p.kind : Int) != 1) = true := by rw [bne, e1]; rfl
  have e2 : ((p.kind : Int) == 2) = false := beq_eq_false_iff_ne.2 (by omega)
  have n2 : ((p.kind : Int) != 2) = true := by rw [bne, e2]; rfl
  have e3 : ((p.kind : Int) == 3) = true := beq_iff_eq.2 (by omega)
  have n3 : ((p.kind : Int) != 3) = false := by rw [bne, e3]; rfl
  have e4 : ((p.kind : Int) == 4) = false := beq_eq_false_iff_ne.2 (by omega)
  have n4 : ((p.kind : Int) != 4) = true := by rw [bne, e4]; rfl
  have e5 : ((p.kind : Int) == 5) = false := beq_eq_false_iff_ne.2 (by omega)
  have n5 : ((p.kind : Int) != 5) = true := by rw [bne, e5]; rfl
  have e6 : ((p.kind : Int) == 6) = false := beq_eq_false_iff_ne.2 (by omega)
  have n6 : ((p.kind : Int) != 6) = true := by rw [bne, e6]; rfl
  have e7 : ((p.kind : Int) == 7) = false := beq_eq_false_iff_ne.2 (by omega)
  have n7 : ((p.kind : Int) != 7) = true := by rw [bne, e7]; rfl
  have g7 : decide (7 < (p.kind : Int)) = false := by simp; omega
  have HM := Lib.hid (show mayB p = (!y && z && t && (decide (p.raw.size ≤ 65536))) by rw [hM]; simp [hk])
  clear hM hz ht hk
  cases y <;> cases z <;> cases t
  · go_enter Tryd.func46, Tryd.ntmps46
    go_wp2_with fail
    go_ret
    exact ⟨by rw [HM.out]; rfl, (((Below.refl _ _).alloc (Nat.le_refl _) _).alloc (by simp) _)⟩
  · go_enter Tryd.func46, Tryd.ntmps46
    go_wp2_with fail
    go_ret
    exact ⟨by rw [HM.out]; rfl, (((Below.refl _ _).alloc (Nat.le_refl _) _).alloc (by simp) _)⟩
  · go_enter Tryd.func46, Tryd.ntmps46
    go_wp2_with fail
    go_ret
    exact ⟨by rw [HM.out]; rfl, (((Below.refl _ _).alloc (Nat.le_refl _) _).alloc (by simp) _)⟩
  · have hlz : ¬ 0 < p.items.length := of_decide_eq_false hl1
    have hlx : decide (1024 < (p.items.length : Int)) = false := by simp; omega
    clear hlz
    by_cases hle : p.raw.size ≤ 65536
    · have hl64 : decide (65536 < (p.raw.size : Int)) = false := by simp; omega
      have HM2 := Lib.hid (show mayB p = true by rw [HM.out]; simpa using hle)
      go_enter Tryd.func46, Tryd.ntmps46
      go_wp2_with fail
      refine wp_loop_rounds 1 ?_
      rw [rounds_succ]
      go_wp2_with fail
      go_ret
      exact ⟨by rw [HM2.out]; rfl, (((Below.refl _ _).alloc (Nat.le_refl _) _).alloc (by simp) _)⟩
    · have hl64 : decide (65536 < (p.raw.size : Int)) = true := by simp; omega
      have HM2 := Lib.hid (show mayB p = false by rw [HM.out]; simpa using hle)
      go_enter Tryd.func46, Tryd.ntmps46
      go_wp2_with fail
      go_ret
      exact ⟨by rw [HM2.out]; rfl, (((Below.refl _ _).alloc (Nat.le_refl _) _).alloc (by simp) _)⟩
  · go_enter Tryd.func46, Tryd.ntmps46
    go_wp2_with fail
    go_ret
    exact ⟨by rw [HM.out]; rfl, (((Below.refl _ _).alloc (Nat.le_refl _) _).alloc (by simp) _)⟩
  · go_enter Tryd.func46, Tryd.ntmps46
    go_wp2_with fail
    go_ret
    exact ⟨by rw [HM.out]; rfl, (((Below.refl _ _).alloc (Nat.le_refl _) _).alloc (by simp) _)⟩
  · go_enter Tryd.func46, Tryd.ntmps46
    go_wp2_with fail
    go_ret
    exact ⟨by rw [HM.out]; rfl, (((Below.refl _ _).alloc (Nat.le_refl _) _).alloc (by simp) _)⟩
  · go_enter Tryd.func46, Tryd.ntmps46
    go_wp2_with fail
    go_ret
    exact ⟨by rw [HM.out]; rfl, (((Below.refl _ _).alloc (Nat.le_refl _) _).alloc (by simp) _)⟩

set_option maxRecDepth 100000 in
set_option maxHeartbeats 2000000 in
theorem rmay_4 (p : Pt) (v : Value) (w : World) (hf : Fit p) (hp : PI w 0 w.heap.size p.items v) (hk : p.kind = 4) :
    Calls Tryd.prog 46 #[.agg #[.int .u8 p.kind, .bool p.yes, .bool p.neg, .string p.mag, .string p.raw, v]] w fun e w' => e = .returned (.bool (mayB p)) ∧ Below w.heap.size w w' := by
  obtain ⟨a, cap, rfl, _, _⟩ := hp.open
  clear hp
  have hm := hf.m
  have hr := hf.r
  have hl := hf.l
  have hkb := hf.k
  obtain ⟨y, hy⟩ : ∃ y, p.yes = y := ⟨_, rfl⟩
  obtain ⟨z, hz⟩ : ∃ z, (!p.neg && p.mag.toList.isEmpty) = z := ⟨_, rfl⟩
  obtain ⟨t, ht⟩ : ∃ t, p.items.isEmpty = t := ⟨_, rfl⟩
  have hM := may_kind hy hz ht (p.raw.size == 16) (by simp [hk])
  have h24 := eql_num p.neg false p.mag ⟨#[]⟩ z (by rw [← hz]; cases p.neg <;> simp)
  have h24n := neq_num p.neg false p.mag ⟨#[]⟩ z (by rw [← hz]; cases p.neg <;> simp)
  have hl0 : ((p.items.length : Int) == 0) = t := by rw [← ht]; cases p.items <;> simp; omega
  have hl1 : decide (0 < p.items.length) = !t := by rw [← ht]; cases p.items <;> simp
  have e0 : ((p.kind : Int) == 0) = false := beq_eq_false_iff_ne.2 (by omega)
  have n0 : ((p.kind : Int) != 0) = true := by rw [bne, e0]; rfl
  have e1 : ((p.kind : Int) == 1) = false := beq_eq_false_iff_ne.2 (by omega)
  have n1 : ((p.kind : Int) != 1) = true := by rw [bne, e1]; rfl
  have e2 : ((p.kind : Int) == 2) = false := beq_eq_false_iff_ne.2 (by omega)
  have n2 : ((p.kind : Int) != 2) = true := by rw [bne, e2]; rfl
  have e3 : ((p.kind : Int) == 3) = false := beq_eq_false_iff_ne.2 (by omega)
  have n3 : ((p.kind : Int) != 3) = true := by rw [bne, e3]; rfl
  have e4 : ((p.kind : Int) == 4) = true := beq_iff_eq.2 (by omega)
  have n4 : ((p.kind : Int) != 4) = false := by rw [bne, e4]; rfl
  have e5 : ((p.kind : Int) == 5) = false := beq_eq_false_iff_ne.2 (by omega)
  have n5 : ((p.kind : Int) != 5) = true := by rw [bne, e5]; rfl
  have e6 : ((p.kind : Int) == 6) = false := beq_eq_false_iff_ne.2 (by omega)
  have n6 : ((p.kind : Int) != 6) = true := by rw [bne, e6]; rfl
  have e7 : ((p.kind : Int) == 7) = false := beq_eq_false_iff_ne.2 (by omega)
  have n7 : ((p.kind : Int) != 7) = true := by rw [bne, e7]; rfl
  have g7 : decide (7 < (p.kind : Int)) = false := by simp; omega
  have HM := Lib.hid (show mayB p = (!y && z && t && (p.raw.size == 16)) by rw [hM]; simp [hk])
  clear hM hz ht hk
  cases y <;> cases z <;> cases t
  · go_enter Tryd.func46, Tryd.ntmps46
    go_wp2_with fail
    go_ret
    exact ⟨by rw [HM.out]; rfl, (((Below.refl _ _).alloc (Nat.le_refl _) _).alloc (by simp) _)⟩
  · go_enter Tryd.func46, Tryd.ntmps46
    go_wp2_with fail
    go_ret
    exact ⟨by rw [HM.out]; rfl, (((Below.refl _ _).alloc (Nat.le_refl _) _).alloc (by simp) _)⟩
  · go_enter Tryd.func46, Tryd.ntmps46
    go_wp2_with fail
    go_ret
    exact ⟨by rw [HM.out]; rfl, (((Below.refl _ _).alloc (Nat.le_refl _) _).alloc (by simp) _)⟩
  · have hlz : ¬ 0 < p.items.length := of_decide_eq_false hl1
    have hlx : decide (1024 < (p.items.length : Int)) = false := by simp; omega
    clear hlz
    by_cases hle : p.raw.size = 16
    · have hl64 : decide (65536 < (p.raw.size : Int)) = false := by simp; omega
      have hl16 : ((p.raw.size : Int) != 16) = false := by simp; omega
      have HM2 := Lib.hid (show mayB p = true by rw [HM.out]; simpa using hle)
      clear hle
      go_enter Tryd.func46, Tryd.ntmps46
      go_wp2_with fail
      refine wp_loop_rounds 1 ?_
      rw [rounds_succ]
      go_wp2_with fail
      go_ret
      exact ⟨by rw [HM2.out]; rfl, (((Below.refl _ _).alloc (Nat.le_refl _) _).alloc (by simp) _)⟩
    · have hl16 : ((p.raw.size : Int) != 16) = true := by simp; omega
      have HM2 := Lib.hid (show mayB p = false by rw [HM.out]; simpa using hle)
      by_cases hle2 : p.raw.size ≤ 65536
      · have hl64 : decide (65536 < (p.raw.size : Int)) = false := by simp; omega
        go_enter Tryd.func46, Tryd.ntmps46
        go_wp2_with fail
        go_ret
        exact ⟨by rw [HM2.out]; rfl, (((Below.refl _ _).alloc (Nat.le_refl _) _).alloc (by simp) _)⟩
      · have hl64 : decide (65536 < (p.raw.size : Int)) = true := by simp; omega
        go_enter Tryd.func46, Tryd.ntmps46
        go_wp2_with fail
        go_ret
        exact ⟨by rw [HM2.out]; rfl, (((Below.refl _ _).alloc (Nat.le_refl _) _).alloc (by simp) _)⟩
  · go_enter Tryd.func46, Tryd.ntmps46
    go_wp2_with fail
    go_ret
    exact ⟨by rw [HM.out]; rfl, (((Below.refl _ _).alloc (Nat.le_refl _) _).alloc (by simp) _)⟩
  · go_enter Tryd.func46, Tryd.ntmps46
    go_wp2_with fail
    go_ret
    exact ⟨by rw [HM.out]; rfl, (((Below.refl _ _).alloc (Nat.le_refl _) _).alloc (by simp) _)⟩
  · go_enter Tryd.func46, Tryd.ntmps46
    go_wp2_with fail
    go_ret
    exact ⟨by rw [HM.out]; rfl, (((Below.refl _ _).alloc (Nat.le_refl _) _).alloc (by simp) _)⟩
  · go_enter Tryd.func46, Tryd.ntmps46
    go_wp2_with fail
    go_ret
    exact ⟨by rw [HM.out]; rfl, (((Below.refl _ _).alloc (Nat.le_refl _) _).alloc (by simp) _)⟩

set_option maxRecDepth 100000 in
set_option maxHeartbeats 2000000 in
theorem rmay_5 (p : Pt) (v : Value) (w : World) (hf : Fit p) (hp : PI w 0 w.heap.size p.items v) (hk : p.kind = 5) :
    Calls Tryd.prog 46 #[.agg #[.int .u8 p.kind, .bool p.yes, .bool p.neg, .string p.mag, .string p.raw, v]] w fun e w' => e = .returned (.bool (mayB p)) ∧ Below w.heap.size w w' := by
  obtain ⟨a, cap, rfl, _, _⟩ := hp.open
  clear hp
  have hm := hf.m
  have hr := hf.r
  have hl := hf.l
  have hkb := hf.k
  obtain ⟨y, hy⟩ : ∃ y, p.yes = y := ⟨_, rfl⟩
  obtain ⟨z, hz⟩ : ∃ z, (!p.neg && p.mag.toList.isEmpty) = z := ⟨_, rfl⟩
  obtain ⟨t, ht⟩ : ∃ t, p.items.isEmpty = t := ⟨_, rfl⟩
  have hM := may_kind hy hz ht (decide (p.raw.size ≤ 65536)) (by simp [hk])
  have h24 := eql_num p.neg false p.mag ⟨#[]⟩ z (by rw [← hz]; cases p.neg <;> simp)
  have h24n := neq_num p.neg false p.mag ⟨#[]⟩ z (by rw [← hz]; cases p.neg <;> simp)
  have hl0 : ((p.items.length : Int) == 0) = t := by rw [← ht]; cases p.items <;> simp; omega
  have hl1 : decide (0 < p.items.length) = !t := by rw [← ht]; cases p.items <;> simp
  have e0 : ((p.kind : Int) == 0) = false := beq_eq_false_iff_ne.2 (by omega)
  have n0 : ((p.kind : Int) != 0) = true := by rw [bne, e0]; rfl
  have e1 : ((p.kind : Int) == 1) = false := beq_eq_false_iff_ne.2 (by omega)
  have n1 : ((p.kind : Int) != 1) = true := by rw [bne, e1]; rfl
  have e2 : ((p.kind : Int) == 2) = false := beq_eq_false_iff_ne.2 (by omega)
  have n2 : ((p.kind : Int) != 2) = true := by rw [bne, e2]; rfl
  have e3 : ((p.kind : Int) == 3) = false := beq_eq_false_iff_ne.2 (by omega)
  have n3 : ((p.kind : Int) != 3) = true := by rw [bne, e3]; rfl
  have e4 : ((p.kind : Int) == 4) = false := beq_eq_false_iff_ne.2 (by omega)
  have n4 : ((p.kind : Int) != 4) = true := by rw [bne, e4]; rfl
  have e5 : ((p.kind : Int) == 5) = true := beq_iff_eq.2 (by omega)
  have n5 : ((p.kind : Int) != 5) = false := by rw [bne, e5]; rfl
  have e6 : ((p.kind : Int) == 6) = false := beq_eq_false_iff_ne.2 (by omega)
  have n6 : ((p.kind : Int) != 6) = true := by rw [bne, e6]; rfl
  have e7 : ((p.kind : Int) == 7) = false := beq_eq_false_iff_ne.2 (by omega)
  have n7 : ((p.kind : Int) != 7) = true := by rw [bne, e7]; rfl
  have g7 : decide (7 < (p.kind : Int)) = false := by simp; omega
  have HM := Lib.hid (show mayB p = (!y && z && t && (decide (p.raw.size ≤ 65536))) by rw [hM]; simp [hk])
  clear hM hz ht hk
  cases y <;> cases z <;> cases t
  · go_enter Tryd.func46, Tryd.ntmps46
    go_wp2_with fail
    go_ret
    exact ⟨by rw [HM.out]; rfl, (((Below.refl _ _).alloc (Nat.le_refl _) _).alloc (by simp) _)⟩
  · go_enter Tryd.func46, Tryd.ntmps46
    go_wp2_with fail
    go_ret
    exact ⟨by rw [HM.out]; rfl, (((Below.refl _ _).alloc (Nat.le_refl _) _).alloc (by simp) _)⟩
  · go_enter Tryd.func46, Tryd.ntmps46
    go_wp2_with fail
    go_ret
    exact ⟨by rw [HM.out]; rfl, (((Below.refl _ _).alloc (Nat.le_refl _) _).alloc (by simp) _)⟩
  · have hlz : ¬ 0 < p.items.length := of_decide_eq_false hl1
    have hlx : decide (1024 < (p.items.length : Int)) = false := by simp; omega
    clear hlz
    by_cases hle : p.raw.size ≤ 65536
    · have hl64 : decide (65536 < (p.raw.size : Int)) = false := by simp; omega
      have HM2 := Lib.hid (show mayB p = true by rw [HM.out]; simpa using hle)
      go_enter Tryd.func46, Tryd.ntmps46
      go_wp2_with fail
      refine wp_loop_rounds 1 ?_
      rw [rounds_succ]
      go_wp2_with fail
      go_ret
      exact ⟨by rw [HM2.out]; rfl, (((Below.refl _ _).alloc (Nat.le_refl _) _).alloc (by simp) _)⟩
    · have hl64 : decide (65536 < (p.raw.size : Int)) = true := by simp; omega
      have HM2 := Lib.hid (show mayB p = false by rw [HM.out]; simpa using hle)
      go_enter Tryd.func46, Tryd.ntmps46
      go_wp2_with fail
      go_ret
      exact ⟨by rw [HM2.out]; rfl, (((Below.refl _ _).alloc (Nat.le_refl _) _).alloc (by simp) _)⟩
  · go_enter Tryd.func46, Tryd.ntmps46
    go_wp2_with fail
    go_ret
    exact ⟨by rw [HM.out]; rfl, (((Below.refl _ _).alloc (Nat.le_refl _) _).alloc (by simp) _)⟩
  · go_enter Tryd.func46, Tryd.ntmps46
    go_wp2_with fail
    go_ret
    exact ⟨by rw [HM.out]; rfl, (((Below.refl _ _).alloc (Nat.le_refl _) _).alloc (by simp) _)⟩
  · go_enter Tryd.func46, Tryd.ntmps46
    go_wp2_with fail
    go_ret
    exact ⟨by rw [HM.out]; rfl, (((Below.refl _ _).alloc (Nat.le_refl _) _).alloc (by simp) _)⟩
  · go_enter Tryd.func46, Tryd.ntmps46
    go_wp2_with fail
    go_ret
    exact ⟨by rw [HM.out]; rfl, (((Below.refl _ _).alloc (Nat.le_refl _) _).alloc (by simp) _)⟩

set_option maxRecDepth 100000 in
set_option maxHeartbeats 2000000 in
theorem rmay_6 (p : Pt) (v : Value) (w : World) (hf : Fit p) (hp : PI w 0 w.heap.size p.items v) (hk : p.kind = 6) :
    Calls Tryd.prog 46 #[.agg #[.int .u8 p.kind, .bool p.yes, .bool p.neg, .string p.mag, .string p.raw, v]] w fun e w' => e = .returned (.bool (mayB p)) ∧ Below w.heap.size w w' := by
  obtain ⟨a, cap, rfl, _, _⟩ := hp.open
  clear hp
  have hm := hf.m
  have hr := hf.r
  have hl := hf.l
  have hkb := hf.k
  obtain ⟨y, hy⟩ : ∃ y, p.yes = y := ⟨_, rfl⟩
  obtain ⟨z, hz⟩ : ∃ z, (!p.neg && p.mag.toList.isEmpty) = z := ⟨_, rfl⟩
  obtain ⟨t, ht⟩ : ∃ t, p.items.isEmpty = t := ⟨_, rfl⟩
  have hM := may_kind hy hz ht (decide (p.raw.size ≤ 65536)) (by simp [hk])
  have h24 := eql_num p.neg false p.mag ⟨#[]⟩ z (by rw [← hz]; cases p.neg <;> simp)
  have h24n := neq_num p.neg false p.mag ⟨#[]⟩ z (by rw [← hz]; cases p.neg <;> simp)
  have hl0 : ((p.items.length : Int) == 0) = t := by rw [← ht]; cases p.items <;> simp; omega
  have hl1 : decide (0 < p.items.length) = !t := by rw [← ht]; cases p.items <;> simp
  have e0 : ((p.kind : Int) == 0) = false := beq_eq_false_iff_ne.2 (by omega)
  have n0 : ((p.kind : Int) != 0) = true := by rw [bne, e0]; rfl
  have e1 : ((p.kind : Int) == 1) = false := beq_eq_false_iff_ne.2 (by omega)
  have n1 : ((p.kind : Int) != 1) = true := by rw [bne, e1]; rfl
  have e2 : ((p.kind : Int) == 2) = false := beq_eq_false_iff_ne.2 (by omega)
  have n2 : ((p.kind : Int) != 2) = true := by rw [bne, e2]; rfl
  have e3 : ((p.kind : Int) == 3) = false := beq_eq_false_iff_ne.2 (by omega)
  have n3 : ((p.kind : Int) != 3) = true := by rw [bne, e3]; rfl
  have e4 : ((p.kind : Int) == 4) = false := beq_eq_false_iff_ne.2 (by omega)
  have n4 : ((p.kind : Int) != 4) = true := by rw [bne, e4]; rfl
  have e5 : ((p.kind : Int) == 5) = false := beq_eq_false_iff_ne.2 (by omega)
  have n5 : ((p.kind : Int) != 5) = true := by rw [bne, e5]; rfl
  have e6 : ((p.kind : Int) == 6) = true := beq_iff_eq.2 (by omega)
  have n6 : ((p.kind : Int) != 6) = false := by rw [bne, e6]; rfl
  have e7 : ((p.kind : Int) == 7) = false := beq_eq_false_iff_ne.2 (by omega)
  have n7 : ((p.kind : Int) != 7) = true := by rw [bne, e7]; rfl
  have g7 : decide (7 < (p.kind : Int)) = false := by simp; omega
  have HM := Lib.hid (show mayB p = (!y && z && t && (decide (p.raw.size ≤ 65536))) by rw [hM]; simp [hk])
  clear hM hz ht hk
  cases y <;> cases z <;> cases t
  · go_enter Tryd.func46, Tryd.ntmps46
    go_wp2_with fail
    go_ret
    exact ⟨by rw [HM.out]; rfl, (((Below.refl _ _).alloc (Nat.le_refl _) _).alloc (by simp) _)⟩
  · go_enter Tryd.func46, Tryd.ntmps46
    go_wp2_with fail
    go_ret
    exact ⟨by rw [HM.out]; rfl, (((Below.refl _ _).alloc (Nat.le_refl _) _).alloc (by simp) _)⟩
  · go_enter Tryd.func46, Tryd.ntmps46
    go_wp2_with fail
    go_ret
    exact ⟨by rw [HM.out]; rfl, (((Below.refl _ _).alloc (Nat.le_refl _) _).alloc (by simp) _)⟩
  · have hlz : ¬ 0 < p.items.length := of_decide_eq_false hl1
    have hlx : decide (1024 < (p.items.length : Int)) = false := by simp; omega
    clear hlz
    by_cases hle : p.raw.size ≤ 65536
    · have hl64 : decide (65536 < (p.raw.size : Int)) = false := by simp; omega
      have HM2 := Lib.hid (show mayB p = true by rw [HM.out]; simpa using hle)
      go_enter Tryd.func46, Tryd.ntmps46
      go_wp2_with fail
      refine wp_loop_rounds 1 ?_
      rw [rounds_succ]
      go_wp2_with fail
      go_ret
      exact ⟨by rw [HM2.out]; rfl, (((Below.refl _ _).alloc (Nat.le_refl _) _).alloc (by simp) _)⟩
    · have hl64 : decide (65536 < (p.raw.size : Int)) = true := by simp; omega
      have HM2 := Lib.hid (show mayB p = false by rw [HM.out]; simpa using hle)
      go_enter Tryd.func46, Tryd.ntmps46
      go_wp2_with fail
      go_ret
      exact ⟨by rw [HM2.out]; rfl, (((Below.refl _ _).alloc (Nat.le_refl _) _).alloc (by simp) _)⟩
  · go_enter Tryd.func46, Tryd.ntmps46
    go_wp2_with fail
    go_ret
    exact ⟨by rw [HM.out]; rfl, (((Below.refl _ _).alloc (Nat.le_refl _) _).alloc (by simp) _)⟩
  · go_enter Tryd.func46, Tryd.ntmps46
    go_wp2_with fail
    go_ret
    exact ⟨by rw [HM.out]; rfl, (((Below.refl _ _).alloc (Nat.le_refl _) _).alloc (by simp) _)⟩
  · go_enter Tryd.func46, Tryd.ntmps46
    go_wp2_with fail
    go_ret
    exact ⟨by rw [HM.out]; rfl, (((Below.refl _ _).alloc (Nat.le_refl _) _).alloc (by simp) _)⟩
  · go_enter Tryd.func46, Tryd.ntmps46
    go_wp2_with fail
    go_ret
    exact ⟨by rw [HM.out]; rfl, (((Below.refl _ _).alloc (Nat.le_refl _) _).alloc (by simp) _)⟩

set_option maxRecDepth 100000 in
set_option maxHeartbeats 2000000 in
theorem rmay_8 (p : Pt) (v : Value) (w : World) (hf : Fit p) (hp : PI w 0 w.heap.size p.items v) (hk : 7 < p.kind) :
    Calls Tryd.prog 46 #[.agg #[.int .u8 p.kind, .bool p.yes, .bool p.neg, .string p.mag, .string p.raw, v]] w fun e w' => e = .returned (.bool (mayB p)) ∧ Below w.heap.size w w' := by
  obtain ⟨a, cap, rfl, _, _⟩ := hp.open
  clear hp
  have hm := hf.m
  have hr := hf.r
  have hl := hf.l
  have hkb := hf.k
  obtain ⟨y, hy⟩ : ∃ y, p.yes = y := ⟨_, rfl⟩
  obtain ⟨z, hz⟩ : ∃ z, (!p.neg && p.mag.toList.isEmpty) = z := ⟨_, rfl⟩
  obtain ⟨t, ht⟩ : ∃ t, p.items.isEmpty = t := ⟨_, rfl⟩
  have hM := may_kind hy hz ht (p.raw.toList.isEmpty) (by simp [show ¬ p.kind = 2 by omega, show ¬ p.kind = 4 by omega, show ¬ p.kind = 3 by omega, show ¬ p.kind = 5 by omega, show ¬ p.kind = 6 by omega, show ¬ p.kind = 7 by omega])
  have h24 := eql_num p.neg false p.mag ⟨#[]⟩ z (by rw [← hz]; cases p.neg <;> simp)
  have h24n := neq_num p.neg false p.mag ⟨#[]⟩ z (by rw [← hz]; cases p.neg <;> simp)
  have hl0 : ((p.items.length : Int) == 0) = t := by rw [← ht]; cases p.items <;> simp; omega
  have hl1 : decide (0 < p.items.length) = !t := by rw [← ht]; cases p.items <;> simp
  have e0 : ((p.kind : Int) == 0) = false := beq_eq_false_iff_ne.2 (by omega)
  have n0 : ((p.kind : Int) != 0) = true := by rw [bne, e0]; rfl
  have e1 : ((p.kind : Int) == 1) = false := beq_eq_false_iff_ne.2 (by omega)
  have n1 : ((p.kind : Int) != 1) = true := by rw [bne, e1]; rfl
  have e2 : ((p.kind : Int) == 2) = false := beq_eq_false_iff_ne.2 (by omega)
  have n2 : ((p.kind : Int) != 2) = true := by rw [bne, e2]; rfl
  have e3 : ((p.kind : Int) == 3) = false := beq_eq_false_iff_ne.2 (by omega)
  have n3 : ((p.kind : Int) != 3) = true := by rw [bne, e3]; rfl
  have e4 : ((p.kind : Int) == 4) = false := beq_eq_false_iff_ne.2 (by omega)
  have n4 : ((p.kind : Int) != 4) = true := by rw [bne, e4]; rfl
  have e5 : ((p.kind : Int) == 5) = false := beq_eq_false_iff_ne.2 (by omega)
  have n5 : ((p.kind : Int) != 5) = true := by rw [bne, e5]; rfl
  have e6 : ((p.kind : Int) == 6) = false := beq_eq_false_iff_ne.2 (by omega)
  have n6 : ((p.kind : Int) != 6) = true := by rw [bne, e6]; rfl
  have e7 : ((p.kind : Int) == 7) = false := beq_eq_false_iff_ne.2 (by omega)
  have n7 : ((p.kind : Int) != 7) = true := by rw [bne, e7]; rfl
  have g7 : decide (7 < (p.kind : Int)) = true := by simp; omega
  have HM := Lib.hid (show mayB p = false by rw [hM]; simp [show ¬ p.kind ≤ 7 by omega])
  clear hM hz ht hk
  go_enter Tryd.func46, Tryd.ntmps46
  go_wp2_with fail
  go_ret
  exact ⟨by rw [HM.out]; rfl, (Below.refl _ _).alloc (Nat.le_refl _) _⟩

end Go.Proofs.YtcgphlilijeifaaDoor.V
end
