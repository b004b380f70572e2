import Derived.BigRegion
import Derived.WalkSmall
import Derived.Test.YtcgphlilijeifaaDoorLitPrintsG19
import Derived.Test.YtcgphlilijeifaaDoorLitPrintsG1
/-
  Rows of bytes in a block that the call made; bytes of a string; slices.Reverse of bytes.
-/
namespace Go.Proofs.YtcgphlilijeifaaDoor
open Go.RowKit

/-- The first cells of block g are the bytes l, none of them frozen. -/
def RowB (w : World) (g : Nat) (l : List UInt8) : Prop := g < w.heap.size ∧ ∀ i (h : i < l.length), w.cell? ⟨g, i, none⟩ = some (.int .u8 (l[i].toNat : Int)) ∧ w.frozen? ⟨g, i, none⟩ = false
section
variable {w w' : World} {g : Nat} {l : List UInt8}
theorem RowB.cell (h : RowB w g l) (i : Nat) (hi : i < l.length) : w.cell? ⟨g, i, none⟩ = some (.int .u8 (l[i].toNat : Int)) := (h.2 i hi).1
theorem RowB.frozen (h : RowB w g l) (i : Nat) (hi : i < l.length) : w.frozen? ⟨g, i, none⟩ = false := (h.2 i hi).2
theorem RowB.same (h : RowB w g l) (hb : w'.heap[g]? = w.heap[g]?) (hs : w.heap.size ≤ w'.heap.size) : RowB w' g l :=
  ⟨Nat.lt_of_lt_of_le h.1 hs, fun i hi => ⟨(World.cell?_of_block hb).trans (h.2 i hi).1, (World.frozen?_of_block hb).trans (h.2 i hi).2⟩⟩
theorem RowB.below {B : Nat} (h : RowB w g l) (hb : Below B w w') (hg : g < B) : RowB w' g l := h.same (hb.block g hg) hb.size
theorem RowB.grown {row : Option Nat} (h : RowB w g l) (hb : w.grownBy w' row) (hg : some g ≠ row) : RowB w' g l := h.same (hb.block g h.1 hg) hb.size
theorem RowB.alloc (h : RowB w g l) (o : Obj) : RowB (w.alloc o) g l := h.same (Below.heap_alloc w o g h.1) (by simp)
theorem RowB.drew (h : RowB w g l) : RowB w.drew g l := h
theorem RowB.set (h : RowB w g l) (i : Nat) (c : UInt8) (hi : i < l.length) : RowB (w.setCell ⟨g, i, none⟩ (.int .u8 (c.toNat : Int))) g (l.set i c) := by
  refine ⟨by simpa [World.setCell] using h.1, fun j hj => ?_⟩
  have hj' : j < l.length := by simpa using hj
  refine ⟨?_, ?_⟩
  · by_cases e : i = j
    · subst e
      rw [List.getElem_set_self]
      exact World.cell?_setCell_same w _ _ (h.cell i hi)
    · rw [List.getElem_set_ne e, World.cell?_setCell_other w ⟨g, i, none⟩ ⟨g, j, none⟩ _ (by intro e2; injection e2 with _ e3; exact e e3)]
      exact h.cell j hj'
  · rw [World.frozen?_setCell]
    exact h.frozen j hj'
theorem RowB.conv (h : RowB w g l) (cap n : Nat) (hn : n = l.length) : (convert 111 9 (.slice (some ⟨g, 0, none⟩) n cap)).run Tryd.prog w = .ok (.string ⟨l.toArray⟩) w := by
  subst hn
  refine run_convert_bytes_back (P := Tryd.prog) w 111 9 5 ⟨g, 0, none⟩ cap l Tryd.underlying111 Tryd.underlying5 Tryd.underlying9 (fun j hj => ?_)
  have e : (⟨g, 0, none⟩ : Addr).add j = ⟨g, j, none⟩ := by unfold Addr.add; split <;> simp_all
  rw [e]
  exact h.cell j hj
end
theorem OwnB.row {w : World} {base g n cap : Nat} {l : List UInt8} (h : OwnB w base (.slice (some ⟨g, 0, none⟩) n cap) l) : RowB w g l := by
  rcases h.2 with ⟨hv, _⟩ | ⟨g', cap', cur, hv, hg, hgg, rest⟩
  · cases hv
  · injection hv with e1 e2 e3
    injection e1 with e1
    injection e1 with e1 _ _
    subst e1 e3
    refine ⟨(Array.getElem?_eq_some_iff.1 hgg).1, fun i hi => ⟨?_, ?_⟩⟩
    · have := World.ownsRow.cells h (g := g) rfl i (.int .u8 (l[i].toNat : Int)) (by simp [bv, List.getElem?_eq_getElem hi])
      have e : (⟨g, 0, none⟩ : Addr).add i = ⟨g, i, none⟩ := by unfold Addr.add; split <;> simp_all
      rw [e] at this
      exact this
    · simp [World.frozen?, hgg]

/-- The bytes of a string, in a new block. -/
theorem conv_string (w : World) (s : ByteArray) : ∃ w' cap, (convert 9 111 (.string s)).run Tryd.prog w = .ok (.slice (some ⟨w.heap.size, 0, none⟩) s.size cap) w' ∧
    RowB w' w.heap.size s.toList ∧ Below w.heap.size w w' ∧ w.heap.size < w'.heap.size := by
  refine ⟨_, _, run_bytes_of_string (P := Tryd.prog) w 9 111 5 s Tryd.underlying9 Tryd.underlying111 Tryd.underlying5, ⟨by simp, fun i hi => ?_⟩, ((Below.refl _ _).drew).alloc (by simp) _, by simp⟩
  have hi' : i < s.size := by rw [← size_of]; exact hi
  have hsz : s.data.size = s.size := rfl
  have hC : (bytesRow s (grownCap w s.size 0 5))[i]? = some (.int .u8 (s.toList[i].toNat : Int)) := by
    have e : s.toList = s.data.toList := Lib.toList_data s
    have e2 : s.toList[i]? = s.data.toList[i]? := by rw [e]
    rw [List.getElem?_eq_getElem hi] at e2
    simp only [bytesRow, Array.getElem?_append, Array.size_map, hsz, hi', if_true, Array.getElem?_map]
    rw [Array.getElem?_toList] at e2
    rw [← e2]
    rfl
  constructor
  · rw [show (w.drew.alloc (.cells (bytesRow s (grownCap w s.size 0 5)) 5 ((bytesRow s (grownCap w s.size 0 5)).size, (bytesRow s (grownCap w s.size 0 5)).size + 1))).cell? ⟨w.heap.size, i, none⟩ = (bytesRow s (grownCap w s.size 0 5))[i]? from World.cell?_alloc_mark w.drew _ 5 _ i]
    exact hC
  · have hb : (w.drew.alloc (.cells (bytesRow s (grownCap w s.size 0 5)) 5 ((bytesRow s (grownCap w s.size 0 5)).size, (bytesRow s (grownCap w s.size 0 5)).size + 1))).heap[w.heap.size]? = some (.cells (bytesRow s (grownCap w s.size 0 5)) 5 ((bytesRow s (grownCap w s.size 0 5)).size, (bytesRow s (grownCap w s.size 0 5)).size + 1)) := heap_alloc_new w.drew _
    have hlt : i < (bytesRow s (grownCap w s.size 0 5)).size := (Array.getElem?_eq_some_iff.1 hC).1
    simp only [World.frozen?, hb]
    simp; omega

/-- Bytes appended; beside it, which block alone may have been written. -/
theorem wpList_append_bytes2 {P : Program} {ops : Array Oper} {rest : List Oper} {o : Oper} {a : Act} {Q : Exit → Act → World → Prop} {W w : World} (hgd : o.guard = none) (s x : Operand) (t : TypeId)
    (ho : o.op = .call { callee := .builtin .append, args := #[s, x], argTypes := #[t, t] })
    (ht : P.underlying t = some (.slice 5)) (hinfo : (P.info? 5).map (fun i => (i.zero, i.size, i.bytes)) = some (some (.int .u8 0), 1, 1))
    {base : Nat} {v : Value} {l : List UInt8} (hs : a.eval s = v) (hown : OwnB w base v l)
    (ad : Addr) (m : List UInt8) (k c : Nat) (hk : m.length = k) (hx : a.eval x = .slice (some ad) k c) (hnews : ∀ j u, (bv m)[j]? = some u → w.cell? (ad.add j) = some u)
    (hlen : l.length + k ≤ 140737488355328) (hB : Below base W w) (hbase : base ≤ w.heap.size)
    (h : ∀ v' w', OwnB w' base v' (l ++ m) → Below base W w' → base ≤ w'.heap.size → w.grownBy w' v.ownBlock → wpList P ops Q rest (a.put o.dst v') w') : wpList P ops Q (o :: rest) a w := by
  subst hk
  obtain ⟨i0, hi, hz0, hz1, hz2⟩ := info_parts hinfo
  refine wpList_append_own w hgd s x t ho base 5 i0 (.int .u8 0) 1 1 ht hi hz0 hz1 hz2 rfl (by decide) v l.length (bv l) hs hown ad m.length c (bv m) hx (by simp [bv_length]) hnews (bv_one m) (by unfold maxLen; omega) (by omega) hbase ?_
  intro v' w' ho' hg _
  refine h v' w' ?_ (hB.grown hg hbase fun k hk => (World.ownsRow.lt hown k hk).1) (Nat.le_trans hbase hg.size) hg
  unfold OwnB
  rw [bv_append] at ho'
  simpa using ho'
def lenOf : Value → Nat
  | .slice _ n _ => n
  | _ => 0
theorem OwnB.lenOf {w : World} {base : Nat} {v : Value} {l : List UInt8} (h : OwnB w base v l) : lenOf v = l.length := by
  rcases h.2 with ⟨rfl, hn⟩ | ⟨g, cap, cur, rfl, _⟩
  · exact hn.symm
  · rfl
theorem OwnB.block_lt {w : World} {base : Nat} {v : Value} {l : List UInt8} (h : OwnB w base v l) {g : Nat} (hg : w.heap.size ≤ g) : some g ≠ v.ownBlock := by
  intro e
  have := (World.ownsRow.lt h g e.symm).2
  omega
theorem OwnB.setOther {w : World} {base : Nat} {v : Value} {l : List UInt8} (h : OwnB w base v l) {g i : Nat} {u : Value} (hg : some g ≠ v.ownBlock) : OwnB (w.setCell ⟨g, i, none⟩ u) base v l := by
  refine ⟨h.1, ?_⟩
  rcases h.2 with hn | ⟨g', cap, cur, rfl, hb, hgg, rest⟩
  · exact .inl hn
  · refine .inr ⟨g', cap, cur, rfl, hb, ?_, rest⟩
    rw [Below.heap_setCell _ _ _ _ (by intro e; exact hg (by simp [Value.ownBlock, e]))]
    exact hgg
theorem OwnB.form {w : World} {base : Nat} {v : Value} {l : List UInt8} (h : OwnB w base v l) (hl : l ≠ []) : ∃ g cap, v = .slice (some ⟨g, 0, none⟩) l.length cap ∧ base ≤ g := by
  rcases h.2 with ⟨rfl, hn⟩ | ⟨g, cap, cur, rfl, hb, _⟩
  · exact absurd (List.eq_nil_of_length_eq_zero hn) hl
  · exact ⟨g, cap, rfl, hb⟩

/-- After k exchanges from both ends. -/
def revTo (l : List UInt8) (k : Nat) : List UInt8 := (List.range l.length).map fun i => if i < k ∨ l.length - 1 - i < k then l.getD (l.length - 1 - i) 0 else l.getD i 0
theorem revTo_length (l : List UInt8) (k : Nat) : (revTo l k).length = l.length := by simp [revTo]
theorem revTo_get (l : List UInt8) (k i : Nat) (hi : i < l.length) : (revTo l k)[i]? = some (if i < k ∨ l.length - 1 - i < k then l.getD (l.length - 1 - i) 0 else l.getD i 0) := by simp [revTo, hi]
theorem revTo_zero (l : List UInt8) : revTo l 0 = l := by
  apply List.ext_getElem?
  intro i
  by_cases hi : i < l.length
  · rw [revTo_get l 0 i hi]
    simp [hi]
  · rw [List.getElem?_eq_none (by rw [revTo_length]; omega), List.getElem?_eq_none (by omega)]
theorem revTo_end (l : List UInt8) (k : Nat) (h : l.length ≤ 2 * k + 1) : revTo l k = l.reverse := by
  apply List.ext_getElem?
  intro i
  by_cases hi : i < l.length
  · rw [revTo_get l k i hi, List.getElem?_reverse hi]
    by_cases e : i < k ∨ l.length - 1 - i < k
    · rw [if_pos e, List.getElem?_eq_getElem (by omega)]
      simp [List.getD, List.getElem?_eq_getElem (show l.length - 1 - i < l.length by omega)]
    · rw [if_neg e, show l.length - 1 - i = i by omega, List.getElem?_eq_getElem hi]
      simp [List.getD, List.getElem?_eq_getElem hi]
  · rw [List.getElem?_eq_none (by rw [revTo_length]; omega), List.getElem?_eq_none (by rw [List.length_reverse]; omega)]
theorem revTo_step (l : List UInt8) (k m : Nat) (h : k + m + 1 = l.length) (hk : k < m) (a b : UInt8) (ha : (revTo l k)[k]? = some a) (hb : (revTo l k)[m]? = some b) :
    ((revTo l k).set k b).set m a = revTo l (k + 1) := by
  apply List.ext_getElem?
  intro i
  have hka : a = l.getD k 0 := by
    rw [revTo_get l k k (by omega), if_neg (by omega)] at ha
    exact (Option.some.inj ha).symm
  have hmb : b = l.getD m 0 := by
    rw [revTo_get l k m (by omega), if_neg (by omega)] at hb
    exact (Option.some.inj hb).symm
  by_cases hi : i < l.length
  · rw [revTo_get l (k + 1) i hi, List.getElem?_set]
    by_cases e : m = i
    · subst e
      rw [if_pos rfl, if_pos (by simp [revTo_length]; omega), if_pos (by omega), hka, show l.length - 1 - m = k by omega]
    · rw [if_neg e, List.getElem?_set]
      by_cases e2 : k = i
      · subst e2
        rw [if_pos rfl, if_pos (by rw [revTo_length]; omega), if_pos (by omega), hmb, show l.length - 1 - k = m by omega]
      · rw [if_neg e2, revTo_get l k i hi]
        by_cases f : i < k ∨ l.length - 1 - i < k
        · rw [if_pos f, if_pos (by omega)]
        · rw [if_neg f, if_neg (by omega)]
  · rw [List.getElem?_eq_none (by simp [revTo_length]; omega), List.getElem?_eq_none (by rw [revTo_length]; omega)]

theorem reverse_any (g n cap : Nat) (l : List UInt8) (w : World) (hr : RowB w g l) (hn : n = l.length) (h0 : 0 < n) (hmax : n ≤ 9223372036854775807) :
    Calls Tryd.prog 57 #[.slice (some ⟨g, 0, none⟩) n cap] w fun e w' => e = .returned (.tuple #[]) ∧ RowB w' g l.reverse ∧ Below g w w' := by
  have HN := Lib.hid hn
  clear hn
  go_enter Tryd.func57, Tryd.ntmps57
  go_wp2
  go_loopw [2, 3] (fun i j wr => ∃ k m : Nat, i = .int .i64 k ∧ j = .int .i64 m ∧ k < n ∧ m < n ∧ k ≤ m + 1 ∧ RowKit.Hid (k + m + 1 = n) ∧ RowB wr g (revTo l k) ∧ Below g w wr) (fun _ j _ => (intOf j).toNat + 1)
  case atStart => exact ⟨0, n - 1, rfl, by go_num, by omega, by omega, by omega, Lib.hid (by omega), by rw [revTo_zero]; exact hr, Below.refl _ _⟩
  case round =>
    clear hr
    obtain ⟨k, m, rfl, rfl, hk, hm, hkm, HK, hO, hB⟩ := hrel
    by_cases hlt : k < m
    · have hkl : k < (revTo l k).length := by rw [revTo_length, ← HN.out]; exact hk
      have hml : m < (revTo l k).length := by rw [revTo_length, ← HN.out]; exact hm
      obtain ⟨a, ha⟩ : ∃ a, (revTo l k)[k] = a := ⟨_, rfl⟩
      obtain ⟨b, hb⟩ : ∃ b, (revTo l k)[m] = b := ⟨_, rfl⟩
      have ck := hO.cell k hkl
      have cm := hO.cell m hml
      have fk := hO.frozen k hkl
      have fm := hO.frozen m hml
      rw [ha] at ck
      rw [hb] at cm
      have HS := Lib.hid (revTo_step l k m (by rw [HK.out, HN.out]) hlt a b (by rw [List.getElem?_eq_getElem hkl, ha]) (by rw [List.getElem?_eq_getElem hml, hb]))
      have HR := Lib.hid ((hO.set k b hkl).set m a (by rw [List.length_set]; exact hml))
      have HB := Lib.hid ((hB.setCell (p := ⟨g, k, none⟩) (Nat.le_refl _) (.int .u8 (b.toNat : Int))).setCell (p := ⟨g, m, none⟩) (Nat.le_refl _) (.int .u8 (a.toNat : Int)))
      clear ha hb hkl hml hO
      go_wp2
      go_region
      all_goals go_wp2
      go_roundw
      case rel => exact ⟨k + 1, m - 1, by go_num, by go_num, by omega, by omega, by omega, Lib.hid (by have := HK.out; omega), by rw [← HS.out]; exact HR.out, HB.out.drew⟩
      case measure => simp [intOf]; omega
    · have HE := Lib.hid (revTo_end l k (by rw [← HN.out]; have := HK.out; omega))
      go_wp2
      go_end0
      exact ⟨rfl, by rw [← HE.out]; exact hO, hB⟩
end Go.Proofs.YtcgphlilijeifaaDoor
