import Derived.Test.YtcgphlilijeifaaDoorProg
import Derived.WalkKit
import Derived.Laws.IdiomStrings
import Derived.Laws.BytesArg
import Derived.Below
import Derived.Lib.BufferWrite
import Derived.Laws.OwnMore
import Derived.Test.YtcgphlilijeifaaDoorRows
import Derived.WalkSpells
import Derived.WalkLawsBesides
import Derived.Lib.Hide
import Derived.Lib.Strings
import Derived.Shelf.Strings.Trim
import Derived.Shelf.Strings.SlTrimAscii
import Derived.Shelf.Small.Utf8
import Derived.Shelf.Small.Strs
import Derived.Shelf.Small.Wraps
import Derived.Shelf.Strings.Search1
import Derived.Shelf.Strings.Prefix
import Derived.Test.YtcgphlilijeifaaDoorLitPrintsQ1
import Derived.Test.YtcgphlilijeifaaDoorLitPrintsQ0
section
/-
  Half bytes, and the letters of a digit of sixteen, at the program.
-/
namespace Go.Proofs.YtcgphlilijeifaaDoor.L
open Go.RowKit

theorem and_bits (c : UInt8) : bits BinOp.and IntKind.u8 (c.toNat : Int) 15 = ((c.toNat % 16 : Nat) : Int) :=
  u8_all (P := fun c => bits BinOp.and IntKind.u8 (c.toNat : Int) 15 = ((c.toNat % 16 : Nat) : Int)) (by decide +kernel) c
theorem run_and (c : UInt8) (w : World) : (binOp .and 5 (.int .u8 (c.toNat : Int)) (.int .u8 15)).run Tryd.prog w = .ok (.int .u8 ((c.toNat % 16 : Nat) : Int)) w := by
  have := and_bits c
  simp [go_sem]
  simpa using this
theorem run_shr (c : UInt8) (w : World) : (binOp .shr 5 (.int .u8 (c.toNat : Int)) (.int .u64 4)).run Tryd.prog w = .ok (.int .u8 ((c.toNat / 16 : Nat) : Int)) w := by
  simp [go_sem]

theorem hx0 (w : World) : (Instr.index 9 (.string ⟨#[48, 49, 50, 51, 52, 53, 54, 55, 56, 57, 97, 98, 99, 100, 101, 102]⟩) (.int .u8 0)).run Tryd.prog w = .ok (.int .u8 48) w := by kernel_rfl
theorem hx1 (w : World) : (Instr.index 9 (.string ⟨#[48, 49, 50, 51, 52, 53, 54, 55, 56, 57, 97, 98, 99, 100, 101, 102]⟩) (.int .u8 1)).run Tryd.prog w = .ok (.int .u8 49) w := by kernel_rfl
theorem hx2 (w : World) : (Instr.index 9 (.string ⟨#[48, 49, 50, 51, 52, 53, 54, 55, 56, 57, 97, 98, 99, 100, 101, 102]⟩) (.int .u8 2)).run Tryd.prog w = .ok (.int .u8 50) w := by kernel_rfl
theorem hx3 (w : World) : (Instr.index 9 (.string ⟨#[48, 49, 50, 51, 52, 53, 54, 55, 56, 57, 97, 98, 99, 100, 101, 102]⟩) (.int .u8 3)).run Tryd.prog w = .ok (.int .u8 51) w := by kernel_rfl
theorem hx4 (w : World) : (Instr.index 9 (.string ⟨#[48, 49, 50, 51, 52, 53, 54, 55, 56, 57, 97, 98, 99, 100, 101, 102]⟩) (.int .u8 4)).run Tryd.prog w = .ok (.int .u8 52) w := by kernel_rfl
theorem hx5 (w : World) : (Instr.index 9 (.string ⟨#[48, 49, 50, 51, 52, 53, 54, 55, 56, 57, 97, 98, 99, 100, 101, 102]⟩) (.int .u8 5)).run Tryd.prog w = .ok (.int .u8 53) w := by kernel_rfl
theorem hx6 (w : World) : (Instr.index 9 (.string ⟨#[48, 49, 50, 51, 52, 53, 54, 55, 56, 57, 97, 98, 99, 100, 101, 102]⟩) (.int .u8 6)).run Tryd.prog w = .ok (.int .u8 54) w := by kernel_rfl
theorem hx7 (w : World) : (Instr.index 9 (.string ⟨#[48, 49, 50, 51, 52, 53, 54, 55, 56, 57, 97, 98, 99, 100, 101, 102]⟩) (.int .u8 7)).run Tryd.prog w = .ok (.int .u8 55) w := by kernel_rfl
theorem hx8 (w : World) : (Instr.index 9 (.string ⟨#[48, 49, 50, 51, 52, 53, 54, 55, 56, 57, 97, 98, 99, 100, 101, 102]⟩) (.int .u8 8)).run Tryd.prog w = .ok (.int .u8 56) w := by kernel_rfl
theorem hx9 (w : World) : (Instr.index 9 (.string ⟨#[48, 49, 50, 51, 52, 53, 54, 55, 56, 57, 97, 98, 99, 100, 101, 102]⟩) (.int .u8 9)).run Tryd.prog w = .ok (.int .u8 57) w := by kernel_rfl
theorem hx10 (w : World) : (Instr.index 9 (.string ⟨#[48, 49, 50, 51, 52, 53, 54, 55, 56, 57, 97, 98, 99, 100, 101, 102]⟩) (.int .u8 10)).run Tryd.prog w = .ok (.int .u8 97) w := by kernel_rfl
theorem hx11 (w : World) : (Instr.index 9 (.string ⟨#[48, 49, 50, 51, 52, 53, 54, 55, 56, 57, 97, 98, 99, 100, 101, 102]⟩) (.int .u8 11)).run Tryd.prog w = .ok (.int .u8 98) w := by kernel_rfl
theorem hx12 (w : World) : (Instr.index 9 (.string ⟨#[48, 49, 50, 51, 52, 53, 54, 55, 56, 57, 97, 98, 99, 100, 101, 102]⟩) (.int .u8 12)).run Tryd.prog w = .ok (.int .u8 99) w := by kernel_rfl
theorem hx13 (w : World) : (Instr.index 9 (.string ⟨#[48, 49, 50, 51, 52, 53, 54, 55, 56, 57, 97, 98, 99, 100, 101, 102]⟩) (.int .u8 13)).run Tryd.prog w = .ok (.int .u8 100) w := by kernel_rfl
theorem hx14 (w : World) : (Instr.index 9 (.string ⟨#[48, 49, 50, 51, 52, 53, 54, 55, 56, 57, 97, 98, 99, 100, 101, 102]⟩) (.int .u8 14)).run Tryd.prog w = .ok (.int .u8 101) w := by kernel_rfl
theorem hx15 (w : World) : (Instr.index 9 (.string ⟨#[48, 49, 50, 51, 52, 53, 54, 55, 56, 57, 97, 98, 99, 100, 101, 102]⟩) (.int .u8 15)).run Tryd.prog w = .ok (.int .u8 102) w := by kernel_rfl
theorem run_hex (n : Nat) (h : n < 16) (w : World) : (Instr.index 9 (.string ⟨#[48, 49, 50, 51, 52, 53, 54, 55, 56, 57, 97, 98, 99, 100, 101, 102]⟩) (.int .u8 n)).run Tryd.prog w = .ok (.int .u8 ((hexC n).toNat : Int)) w := by
  have e : n = 0 ∨ n = 1 ∨ n = 2 ∨ n = 3 ∨ n = 4 ∨ n = 5 ∨ n = 6 ∨ n = 7 ∨ n = 8 ∨ n = 9 ∨ n = 10 ∨ n = 11 ∨ n = 12 ∨ n = 13 ∨ n = 14 ∨ n = 15 := by omega
  rcases e with rfl | rfl | rfl | rfl | rfl | rfl | rfl | rfl | rfl | rfl | rfl | rfl | rfl | rfl | rfl | rfl
  · exact hx0 w
  · exact hx1 w
  · exact hx2 w
  · exact hx3 w
  · exact hx4 w
  · exact hx5 w
  · exact hx6 w
  · exact hx7 w
  · exact hx8 w
  · exact hx9 w
  · exact hx10 w
  · exact hx11 w
  · exact hx12 w
  · exact hx13 w
  · exact hx14 w
  · exact hx15 w
end Go.Proofs.YtcgphlilijeifaaDoor.L
end
section
/-
  Rows of bytes that a call itself made: what they hold as a list of bytes, and the string that they convert to.
-/
namespace Go.Proofs.YtcgphlilijeifaaDoor
open Go.RowKit

/-- The bytes as cells. -/
def bv (l : List UInt8) : List Value := l.map fun c => .int .u8 (c.toNat : Int)
theorem bv_length (l : List UInt8) : (bv l).length = l.length := by simp [bv]
theorem bv_append (l m : List UInt8) : bv l ++ bv m = bv (l ++ m) := by simp [bv]
theorem bv_one (l : List UInt8) : ∀ u ∈ bv l, u.oneCell' = true := by
  intro u hu
  simp only [bv, List.mem_map] at hu
  obtain ⟨c, _, rfl⟩ := hu
  rfl

/-- The slice v is nil or one of the call's own (blocks from base on), and its elements are the bytes l. -/
def OwnB (w : World) (base : Nat) (v : Value) (l : List UInt8) : Prop := w.ownsRow base 5 1 v l.length (bv l)

theorem OwnB.nil (w : World) (base : Nat) : OwnB w base (.slice none 0 0) [] := World.ownsRow_nil w base 5 1
theorem OwnB.below {w w' : World} {base : Nat} {v : Value} {l : List UInt8} (h : OwnB w base v l) (hb : Below w.heap.size w w') : OwnB w' base v l := by
  refine ⟨h.1, ?_⟩
  rcases h.2 with hn | ⟨g, cap, cur, rfl, hg, hgg, rest⟩
  · exact .inl hn
  · exact .inr ⟨g, cap, cur, rfl, hg, (hb.block g (Array.getElem?_eq_some_iff.1 hgg).1).trans hgg, rest⟩

/-- The conversion of such a slice to a string. -/
theorem OwnB.conv {P : Program} {w : World} {base : Nat} {v : Value} {l : List UInt8} (h : OwnB w base v l) (src dst : TypeId)
    (hs : P.underlying src = some (.slice 5)) (he : P.underlying 5 = some (.int .u8)) (hd : P.underlying dst = some .string) :
    (convert src dst v).run P w = .ok (.string ⟨l.toArray⟩) w := by
  rcases h.2 with ⟨rfl, hn⟩ | ⟨g, cap, cur, rfl, hg, hgg, rest⟩
  · have : l = [] := List.eq_nil_of_length_eq_zero (by simpa using hn)
    subst this
    have := run_convert_bytes_nil (P := P) w src 5 hs he 0 0 dst hd
    rw [this]
    rfl
  · refine run_convert_bytes_back w src dst 5 ⟨g, 0, none⟩ cap l hs he hd (fun j hj => ?_)
    exact World.ownsRow.cells h (g := g) rfl j _ (by simp [bv, List.getElem?_eq_getElem hj])

/-- One byte in a new block of one cell. -/
theorem one_cell (w : World) (x : Value) (T : TypeId) : ∀ j u, [x][j]? = some u → (w.alloc (.cells #[x] T)).cell? ((⟨w.heap.size, 0, none⟩ : Addr).add j) = some u := by
  intro j u hj
  match j, hj with
  | 0, hj => simp at hj; subst hj; simp [Addr.add]
theorem two_cells (w : World) (x y : Value) (T : TypeId) : ∀ j u, [x, y][j]? = some u → (w.alloc (.cells #[x, y] T)).cell? ((⟨w.heap.size, 0, none⟩ : Addr).add j) = some u := by
  intro j u hj
  match j, hj with
  | 0, hj => simp at hj; subst hj; simp [Addr.add]
  | 1, hj => simp at hj; subst hj; simp [Addr.add]

theorem bv_cells_one (w : World) (c : UInt8) (T : TypeId) : ∀ j u, (bv [c])[j]? = some u → (w.alloc (.cells #[.int .u8 (c.toNat : Int)] T)).cell? ((⟨w.heap.size, 0, none⟩ : Addr).add j) = some u := one_cell w _ T
theorem bv_cells_two (w : World) (c d : UInt8) (T : TypeId) : ∀ j u, (bv [c, d])[j]? = some u → (w.alloc (.cells #[.int .u8 (c.toNat : Int), .int .u8 (d.toNat : Int)] T)).cell? ((⟨w.heap.size, 0, none⟩ : Addr).add j) = some u := two_cells w _ _ T

/-- Bytes appended to such a slice. W is the world in which the call began, its blocks stay as they were. -/
theorem wpList_append_bytes {P : Program} {ops : Array Oper} {rest : List Oper} {o : Oper} {a : Act} {Q : Exit → Act → World → Prop} {W w : World} (hgd : o.guard = none) (s x : Operand) (t : TypeId)
    (ho : o.op = .call { callee := .builtin .append, args := #[s, x], argTypes := #[t, t] })
    (ht : P.underlying t = some (.slice 5)) (hinfo : (P.info? 5).map (fun i => (i.zero, i.size, i.bytes)) = some (some (.int .u8 0), 1, 1))
    {base : Nat} {v : Value} {l : List UInt8} (hs : a.eval s = v) (hown : OwnB w base v l)
    (ad : Addr) (m : List UInt8) (k c : Nat) (hk : m.length = k) (hx : a.eval x = .slice (some ad) k c) (hnews : ∀ j u, (bv m)[j]? = some u → w.cell? (ad.add j) = some u)
    (hlen : l.length + k ≤ 140737488355328) (hB : Below base W w) (hbase : base ≤ w.heap.size)
    (h : ∀ v' w', OwnB w' base v' (l ++ m) → Below base W w' → base ≤ w'.heap.size → wpList P ops Q rest (a.put o.dst v') w') : wpList P ops Q (o :: rest) a w := by
  subst hk
  obtain ⟨i0, hi, hz0, hz1, hz2⟩ := info_parts hinfo
  refine wpList_append_own w hgd s x t ho base 5 i0 (.int .u8 0) 1 1 ht hi hz0 hz1 hz2 rfl (by decide) v l.length (bv l) hs hown ad m.length c (bv m) hx (by simp [bv_length]) hnews (bv_one m) (by unfold maxLen; omega) (by omega) hbase ?_
  intro v' w' ho' hg _
  refine h v' w' ?_ (hB.grown hg hbase fun k hk => (World.ownsRow.lt hown k hk).1) (Nat.le_trans hbase hg.size)
  unfold OwnB
  rw [bv_append] at ho'
  simpa using ho'
/-- A string copied over the whole of such a slice. -/
theorem wpList_copy_str {P : Program} {ops : Array Oper} {rest : List Oper} {o : Oper} {a : Act} {Q : Exit → Act → World → Prop} {W w : World} (hgd : o.guard = none) (d x : Operand) (t t2 : TypeId)
    (ho : o.op = .call { callee := .builtin .copy, args := #[d, x], argTypes := #[t, t2] })
    (ht : P.underlying t = some (.slice 5)) (hinfo : (P.info? 5).map (fun i => (i.zero, i.size, i.bytes)) = some (some (.int .u8 0), 1, 1))
    {base g : Nat} {l : List UInt8} (s : ByteArray) (hd : a.eval d = .slice (some ⟨g, 0, none⟩) s.size s.size) (hx : a.eval x = .string s) (hown : OwnB w base (.slice (some ⟨g, 0, none⟩) s.size s.size) l)
    (hB : Below base W w) (hbase : base ≤ w.heap.size)
    (h : ∀ w', OwnB w' base (.slice (some ⟨g, 0, none⟩) s.size s.size) s.data.toList → Below base W w' → base ≤ w'.heap.size → wpList P ops Q rest (a.put o.dst (.int .i64 s.size)) w') : wpList P ops Q (o :: rest) a w := by
  obtain ⟨i0, hi, hz0, hz1, hz2⟩ := info_parts hinfo
  rcases hown.2 with ⟨hv, _⟩ | ⟨g', cap, cur, hv, hg, hgg, hnc, hcm, hcs, htake⟩
  · cases hv
  · injection hv with e1 e2 e3
    injection e1 with e1
    injection e1 with e1 _ _
    subst e1 e3
    refine wpList_plain hgd fun K hK => ?_
    have hrun := Lib.run_copy_row_string (P := P) w t t2 o.type 5 g 0 s.size s.size s cur 5 ht (by simp [hi, hz1]) hgg (by omega) (by omega)
    unfold Oper.wp
    simp [execOp, ho, resolve, invoke, builtin, hd, hx, hrun, Result.andThen]
    refine hK _ _ (h _ ?_ (hB.trans ⟨rfl, rfl, rfl, by simp [World.setRow], fun k hk => setRow_other w g k _ (by omega)⟩) (by simpa [World.setRow] using hbase))
    have hlen : (Lib.byteCells s.data.toList).length = s.size := by rw [Lib.byteCells_length, ← Lib.size_eq]
    have hsz : s.size = s.data.toList.length := by rw [Array.length_toList]; rfl
    refine ⟨by simp [bv], .inr ⟨g, s.size, _, rfl, hg, setRow_heap w g cur _ 5 _ hgg, by omega, hcm, ?_, ?_⟩⟩
    · simp [hlen]; omega
    · show List.take (s.data.toList.length * 1) (Lib.byteCells s.data.toList ++ List.drop s.size cur.toList) = _
      rw [Nat.mul_one, ← hsz, List.take_append_of_le_length (by omega), List.take_of_length_le (by omega)]
      rfl
theorem OwnB.alloc {w : World} {base : Nat} {v : Value} {l : List UInt8} (h : OwnB w base v l) (o : Obj) : OwnB (w.alloc o) base v l := World.ownsRow.alloc h o
theorem OwnB.drew {w : World} {base : Nat} {v : Value} {l : List UInt8} (h : OwnB w base v l) : OwnB w.drew base v l := h
end Go.Proofs.YtcgphlilijeifaaDoor
end
section
/-
  The contracts of nat.Check and of the document's Check: every number.
-/
namespace Go.Proofs.YtcgphlilijeifaaDoor
open Go.RowKit

theorem two {W a b : World} (h : Below W.heap.size W a) (k : Below a.heap.size a b) : Below W.heap.size W b := h.trans (k.mono h.size)
theorem size_of (s : ByteArray) : s.toList.length = s.size := by rw [Lib.toList_data, Lib.size_eq]
theorem nil_of_size {s : ByteArray} (h : ¬ 0 < s.size) : s.toList = [] := List.eq_nil_of_length_eq_zero (by rw [size_of]; omega)
theorem head_of (s : ByteArray) (h : 0 < s.size) : s.toList.head? = some s[0] := by
  rw [Lib.toList_data]
  have := drop_cons s 0 h
  rw [List.drop_zero] at this
  rw [this]; rfl
theorem u8_eq {c : UInt8} (d : UInt8) {n : Int} (hn : (d.toNat : Int) = n) (h : ((c.toNat : Int) == n) = true) : c = d := by
  rw [← hn] at h
  have h1 : (c.toNat : Int) = d.toNat := by simpa using h
  exact UInt8.toNat_inj.1 (by omega)
theorem u8_ne {c : UInt8} (d : UInt8) {n : Int} (hn : (d.toNat : Int) = n) (h : ((c.toNat : Int) == n) = false) : c ≠ d := by
  rintro rfl
  rw [hn] at h
  simp at h
theorem u8_eqb {c d : UInt8} {n : Int} (hn : (d.toNat : Int) = n) (h : c = d) : ((c.toNat : Int) == n) = true := by subst h hn; simp
theorem u8_neb {c d : UInt8} {n : Int} (hn : (d.toNat : Int) = n) (h : ¬ c = d) : ((c.toNat : Int) == n) = false := by
  rw [← hn, beq_eq_false_iff_ne]
  exact fun e => h (UInt8.toNat_inj.1 (by omega))

theorem check_any (b : Bool) (s : ByteArray) (w : World) (_hs : s.size ≤ 9223372036854775807) (r : Int) (hr : chk b s.toList = r) :
    Calls Tryd.prog 22 #[.agg #[.bool b, .string s]] w fun e w' => e = .returned (.int .i64 r) ∧ Below w.heap.size w w' := by
  by_cases h1 : 255 < s.size
  · rw [chk_long (by rw [size_of]; exact h1)] at hr
    subst hr
    go_enter Tryd.func22, Tryd.ntmps22
    go_wp2
    go_ret
    exact ⟨rfl, (Below.refl _ _).alloc (Nat.le_refl _) _⟩
  · by_cases h2 : 0 < s.size
    · have hne : s.toList.isEmpty = false := by
        cases h : s.toList with
        | nil => have := size_of s; rw [h] at this; simp at this; omega
        | cons _ _ => rfl
      by_cases h3 : s[0] = 0
      · rw [chk_zero (by rw [size_of]; exact h1) (by rw [head_of s h2, h3])] at hr
        have h4 := u8_eqb (n := 0) rfl h3
        subst hr
        clear h3
        go_enter Tryd.func22, Tryd.ntmps22
        go_wp2
        go_ret
        exact ⟨rfl, (Below.refl _ _).alloc (Nat.le_refl _) _⟩
      · rw [chk_ok (by rw [size_of]; exact h1) (by intro e; rw [e] at hne; simp at hne) (by rw [head_of s h2]; simpa using h3)] at hr
        have h4 := u8_neb (n := 0) rfl h3
        subst hr
        clear h3
        go_enter Tryd.func22, Tryd.ntmps22
        go_wp2
        go_ret
        exact ⟨rfl, (Below.refl _ _).alloc (Nat.le_refl _) _⟩
    · have he := nil_of_size h2
      have hne : s.toList.isEmpty = true := by rw [he]; rfl
      cases b
      · rw [chk_nil he] at hr
        subst hr
        clear he
        go_enter Tryd.func22, Tryd.ntmps22
        go_wp2
        go_ret
        exact ⟨rfl, (Below.refl _ _).alloc (Nat.le_refl _) _⟩
      · rw [chk_nil_below he] at hr
        subst hr
        clear he
        go_enter Tryd.func22, Tryd.ntmps22
        go_wp2
        go_ret
        exact ⟨rfl, (Below.refl _ _).alloc (Nat.le_refl _) _⟩
end Go.Proofs.YtcgphlilijeifaaDoor
end
section
/-
  The contract of nat.Put: the number's bytes, for every number that may be; else Check's error.
-/
namespace Go.Proofs.YtcgphlilijeifaaDoor
open Go.RowKit

theorem Tryd.info5 : (Tryd.prog.info? 5).map (fun i => (i.zero, i.size, i.bytes)) = some (some (.int .u8 0), 1, 1) := by kernel_rfl
theorem conv1 (w : World) (c : UInt8) (x : Int) (hx : (c.toNat : Int) = x) :
    (convert 111 9 (.slice (some ⟨w.heap.size, 0, none⟩) 1 1)).run Tryd.prog (w.alloc (.cells #[.int .u8 x] 5)) = .ok (.string ⟨#[c]⟩) (w.alloc (.cells #[.int .u8 x] 5)) := by
  refine run_convert_bytes_back (P := Tryd.prog) _ 111 9 5 ⟨w.heap.size, 0, none⟩ 1 [c] Tryd.underlying111 Tryd.underlying5 Tryd.underlying9 (fun j hj => ?_)
  subst hx
  have hj0 : j = 0 := by simpa using hj
  subst hj0
  exact one_cell w _ 5 0 _ rfl
theorem conv2 (w : World) (c d : UInt8) (x y : Int) (hx : (c.toNat : Int) = x) (hy : (d.toNat : Int) = y) :
    (convert 111 9 (.slice (some ⟨w.heap.size, 0, none⟩) 2 2)).run Tryd.prog (w.alloc (.cells #[.int .u8 x, .int .u8 y] 5)) = .ok (.string ⟨#[c, d]⟩) (w.alloc (.cells #[.int .u8 x, .int .u8 y] 5)) := by
  refine run_convert_bytes_back (P := Tryd.prog) _ 111 9 5 ⟨w.heap.size, 0, none⟩ 2 [c, d] Tryd.underlying111 Tryd.underlying5 Tryd.underlying9 (fun j hj => ?_)
  subst hx hy
  have : j = 0 ∨ j = 1 := by simp at hj; omega
  rcases this with rfl | rfl
  · exact two_cells w _ _ 5 0 _ rfl
  · exact two_cells w _ _ 5 1 _ rfl
/-- A slice that was built of one byte, of two. -/
theorem ownB_one (w : World) (base : Nat) (c : UInt8) (x : Int) (hx : (c.toNat : Int) = x) (hb : base ≤ w.heap.size) : OwnB (w.alloc (.cells #[.int .u8 x] 5)) base (.slice (some ⟨w.heap.size, 0, none⟩) 1 1) [c] := by
  subst hx
  exact ⟨rfl, .inr ⟨w.heap.size, 1, _, rfl, hb, heap_alloc_new w _, Nat.le_refl _, by unfold maxLen; omega, rfl, rfl⟩⟩
theorem ownB_two (w : World) (base : Nat) (c d : UInt8) (x y : Int) (hx : (c.toNat : Int) = x) (hy : (d.toNat : Int) = y) (hb : base ≤ w.heap.size) : OwnB (w.alloc (.cells #[.int .u8 x, .int .u8 y] 5)) base (.slice (some ⟨w.heap.size, 0, none⟩) 2 2) [c, d] := by
  subst hx hy
  exact ⟨rfl, .inr ⟨w.heap.size, 2, _, rfl, hb, heap_alloc_new w _, Nat.le_refl _, by unfold maxLen; omega, rfl, rfl⟩⟩

theorem app_list (a b : ByteArray) : (a ++ b).toList = a.toList ++ b.toList := by
  rw [Lib.toList_data, Lib.toList_data, Lib.toList_data, ByteArray.data_append, Array.toList_append]
theorem app_size (a b : ByteArray) : (a ++ b).size = a.size + b.size := by
  rw [← size_of, app_list, List.length_append, size_of, size_of]

/-- A number that was laid in a new block, behind a call. -/
theorem num_cells {w w1 : World} {b : Bool} {s : ByteArray} {T : TypeId} (hb : Below (w.alloc (.cells #[.bool b, .string s] T)).heap.size (w.alloc (.cells #[.bool b, .string s] T)) w1) :
    w1.cell? ⟨w.heap.size, 0, none⟩ = some (.bool b) ∧ w1.cell? ⟨w.heap.size, 1, none⟩ = some (.string s) ∧ w.heap.size < w1.heap.size ∧ Below w.heap.size w w1 :=
  ⟨(hb.cell (p := ⟨w.heap.size, 0, none⟩) (by simp)).trans (by simp), (hb.cell (p := ⟨w.heap.size, 1, none⟩) (by simp)).trans (by simp),
    by have := hb.size; simp at this; omega, ((Below.refl _ _).alloc (Nat.le_refl _) _).trans (hb.mono (by simp))⟩

theorem put_bad (b : Bool) (s : ByteArray) (w : World) (hs : s.size ≤ 9223372036854775807) (r : Int) (hr : chk b s.toList = r) (_h0 : (r == 0) = false) (h1 : (r != 0) = true) :
    Calls Tryd.prog 23 #[.agg #[.bool b, .string s]] w fun e w' => e = .returned (.tuple #[.string ⟨#[]⟩, .int .i64 r]) ∧ Below w.heap.size w w' := by
  have HR := Lib.hid hr
  clear hr
  go_enter Tryd.func23, Tryd.ntmps23
  go_wp2_with fail
  refine (check_any b s _ hs r HR.out).mono ?_
  rintro e w1 ⟨rfl, hb1⟩
  go_wp2
  go_ret2
  exact ⟨rfl, (num_cells hb1).2.2.2⟩

theorem one_byte (n : Nat) (h : n < 256) : ∃ c : UInt8, (c.toNat : Int) = n ∧ Hid (c = UInt8.ofNat n) := ⟨UInt8.ofNat n, ofNat_toNat _ h, rfl⟩
theorem bytes1 (c : UInt8) : (⟨#[c]⟩ : ByteArray).toList = [c] := by rw [Lib.toList_data]
theorem bytes2 (c d : UInt8) : (⟨#[c, d]⟩ : ByteArray).toList = [c, d] := by rw [Lib.toList_data]

set_option maxRecDepth 100000 in
theorem put_plus (s : ByteArray) (w : World) (hr : chk false s.toList = 0) :
    Calls Tryd.prog 23 #[.agg #[.bool false, .string s]] w fun e w' => ∃ p : ByteArray, e = .returned (.tuple #[.string p, .int .i64 0]) ∧ Hid (p.toList = putBytes false s.toList) ∧ Below w.heap.size w w' := by
  have hlen := (chk_zero_iff.1 hr).1
  rw [size_of] at hlen
  have HR := Lib.hid hr
  clear hr
  by_cases hk : s.size ≤ 126
  · go_enter Tryd.func23, Tryd.ntmps23
    go_wp2_with fail
    refine (check_any false s _ (by omega) 0 HR.out).mono ?_
    rintro e w1 ⟨rfl, hb1⟩
    obtain ⟨hc0, hc1, hz, hbw⟩ := num_cells hb1
    obtain ⟨c, hc, HC⟩ := one_byte (128 + s.size) (by omega)
    have hcv := conv1 w1 c (128 + s.size) (by rw [hc]; simp)
    clear hc
    go_wp2
    go_ret2
    exact ⟨_, rfl, Lib.hid (by rw [app_list, bytes1, HC.out, putBytes, putHead, size_of]; simp [hk]), hbw.alloc hbw.size _⟩
  · go_enter Tryd.func23, Tryd.ntmps23
    go_wp2_with fail
    refine (check_any false s _ (by omega) 0 HR.out).mono ?_
    rintro e w1 ⟨rfl, hb1⟩
    obtain ⟨hc0, hc1, hz, hbw⟩ := num_cells hb1
    obtain ⟨c, hc, HC⟩ := one_byte s.size (by omega)
    have hcv := conv2 w1 255 c 255 s.size rfl hc
    clear hc
    go_wp2
    go_ret2
    exact ⟨_, rfl, Lib.hid (by rw [app_list, bytes2, HC.out, putBytes, putHead, size_of]; simp [hk]), hbw.alloc hbw.size _⟩

/-- A head, and the first k bytes turned. -/
def turned (h : List UInt8) (l : List UInt8) (k : Nat) : List UInt8 := h ++ (l.take k).map (255 - ·)
theorem turned_zero (h l : List UInt8) : turned h l 0 = h := by simp [turned]
theorem turned_succ (h : List UInt8) (s : ByteArray) (k : Nat) (hk : k < s.size) : turned h s.data.toList (k + 1) = turned h s.data.toList k ++ [255 - s[k]] := by
  rw [turned, take_snoc s k hk, turned]; simp
theorem turned_end (h : List UInt8) (s : ByteArray) (k : Nat) (hk : ¬ k < s.size) : turned h s.data.toList k = h ++ s.data.toList.map (255 - ·) := by
  rw [turned, take_end s k hk]
theorem turned_len (h l : List UInt8) (k : Nat) : (turned h l k).length ≤ h.length + k := by
  have := List.length_take_le k l
  simp only [turned, List.length_append, List.length_map]; omega
theorem bv_cells_oneI (w : World) (c : UInt8) (x : Int) (h : (c.toNat : Int) = x) {T : TypeId} : ∀ j u, (bv [c])[j]? = some u → (w.alloc (.cells #[.int .u8 x] T)).cell? ((⟨w.heap.size, 0, none⟩ : Addr).add j) = some u := by subst h; exact bv_cells_one w c T

set_option maxHeartbeats 400000 in
/-- Below nought: the loop that turns the magnitude's bytes, behind a head that was built. -/
theorem put_minus (s : ByteArray) (w : World) (hr : chk true s.toList = 0) :
    Calls Tryd.prog 23 #[.agg #[.bool true, .string s]] w fun e w' => ∃ p : ByteArray, e = .returned (.tuple #[.string p, .int .i64 0]) ∧ Hid (p.toList = putBytes true s.toList) ∧ Below w.heap.size w w' := by
  have hlen := (chk_zero_iff.1 hr).1
  rw [size_of] at hlen
  have HR := Lib.hid hr
  clear hr
  by_cases hk : s.size ≤ 126
  · have hk2 : ¬ 126 < s.size := by omega
    go_enter Tryd.func23, Tryd.ntmps23
    go_wp2_with fail
    refine (check_any true s _ (by omega) 0 HR.out).mono ?_
    rintro e w1 ⟨rfl, hb1⟩
    obtain ⟨hc0, hc1, hz, hbw⟩ := num_cells hb1
    obtain ⟨c, hc, HC⟩ := one_byte (128 - s.size) (by omega)
    have hO := Lib.hid (ownB_one w1 w1.heap.size c (128 - s.size) (by rw [hc]; omega) (Nat.le_refl _))
    clear hc
    go_wp2
    go_loopw [6, 7, 54] (fun v _ i wr => ∃ k : Nat, k ≤ s.size ∧ i = .int .i64 k ∧ OwnB wr w1.heap.size v (turned [c] s.data.toList k) ∧ Below w1.heap.size w1 wr) (fun _ _ i _ => s.size - (intOf i).toNat)
    case atStart => exact ⟨0, Nat.zero_le _, rfl, by rw [turned_zero]; exact hO.out, (Below.refl _ _).alloc (Nat.le_refl _) _⟩
    case round =>
      obtain ⟨k, hkk, rfl, hO1, hB⟩ := hrel
      have hcx : wr.cell? ⟨w.heap.size, 1, none⟩ = some (.string s) := (hB.cell (p := ⟨w.heap.size, 1, none⟩) hz).trans hc1
      have hzr : w.heap.size < wr.heap.size := by have := hB.size; omega
      have hlk := turned_len [c] s.data.toList k
      simp only [List.length_cons, List.length_nil] at hlk
      clear hc0 hc1 hO
      by_cases hlt : k < s.size
      · have hbd := s[k].toNat_lt
        have hsb := Lib.hid (sub255 s[k])
        go_wp2_with (at_builtin; refine wpList_append_bytes rfl (.tmp 57) (.tmp 63) 111 rfl Tryd.underlying111 Tryd.info5 rfl (hO1.alloc _) _ [255 - s[k]] 1 _ rfl rfl (bv_cells_oneI _ _ _ hsb.out) (by simp; omega) (hB.alloc hB.size _) (by simp; have := hB.size; omega) ?_; intro v2 w2 hO2 hB2 hs2)
        go_roundw
        case rel => exact ⟨k + 1, by omega, by go_num, by rw [turned_succ _ s k hlt]; exact hO2, hB2⟩
        case measure => simp [intOf]; omega
      · have hcv := hO1.conv 111 9 Tryd.underlying111 Tryd.underlying5 Tryd.underlying9
        rw [turned_end _ s k hlt] at hcv
        go_wp2
        go_ret2
        exact ⟨_, rfl, Lib.hid (by rw [ByteArray.toList_mk, HC.out, putBytes, putHead, size_of, Lib.toList_data]; simp [hk]), hbw.trans (hB.mono (Nat.le_of_lt hz))⟩
  · have hk2 : 126 < s.size := by omega
    have hk3 : decide ((126 : Int) < (s.size : Int)) = true := by simp; omega
    go_enter Tryd.func23, Tryd.ntmps23
    go_wp2_with fail
    refine (check_any true s _ (by omega) 0 HR.out).mono ?_
    rintro e w1 ⟨rfl, hb1⟩
    obtain ⟨hc0, hc1, hz, hbw⟩ := num_cells hb1
    obtain ⟨c, hc, HC⟩ := one_byte (255 - s.size) (by omega)
    have hO := Lib.hid (fun (o : Obj) => ownB_two (w1.alloc o) w1.heap.size 1 c 1 (255 - s.size) rfl (by rw [hc]; omega) (by simp))
    clear hc
    go_wp2
    go_loopw [6, 7, 54] (fun v _ i wr => ∃ k : Nat, k ≤ s.size ∧ i = .int .i64 k ∧ OwnB wr w1.heap.size v (turned [1, c] s.data.toList k) ∧ Below w1.heap.size w1 wr) (fun _ _ i _ => s.size - (intOf i).toNat)
    case atStart => exact ⟨0, Nat.zero_le _, rfl, by rw [turned_zero]; simpa using hO.out _, ((Below.refl _ _).alloc (Nat.le_refl _) _).alloc (by simp) _⟩
    case round =>
      obtain ⟨k, hkk, rfl, hO1, hB⟩ := hrel
      have hcx : wr.cell? ⟨w.heap.size, 1, none⟩ = some (.string s) := (hB.cell (p := ⟨w.heap.size, 1, none⟩) hz).trans hc1
      have hzr : w.heap.size < wr.heap.size := by have := hB.size; omega
      have hlk := turned_len [1, c] s.data.toList k
      simp only [List.length_cons, List.length_nil] at hlk
      clear hc0 hc1 hO
      by_cases hlt : k < s.size
      · have hbd := s[k].toNat_lt
        have hsb := Lib.hid (sub255 s[k])
        go_wp2_with (at_builtin; refine wpList_append_bytes rfl (.tmp 57) (.tmp 63) 111 rfl Tryd.underlying111 Tryd.info5 rfl (hO1.alloc _) _ [255 - s[k]] 1 _ rfl rfl (bv_cells_oneI _ _ _ hsb.out) (by simp; omega) (hB.alloc hB.size _) (by simp; have := hB.size; omega) ?_; intro v2 w2 hO2 hB2 hs2)
        go_roundw
        case rel => exact ⟨k + 1, by omega, by go_num, by rw [turned_succ _ s k hlt]; exact hO2, hB2⟩
        case measure => simp [intOf]; omega
      · have hcv := hO1.conv 111 9 Tryd.underlying111 Tryd.underlying5 Tryd.underlying9
        rw [turned_end _ s k hlt] at hcv
        go_wp2
        go_ret2
        exact ⟨_, rfl, Lib.hid (by rw [ByteArray.toList_mk, HC.out, putBytes, putHead, size_of, Lib.toList_data]; simp [hk]), hbw.trans (hB.mono (Nat.le_of_lt hz))⟩

/-- A number that may be. -/
theorem put_ok (b : Bool) (s : ByteArray) (w : World) (hr : chk b s.toList = 0) :
    Calls Tryd.prog 23 #[.agg #[.bool b, .string s]] w fun e w' => ∃ p : ByteArray, e = .returned (.tuple #[.string p, .int .i64 0]) ∧ Hid (p.toList = putBytes b s.toList) ∧ Below w.heap.size w w' := by
  cases b
  · exact put_plus s w hr
  · exact put_minus s w hr
end Go.Proofs.YtcgphlilijeifaaDoor
end
section
/-
  DERIVED: THE SHELF's CONTRACTS AT THIS DUMP, IN PLAIN WORDS (tools/lay-plain.mjs out of 'TrydShelf.lean', which tools/lay-shelf.mjs wrote): THE SAME DECLARATIONS UNDER THE SAME NAMES: 'import', 'namespace', 'open', 'def', 'theorem' AND NOTHING ELSE: no command of the shelf's: FOR A HAND-IN. Each laying: the table of numbers ('.._ren') and one theorem, a field a fact of the dump's own or the kernel's comparison; each contract: ONE APPLICATION.
-/
namespace Go.Proofs
open Go.Shelf
def Tryd.lays231_ren : Go.Shelf.Ren := ⟨fun | 231 => 93 | n => n, fun | 9 => 9 | 5 => 5 | 3 => 3 | 4 => 4 | n => n, fun | n => n⟩
theorem Tryd.lays231 : Go.Proofs.Lays.n231 Tryd.prog Tryd.lays231_ren := {
  mixed := by kernel_rfl
  f231 := Tryd.func93.trans (congrArg some (by kernel_rfl))
  t3 := Tryd.underlying3
  a3 := Tryd.isAgg3
  z3 := Tryd.sizeOf3
  v3 := Tryd.zeroValue3
  t4 := Tryd.underlying4
  a4 := Tryd.isAgg4
  z4 := Tryd.sizeOf4
  v4 := Tryd.zeroValue4
  t5 := Tryd.underlying5
  a5 := Tryd.isAgg5
  z5 := Tryd.sizeOf5
  v5 := Tryd.zeroValue5
  t9 := Tryd.underlying9
  a9 := Tryd.isAgg9
  z9 := Tryd.sizeOf9
  v9 := Tryd.zeroValue9 }
open Go.RowKit in
/-- strings.trimLeftByte (no doc; what TrimLeft and Trim call at a cutset of one ASCII byte): the leading bytes that are c are cut off. The world is as it was. (LAID: no walk: one application.) -/
theorem Tryd.strings_trimLeftByte (s : ByteArray) (c : UInt8) (w : World) :
    Calls Tryd.prog 93 #[.string s, .int .u8 c.toNat] w fun e w' => e = .returned (.string ⟨(Lib.trimLeftB s.data.toList c).toArray⟩) ∧ w' = w := Any.strings_trimLeftByte Tryd.lays231 s c w
def Tryd.lays232_ren : Go.Shelf.Ren := ⟨fun | 232 => 94 | n => n, fun | 9 => 9 | 5 => 5 | 3 => 3 | 4 => 4 | n => n, fun | n => n⟩
theorem Tryd.lays232 : Go.Proofs.Lays.n232 Tryd.prog Tryd.lays232_ren := {
  mixed := by kernel_rfl
  f232 := Tryd.func94.trans (congrArg some (by kernel_rfl))
  t3 := Tryd.underlying3
  a3 := Tryd.isAgg3
  z3 := Tryd.sizeOf3
  v3 := Tryd.zeroValue3
  t4 := Tryd.underlying4
  a4 := Tryd.isAgg4
  z4 := Tryd.sizeOf4
  v4 := Tryd.zeroValue4
  t5 := Tryd.underlying5
  a5 := Tryd.isAgg5
  z5 := Tryd.sizeOf5
  v5 := Tryd.zeroValue5
  t9 := Tryd.underlying9
  a9 := Tryd.isAgg9
  z9 := Tryd.sizeOf9
  v9 := Tryd.zeroValue9 }
open Go.RowKit in
/-- strings.trimRightByte (no doc; what TrimRight and Trim call at a cutset of one ASCII byte): the trailing bytes that are c are cut off. The world is as it was. ('hs': a string's length is a number that an int holds.) (LAID: no walk: one application.) -/
theorem Tryd.strings_trimRightByte (s : ByteArray) (c : UInt8) (w : World) (hs : s.size ≤ 9223372036854775807) :
    Calls Tryd.prog 94 #[.string s, .int .u8 c.toNat] w fun e w' => e = .returned (.string ⟨(Lib.trimRightB s.data.toList c).toArray⟩) ∧ w' = w := Any.strings_trimRightByte Tryd.lays232 s c w hs
def Tryd.lays161_ren : Go.Shelf.Ren := ⟨fun | 161 => 91 | 231 => 93 | 227 => 95 | 233 => 96 | 235 => 98 | 228 => 116 | 197 => 117 | 151 => 118 | 260 => 126 | 152 => 127 | 137 => 125 | 119 => 130 | 224 => 131 | 225 => 132 | 217 => 129 | 266 => 133 | n => n, fun | 9 => 9 | 4 => 4 | 3 => 3 | 5 => 5 | 117 => 165 | 116 => 164 | 0 => 0 | 124 => 168 | 105 => 196 | 21 => 21 | 119 => 204 | 46 => 112 | 139 => 207 | 138 => 206 | n => n, fun | 3 => 1 | 4 => 2 | n => n⟩
theorem Tryd.lays161 : Go.Proofs.Lays.n161 Tryd.prog Tryd.lays161_ren := {
  mixed := by kernel_rfl
  f119 := Tryd.func130.trans (congrArg some (by kernel_rfl))
  f137 := Tryd.func125.trans (congrArg some (by kernel_rfl))
  f151 := Tryd.func118.trans (congrArg some (by kernel_rfl))
  f152 := Tryd.func127.trans (congrArg some (by kernel_rfl))
  f161 := Tryd.func91.trans (congrArg some (by kernel_rfl))
  f197 := Tryd.func117.trans (congrArg some (by kernel_rfl))
  f217 := Tryd.func129.trans (congrArg some (by kernel_rfl))
  f224 := Tryd.func131.trans (congrArg some (by kernel_rfl))
  f225 := Tryd.func132.trans (congrArg some (by kernel_rfl))
  f227 := Tryd.func95.trans (congrArg some (by kernel_rfl))
  f228 := Tryd.func116.trans (congrArg some (by kernel_rfl))
  f231 := Tryd.func93.trans (congrArg some (by kernel_rfl))
  f233 := Tryd.func96.trans (congrArg some (by kernel_rfl))
  f235 := Tryd.func98.trans (congrArg some (by kernel_rfl))
  f260 := Tryd.func126.trans (congrArg some (by kernel_rfl))
  f266 := Tryd.func133.trans (congrArg some (by kernel_rfl))
  t0 := Tryd.underlying0
  a0 := Tryd.isAgg0
  z0 := Tryd.sizeOf0
  v0 := Tryd.zeroValue0
  t3 := Tryd.underlying3
  a3 := Tryd.isAgg3
  z3 := Tryd.sizeOf3
  v3 := Tryd.zeroValue3
  t4 := Tryd.underlying4
  a4 := Tryd.isAgg4
  z4 := Tryd.sizeOf4
  v4 := Tryd.zeroValue4
  t5 := Tryd.underlying5
  a5 := Tryd.isAgg5
  z5 := Tryd.sizeOf5
  v5 := Tryd.zeroValue5
  t9 := Tryd.underlying9
  a9 := Tryd.isAgg9
  z9 := Tryd.sizeOf9
  v9 := Tryd.zeroValue9
  t21 := Tryd.underlying21
  a21 := Tryd.isAgg21
  z21 := Tryd.sizeOf21
  v21 := Tryd.zeroValue21
  t46 := Tryd.underlying112
  a46 := Tryd.isAgg112
  z46 := Tryd.sizeOf112
  v46 := Tryd.zeroValue112
  t105 := Tryd.underlying196
  a105 := Tryd.isAgg196
  z105 := Tryd.sizeOf196
  v105 := Tryd.zeroValue196
  t116 := Tryd.underlying164
  a116 := Tryd.isAgg164
  z116 := Tryd.sizeOf164
  t117 := Tryd.underlying165
  a117 := Tryd.isAgg165
  z117 := Tryd.sizeOf165
  v117 := Tryd.zeroValue165
  t119 := Tryd.underlying204
  a119 := Tryd.isAgg204
  z119 := Tryd.sizeOf204
  t124 := Tryd.underlying168
  a124 := Tryd.isAgg168
  z124 := Tryd.sizeOf168
  v124 := Tryd.zeroValue168
  t138 := Tryd.underlying206
  a138 := Tryd.isAgg206
  z138 := Tryd.sizeOf206
  v138 := Tryd.zeroValue206
  t139 := Tryd.underlying207
  a139 := Tryd.isAgg207
  z139 := Tryd.sizeOf207
  v139 := Tryd.zeroValue207
  g3 := by kernel_rfl
  g4 := by kernel_rfl }
open Go.RowKit in
/-- strings.TrimLeft: "TrimLeft returns a slice of the string s with all leading Unicode code points contained in cutset removed.": AT A cutset OF ONE ASCII BYTE. The world is as it was. (LAID: no walk: one application.) -/
theorem Tryd.strings_TrimLeft_one (s : ByteArray) (c : UInt8) (hc : c.toNat < 128) (w : World) :
    Calls Tryd.prog 91 #[.string s, .string ⟨#[c]⟩] w fun e w' => e = .returned (.string ⟨(Lib.trimLeftB s.data.toList c).toArray⟩) ∧ w' = w := Any.strings_TrimLeft_one Tryd.lays161 s c hc w
def Tryd.lays160_ren : Go.Shelf.Ren := ⟨fun | 160 => 63 | 232 => 94 | 231 => 93 | 227 => 95 | 234 => 97 | 233 => 96 | 236 => 99 | 235 => 98 | 228 => 116 | 271 => 119 | 151 => 118 | 197 => 117 | 120 => 128 | 152 => 127 | 260 => 126 | 137 => 125 | 119 => 130 | 224 => 131 | 225 => 132 | 217 => 129 | 266 => 133 | n => n, fun | 9 => 9 | 4 => 4 | 3 => 3 | 5 => 5 | 117 => 165 | 116 => 164 | 0 => 0 | 124 => 168 | 21 => 21 | 105 => 196 | 46 => 112 | 119 => 204 | 139 => 207 | 138 => 206 | n => n, fun | 3 => 1 | 4 => 2 | n => n⟩
theorem Tryd.lays160 : Go.Proofs.Lays.n160 Tryd.prog Tryd.lays160_ren := {
  mixed := by kernel_rfl
  f119 := Tryd.func130.trans (congrArg some (by kernel_rfl))
  f120 := Tryd.func128.trans (congrArg some (by kernel_rfl))
  f137 := Tryd.func125.trans (congrArg some (by kernel_rfl))
  f151 := Tryd.func118.trans (congrArg some (by kernel_rfl))
  f152 := Tryd.func127.trans (congrArg some (by kernel_rfl))
  f160 := Tryd.func63.trans (congrArg some (by kernel_rfl))
  f197 := Tryd.func117.trans (congrArg some (by kernel_rfl))
  f217 := Tryd.func129.trans (congrArg some (by kernel_rfl))
  f224 := Tryd.func131.trans (congrArg some (by kernel_rfl))
  f225 := Tryd.func132.trans (congrArg some (by kernel_rfl))
  f227 := Tryd.func95.trans (congrArg some (by kernel_rfl))
  f228 := Tryd.func116.trans (congrArg some (by kernel_rfl))
  f231 := Tryd.func93.trans (congrArg some (by kernel_rfl))
  f232 := Tryd.func94.trans (congrArg some (by kernel_rfl))
  f233 := Tryd.func96.trans (congrArg some (by kernel_rfl))
  f234 := Tryd.func97.trans (congrArg some (by kernel_rfl))
  f235 := Tryd.func98.trans (congrArg some (by kernel_rfl))
  f236 := Tryd.func99.trans (congrArg some (by kernel_rfl))
  f260 := Tryd.func126.trans (congrArg some (by kernel_rfl))
  f266 := Tryd.func133.trans (congrArg some (by kernel_rfl))
  f271 := Tryd.func119.trans (congrArg some (by kernel_rfl))
  t0 := Tryd.underlying0
  a0 := Tryd.isAgg0
  z0 := Tryd.sizeOf0
  v0 := Tryd.zeroValue0
  t3 := Tryd.underlying3
  a3 := Tryd.isAgg3
  z3 := Tryd.sizeOf3
  v3 := Tryd.zeroValue3
  t4 := Tryd.underlying4
  a4 := Tryd.isAgg4
  z4 := Tryd.sizeOf4
  v4 := Tryd.zeroValue4
  t5 := Tryd.underlying5
  a5 := Tryd.isAgg5
  z5 := Tryd.sizeOf5
  v5 := Tryd.zeroValue5
  t9 := Tryd.underlying9
  a9 := Tryd.isAgg9
  z9 := Tryd.sizeOf9
  v9 := Tryd.zeroValue9
  t21 := Tryd.underlying21
  a21 := Tryd.isAgg21
  z21 := Tryd.sizeOf21
  v21 := Tryd.zeroValue21
  t46 := Tryd.underlying112
  a46 := Tryd.isAgg112
  z46 := Tryd.sizeOf112
  v46 := Tryd.zeroValue112
  t105 := Tryd.underlying196
  a105 := Tryd.isAgg196
  z105 := Tryd.sizeOf196
  v105 := Tryd.zeroValue196
  t116 := Tryd.underlying164
  a116 := Tryd.isAgg164
  z116 := Tryd.sizeOf164
  t117 := Tryd.underlying165
  a117 := Tryd.isAgg165
  z117 := Tryd.sizeOf165
  v117 := Tryd.zeroValue165
  t119 := Tryd.underlying204
  a119 := Tryd.isAgg204
  z119 := Tryd.sizeOf204
  t124 := Tryd.underlying168
  a124 := Tryd.isAgg168
  z124 := Tryd.sizeOf168
  v124 := Tryd.zeroValue168
  t138 := Tryd.underlying206
  a138 := Tryd.isAgg206
  z138 := Tryd.sizeOf206
  v138 := Tryd.zeroValue206
  t139 := Tryd.underlying207
  a139 := Tryd.isAgg207
  z139 := Tryd.sizeOf207
  v139 := Tryd.zeroValue207
  g3 := by kernel_rfl
  g4 := by kernel_rfl }
open Go.RowKit in
/-- strings.Trim: "Trim returns a slice of the string s with all leading and trailing Unicode code points contained in cutset removed.": AT A cutset OF ONE ASCII BYTE. THE WORLD BEHIND IT: as it was, or (where s is not empty) with ONE DRAW MORE off the tape: the statement 'return trimLeftByte(trimRightByte(s, c), c)' draws its order of evaluation. (LAID: no walk: one application.) -/
theorem Tryd.strings_Trim_one (s : ByteArray) (c : UInt8) (hc : c.toNat < 128) (w : World) (hs : s.size ≤ 9223372036854775807) :
    Calls Tryd.prog 63 #[.string s, .string ⟨#[c]⟩] w fun e w' => e = .returned (.string ⟨(Lib.trimB s.data.toList c).toArray⟩) ∧ (w' = w ∨ w' = w.drew) := Any.strings_Trim_one Tryd.lays160 s c hc w hs
def Tryd.lays137_ren : Go.Shelf.Ren := ⟨fun | 137 => 125 | 217 => 129 | 266 => 133 | n => n, fun | 9 => 9 | 5 => 5 | 3 => 3 | n => n, fun | n => n⟩
theorem Tryd.lays137 : Go.Proofs.Lays.n137 Tryd.prog Tryd.lays137_ren := {
  mixed := by kernel_rfl
  f137 := Tryd.func125.trans (congrArg some (by kernel_rfl))
  f217 := Tryd.func129.trans (congrArg some (by kernel_rfl))
  f266 := Tryd.func133.trans (congrArg some (by kernel_rfl))
  t3 := Tryd.underlying3
  a3 := Tryd.isAgg3
  z3 := Tryd.sizeOf3
  v3 := Tryd.zeroValue3
  t5 := Tryd.underlying5
  a5 := Tryd.isAgg5
  z5 := Tryd.sizeOf5
  v5 := Tryd.zeroValue5
  t9 := Tryd.underlying9
  a9 := Tryd.isAgg9
  z9 := Tryd.sizeOf9
  v9 := Tryd.zeroValue9 }
open Go.RowKit in
/-- strings.IndexByte: "IndexByte returns the index of the first instance of c in s, or -1 if c is not present in s.": IT RETURNS 'Lib.indexByte s c'; the world is as it was. (LAID: no walk: one application.) -/
theorem Tryd.strings_IndexByte (s : ByteArray) (c : Int) (w : World) :
    Calls Tryd.prog 125 #[.string s, .int .u8 c] w fun e w' => e = .returned (.int .i64 (Lib.indexByte s.data.toList c.toNat.toUInt8)) ∧ w' = w := Any.strings_IndexByte Tryd.lays137 s c w
def Tryd.lays215_ren : Go.Shelf.Ren := ⟨fun | 215 => 121 | n => n, fun | 3 => 3 | 4 => 4 | n => n, fun | n => n⟩
theorem Tryd.lays215 : Go.Proofs.Lays.n215 Tryd.prog Tryd.lays215_ren := {
  mixed := by kernel_rfl
  f215 := Tryd.func121.trans (congrArg some (by kernel_rfl))
  t3 := Tryd.underlying3
  a3 := Tryd.isAgg3
  z3 := Tryd.sizeOf3
  v3 := Tryd.zeroValue3
  t4 := Tryd.underlying4
  a4 := Tryd.isAgg4
  z4 := Tryd.sizeOf4
  v4 := Tryd.zeroValue4 }
open Go.RowKit in
/-- cmp.isNaN at int: 'x != x': false. (LAID: no walk: one application.) -/
theorem Tryd.cmp_isNaN_int (x : Int) (w : World) :
    Calls Tryd.prog 121 #[.int .i64 x] w fun e w' => e = .returned (.bool false) ∧ w' = w := Any.cmp_isNaN_int Tryd.lays215 x w
def Tryd.lays122_ren : Go.Shelf.Ren := ⟨fun | 122 => 102 | 215 => 121 | n => n, fun | 3 => 3 | 4 => 4 | n => n, fun | n => n⟩
theorem Tryd.lays122 : Go.Proofs.Lays.n122 Tryd.prog Tryd.lays122_ren := {
  mixed := by kernel_rfl
  f122 := Tryd.func102.trans (congrArg some (by kernel_rfl))
  f215 := Tryd.func121.trans (congrArg some (by kernel_rfl))
  t3 := Tryd.underlying3
  a3 := Tryd.isAgg3
  z3 := Tryd.sizeOf3
  v3 := Tryd.zeroValue3
  t4 := Tryd.underlying4
  a4 := Tryd.isAgg4
  z4 := Tryd.sizeOf4
  v4 := Tryd.zeroValue4 }
open Go.RowKit in
/-- cmp.Compare at int: "Compare returns -1 if x is less than y, 0 if x equals y, +1 if x is greater than y.": IT RETURNS 'Lib.compareInt x y'; the world is as it was. (LAID: no walk: one application.) -/
theorem Tryd.cmp_Compare_int (x y : Int) (w : World) :
    Calls Tryd.prog 102 #[.int .i64 x, .int .i64 y] w fun e w' => e = .returned (.int .i64 (Lib.compareInt x y)) ∧ w' = w := Any.cmp_Compare_int Tryd.lays122 x y w
def Tryd.lays217_ren : Go.Shelf.Ren := ⟨fun | 217 => 129 | 266 => 133 | n => n, fun | 9 => 9 | 5 => 5 | 3 => 3 | n => n, fun | n => n⟩
theorem Tryd.lays217 : Go.Proofs.Lays.n217 Tryd.prog Tryd.lays217_ren := {
  mixed := by kernel_rfl
  f217 := Tryd.func129.trans (congrArg some (by kernel_rfl))
  f266 := Tryd.func133.trans (congrArg some (by kernel_rfl))
  t3 := Tryd.underlying3
  a3 := Tryd.isAgg3
  z3 := Tryd.sizeOf3
  v3 := Tryd.zeroValue3
  t5 := Tryd.underlying5
  a5 := Tryd.isAgg5
  z5 := Tryd.sizeOf5
  v5 := Tryd.zeroValue5
  t9 := Tryd.underlying9
  a9 := Tryd.isAgg9
  z9 := Tryd.sizeOf9
  v9 := Tryd.zeroValue9 }
open Go.RowKit Go.Lib in
/-- internal/stringslite.IndexByte (what strings.IndexByte calls): IT RETURNS 'Lib.indexByte s c'; the world is as it was. (LAID: no walk: one application.) -/
theorem Tryd.stringslite_IndexByte (s : ByteArray) (c : Int) (w : World) :
    Calls Tryd.prog 129 #[.string s, .int .u8 c] w fun e w' => e = .returned (.int .i64 (Lib.indexByte s.data.toList c.toNat.toUInt8)) ∧ w' = w := Any.stringslite_IndexByte Tryd.lays217 s c w
def Tryd.lays206_ren : Go.Shelf.Ren := ⟨fun | 206 => 115 | n => n, fun | 9 => 9 | 4 => 4 | 3 => 3 | n => n, fun | n => n⟩
theorem Tryd.lays206 : Go.Proofs.Lays.n206 Tryd.prog Tryd.lays206_ren := {
  mixed := by kernel_rfl
  f206 := Tryd.func115.trans (congrArg some (by kernel_rfl))
  t3 := Tryd.underlying3
  a3 := Tryd.isAgg3
  z3 := Tryd.sizeOf3
  v3 := Tryd.zeroValue3
  t4 := Tryd.underlying4
  a4 := Tryd.isAgg4
  z4 := Tryd.sizeOf4
  v4 := Tryd.zeroValue4
  t9 := Tryd.underlying9
  a9 := Tryd.isAgg9
  z9 := Tryd.sizeOf9
  v9 := Tryd.zeroValue9 }
open Go.RowKit Go.Lib in
/-- internal/stringslite.HasPrefix (what strings.HasPrefix calls). (LAID: no walk: one application.) -/
theorem Tryd.stringslite_HasPrefix (s p : ByteArray) (w : World) :
    Calls Tryd.prog 115 #[.string s, .string p] w fun e w' => e = .returned (.bool (Lib.hasPrefix s.data.toList p.data.toList)) ∧ w' = w := Any.stringslite_HasPrefix Tryd.lays206 s p w
def Tryd.lays99_ren : Go.Shelf.Ren := ⟨fun | 99 => 112 | 206 => 115 | n => n, fun | 9 => 9 | 4 => 4 | 3 => 3 | n => n, fun | n => n⟩
theorem Tryd.lays99 : Go.Proofs.Lays.n99 Tryd.prog Tryd.lays99_ren := {
  mixed := by kernel_rfl
  f99 := Tryd.func112.trans (congrArg some (by kernel_rfl))
  f206 := Tryd.func115.trans (congrArg some (by kernel_rfl))
  t3 := Tryd.underlying3
  a3 := Tryd.isAgg3
  z3 := Tryd.sizeOf3
  v3 := Tryd.zeroValue3
  t4 := Tryd.underlying4
  a4 := Tryd.isAgg4
  z4 := Tryd.sizeOf4
  v4 := Tryd.zeroValue4
  t9 := Tryd.underlying9
  a9 := Tryd.isAgg9
  z9 := Tryd.sizeOf9
  v9 := Tryd.zeroValue9 }
open Go.RowKit Go.Lib in
/-- strings.HasPrefix: "HasPrefix reports whether the string s begins with prefix.": IT RETURNS 'Lib.hasPrefix s prefix'; the world is as it was. (LAID: no walk: one application.) -/
theorem Tryd.strings_HasPrefix (s p : ByteArray) (w : World) :
    Calls Tryd.prog 112 #[.string s, .string p] w fun e w' => e = .returned (.bool (Lib.hasPrefix s.data.toList p.data.toList)) ∧ w' = w := Any.strings_HasPrefix Tryd.lays99 s p w
def Tryd.lays208_ren : Go.Shelf.Ren := ⟨fun | 208 => 92 | 206 => 115 | n => n, fun | 9 => 9 | 4 => 4 | 3 => 3 | n => n, fun | n => n⟩
theorem Tryd.lays208 : Go.Proofs.Lays.n208 Tryd.prog Tryd.lays208_ren := {
  mixed := by kernel_rfl
  f206 := Tryd.func115.trans (congrArg some (by kernel_rfl))
  f208 := Tryd.func92.trans (congrArg some (by kernel_rfl))
  t3 := Tryd.underlying3
  a3 := Tryd.isAgg3
  z3 := Tryd.sizeOf3
  v3 := Tryd.zeroValue3
  t4 := Tryd.underlying4
  a4 := Tryd.isAgg4
  z4 := Tryd.sizeOf4
  v4 := Tryd.zeroValue4
  t9 := Tryd.underlying9
  a9 := Tryd.isAgg9
  z9 := Tryd.sizeOf9
  v9 := Tryd.zeroValue9 }
open Go.RowKit Go.Lib in
/-- internal/stringslite.TrimPrefix (what strings.TrimPrefix calls). (LAID: no walk: one application.) -/
theorem Tryd.stringslite_TrimPrefix (s p : ByteArray) (w : World) :
    Calls Tryd.prog 92 #[.string s, .string p] w fun e w' => e = .returned (.string ⟨(Lib.trimPrefix s.data.toList p.data.toList).toArray⟩) ∧ w' = w := Any.stringslite_TrimPrefix Tryd.lays208 s p w
def Tryd.lays101_ren : Go.Shelf.Ren := ⟨fun | 101 => 62 | 208 => 92 | 206 => 115 | n => n, fun | 9 => 9 | 4 => 4 | 3 => 3 | n => n, fun | n => n⟩
theorem Tryd.lays101 : Go.Proofs.Lays.n101 Tryd.prog Tryd.lays101_ren := {
  mixed := by kernel_rfl
  f101 := Tryd.func62.trans (congrArg some (by kernel_rfl))
  f206 := Tryd.func115.trans (congrArg some (by kernel_rfl))
  f208 := Tryd.func92.trans (congrArg some (by kernel_rfl))
  t3 := Tryd.underlying3
  a3 := Tryd.isAgg3
  z3 := Tryd.sizeOf3
  v3 := Tryd.zeroValue3
  t4 := Tryd.underlying4
  a4 := Tryd.isAgg4
  z4 := Tryd.sizeOf4
  v4 := Tryd.zeroValue4
  t9 := Tryd.underlying9
  a9 := Tryd.isAgg9
  z9 := Tryd.sizeOf9
  v9 := Tryd.zeroValue9 }
open Go.RowKit Go.Lib in
/-- strings.TrimPrefix: "TrimPrefix returns s without the provided leading prefix string. If s doesn't start with prefix, s is returned unchanged.": IT RETURNS 'Lib.trimPrefix s prefix'; the world is as it was. (LAID: no walk: one application.) -/
theorem Tryd.strings_TrimPrefix (s p : ByteArray) (w : World) :
    Calls Tryd.prog 62 #[.string s, .string p] w fun e w' => e = .returned (.string ⟨(Lib.trimPrefix s.data.toList p.data.toList).toArray⟩) ∧ w' = w := Any.strings_TrimPrefix Tryd.lays101 s p w
end Go.Proofs
end
section
/-
  The contracts of nat.order and nat.Compare.
-/
namespace Go.Proofs.YtcgphlilijeifaaDoor
open Go.RowKit

theorem cmpString_any (a b : ByteArray) (w : World) (r : Int) (hr : cmp a.toList b.toList = r) :
    Calls Tryd.prog 103 #[.string a, .string b] w fun e w' => e = .returned (.int .i64 r) ∧ Below w.heap.size w w' := by
  have hl := less_iff a.toList b.toList
  have he := eq_iff a.toList b.toList
  rw [hr] at hl he
  rcases cmp_three a.toList b.toList with h | h | h <;> rw [h] at hr <;> subst hr
  · have hl' : Op.bytesLess a.toList b.toList = true := by rw [hl]; rfl
    clear hl he h
    go_enter Tryd.func103, Tryd.ntmps103
    go_wp2
    go_ret
    exact ⟨rfl, Below.refl _ _⟩
  · have hl' : Op.bytesLess a.toList b.toList = false := by rw [hl]; rfl
    have he' : (a.toList == b.toList) = true := by rw [he]; rfl
    clear hl he h
    go_enter Tryd.func103, Tryd.ntmps103
    go_wp2
    go_ret
    exact ⟨rfl, Below.refl _ _⟩
  · have hl' : Op.bytesLess a.toList b.toList = false := by rw [hl]; rfl
    have he' : (a.toList == b.toList) = false := by rw [he]; rfl
    clear hl he h
    go_enter Tryd.func103, Tryd.ntmps103
    go_wp2
    go_ret
    exact ⟨rfl, Below.refl _ _⟩

theorem order_any (a b : ByteArray) (w : World) (_ha : a.size ≤ 9223372036854775807) (_hb : b.size ≤ 9223372036854775807) (r : Int) (hr : mcmp a.toList b.toList = r) :
    Calls Tryd.prog 72 #[.string a, .string b] w fun e w' => e = .returned (.int .i64 r) ∧ Below w.heap.size w w' := by
  by_cases h1 : a.size < b.size
  · have : r = -1 := by rw [← hr]; unfold mcmp; rw [if_pos (by rw [size_of, size_of]; exact h1)]
    subst this
    clear hr
    go_enter Tryd.func72, Tryd.ntmps72
    go_wp2
    go_ret
    exact ⟨rfl, Below.refl _ _⟩
  · by_cases h2 : b.size < a.size
    · have : r = 1 := by rw [← hr]; unfold mcmp; rw [if_neg (by rw [size_of, size_of]; exact h1), if_pos (by rw [size_of, size_of]; exact h2)]
      subst this
      clear hr
      go_enter Tryd.func72, Tryd.ntmps72
      go_wp2
      go_ret
      exact ⟨rfl, Below.refl _ _⟩
    · have HR := Lib.hid (show cmp a.toList b.toList = r by rw [← hr]; unfold mcmp; rw [if_neg (by rw [size_of, size_of]; exact h1), if_neg (by rw [size_of, size_of]; exact h2)])
      clear hr
      go_enter Tryd.func72, Tryd.ntmps72
      go_wp2_with (first | (go_at_call 103; refine (cmpString_any _ _ _ r HR.out).mono ?_; rintro e w1 ⟨rfl, hb1⟩) | go_in)
      go_ret
      exact ⟨rfl, hb1⟩

/-- What lay there lies there still. -/
theorem keep {W w1 : World} (hb : Below W.heap.size W w1) {p : Addr} {v : Value} (h : W.cell? p = some v) : w1.cell? p = some v := (hb.cell (World.block_lt_of_cell? W p h)).trans h
theorem num2_cells {w w1 : World} {x y : Bool} {a b : ByteArray} {T : TypeId}
    (hb : Below ((w.alloc (.cells #[.bool x, .string a] T)).alloc (.cells #[.bool y, .string b] T)).heap.size ((w.alloc (.cells #[.bool x, .string a] T)).alloc (.cells #[.bool y, .string b] T)) w1) :
    w1.cell? ⟨w.heap.size, 0, none⟩ = some (.bool x) ∧ w1.cell? ⟨w.heap.size, 1, none⟩ = some (.string a) ∧ w1.cell? ⟨w.heap.size + 1, 0, none⟩ = some (.bool y) ∧ w1.cell? ⟨w.heap.size + 1, 1, none⟩ = some (.string b) ∧
      w.heap.size + 1 < w1.heap.size ∧ Below w.heap.size w w1 :=
  ⟨keep hb (by simp), keep hb (by simp), keep hb (by simp), keep hb (by simp), by have := hb.size; simp at this; omega,
    (((Below.refl _ _).alloc (Nat.le_refl _) _).alloc (by simp) _).trans (hb.mono (by simp; omega))⟩

/-- Two numbers that may be. -/
theorem compare_ok (x : Bool) (a : ByteArray) (y : Bool) (b : ByteArray) (w : World) (ha : chk x a.toList = 0) (hb : chk y b.toList = 0) (r : Int) (hr : ncmp x a.toList y b.toList = r) :
    Calls Tryd.prog 29 #[.agg #[.bool x, .string a], .agg #[.bool y, .string b]] w fun e w' => e = .returned (.tuple #[.int .i64 r, .int .i64 0]) ∧ Below w.heap.size w w' := by
  have la := (chk_zero_iff.1 ha).1
  have lb := (chk_zero_iff.1 hb).1
  rw [size_of] at la lb
  have HA := Lib.hid ha
  have HB := Lib.hid hb
  clear ha hb
  cases x <;> cases y
  all_goals
    simp only [ncmp, if_true, if_false, Bool.false_eq_true] at hr
    have HR := Lib.hid hr
    clear hr
    go_enter Tryd.func29, Tryd.ntmps29
    go_wp2_with fail
    refine (check_any _ a _ (by omega) 0 HA.out).mono ?_
    rintro e w1 ⟨rfl, hb1⟩
    obtain ⟨c0, c1, c2, c3, hz, hbw⟩ := num2_cells hb1
    go_wp2_with fail
    refine (check_any _ b _ (by omega) 0 HB.out).mono ?_
    rintro e w2 ⟨rfl, hb2⟩
    have d0 := keep hb2 c0
    have d1 := keep hb2 c1
    have d2 := keep hb2 c2
    have d3 := keep hb2 c3
    have hz2 : w.heap.size + 1 < w2.heap.size := by have := hb2.size; omega
    clear c0 c1 c2 c3
    go_wp2_with (go_at_call 72; refine (order_any _ _ _ (by omega) (by omega) r HR.out).mono ?_; rintro e w3 ⟨rfl, hb3⟩)
    go_ret2
    first | exact ⟨rfl, two (two hbw hb2) hb3⟩ | (subst hr; exact ⟨rfl, two hbw hb2⟩) | (have h := HR.out; subst h; exact ⟨rfl, two hbw hb2⟩)

theorem compare_bad (x : Bool) (a : ByteArray) (y : Bool) (b : ByteArray) (w : World) (ha : a.size ≤ 9223372036854775807) (hb : b.size ≤ 9223372036854775807) (r : Int)
    (hr : (chk x a.toList = r ∧ r ≠ 0) ∨ (chk x a.toList = 0 ∧ chk y b.toList = r ∧ r ≠ 0)) :
    Calls Tryd.prog 29 #[.agg #[.bool x, .string a], .agg #[.bool y, .string b]] w fun e w' => e = .returned (.tuple #[.int .i64 0, .int .i64 r]) ∧ Below w.heap.size w w' := by
  rcases hr with ⟨h1, h2⟩ | ⟨h0, h1, h2⟩
  · have f : (r != 0) = true := by simpa using h2
    have HA := Lib.hid h1
    clear h1 h2
    go_enter Tryd.func29, Tryd.ntmps29
    go_wp2_with fail
    refine (check_any _ a _ (by omega) r HA.out).mono ?_
    rintro e w1 ⟨rfl, hb1⟩
    obtain ⟨_, _, _, _, _, hbw⟩ := num2_cells hb1
    go_wp2
    go_ret2
    exact ⟨rfl, hbw⟩
  · have f : (r != 0) = true := by simpa using h2
    have HA := Lib.hid h0
    have HB := Lib.hid h1
    clear h0 h1 h2
    go_enter Tryd.func29, Tryd.ntmps29
    go_wp2_with fail
    refine (check_any _ a _ (by omega) 0 HA.out).mono ?_
    rintro e w1 ⟨rfl, hb1⟩
    obtain ⟨c0, c1, c2, c3, hz, hbw⟩ := num2_cells hb1
    go_wp2_with fail
    refine (check_any _ b _ (by omega) r HB.out).mono ?_
    rintro e w2 ⟨rfl, hb2⟩
    go_wp2
    go_ret2
    exact ⟨rfl, two hbw hb2⟩
end Go.Proofs.YtcgphlilijeifaaDoor
end
