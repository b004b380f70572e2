import Derived.WalkKit
import Derived.Laws.IdiomStrings
import Derived.Laws.BytesArg
import Derived.Below
import Derived.Lib.BufferWrite
import Derived.Laws.OwnMore
/-
  Rows of bytes that a call itself made: what they hold as a list of bytes, and the string that they convert to.
-/
namespace Go.Proofs.YtcgphlilijeifaaDoor
open Go.RowKit

/-- The bytes as cells. -/
def bv (l : List UInt8) : List Value := l.map fun c => .int .u8 (c.toNat : Int)
theorem bv_length (l : List UInt8) : (bv l).length = l.length := by simp [bv]
theorem bv_append (l m : List UInt8) : bv l ++ bv m = bv (l ++ m) := by simp [bv]
theorem bv_one (l : List UInt8) : ∀ u ∈ bv l, u.oneCell' = true := by
  intro u hu
  simp only [bv, List.mem_map] at hu
  obtain ⟨c, _, rfl⟩ := hu
  rfl

/-- The slice v is nil or one of the call's own (blocks from base on), and its elements are the bytes l. -/
def OwnB (w : World) (base : Nat) (v : Value) (l : List UInt8) : Prop := w.ownsRow base 5 1 v l.length (bv l)

theorem OwnB.nil (w : World) (base : Nat) : OwnB w base (.slice none 0 0) [] := World.ownsRow_nil w base 5 1
theorem OwnB.below {w w' : World} {base : Nat} {v : Value} {l : List UInt8} (h : OwnB w base v l) (hb : Below w.heap.size w w') : OwnB w' base v l := by
  refine ⟨h.1, ?_⟩
  rcases h.2 with hn | ⟨g, cap, cur, rfl, hg, hgg, rest⟩
  · exact .inl hn
  · exact .inr ⟨g, cap, cur, rfl, hg, (hb.block g (Array.getElem?_eq_some_iff.1 hgg).1).trans hgg, rest⟩

/-- The conversion of such a slice to a string. -/
theorem OwnB.conv {P : Program} {w : World} {base : Nat} {v : Value} {l : List UInt8} (h : OwnB w base v l) (src dst : TypeId)
    (hs : P.underlying src = some (.slice 5)) (he : P.underlying 5 = some (.int .u8)) (hd : P.underlying dst = some .string) :
    (convert src dst v).run P w = .ok (.string ⟨l.toArray⟩) w := by
  rcases h.2 with ⟨rfl, hn⟩ | ⟨g, cap, cur, rfl, hg, hgg, rest⟩
  · have : l = [] := List.eq_nil_of_length_eq_zero (by simpa using hn)
    subst this
    have := run_convert_bytes_nil (P := P) w src 5 hs he 0 0 dst hd
    rw [this]
    rfl
  · refine run_convert_bytes_back w src dst 5 ⟨g, 0, none⟩ cap l hs he hd (fun j hj => ?_)
    exact World.ownsRow.cells h (g := g) rfl j _ (by simp [bv, List.getElem?_eq_getElem hj])

/-- One byte in a new block of one cell. -/
theorem one_cell (w : World) (x : Value) (T : TypeId) : ∀ j u, [x][j]? = some u → (w.alloc (.cells #[x] T)).cell? ((⟨w.heap.size, 0, none⟩ : Addr).add j) = some u := by
  intro j u hj
  match j, hj with
  | 0, hj => simp at hj; subst hj; simp [Addr.add]
theorem two_cells (w : World) (x y : Value) (T : TypeId) : ∀ j u, [x, y][j]? = some u → (w.alloc (.cells #[x, y] T)).cell? ((⟨w.heap.size, 0, none⟩ : Addr).add j) = some u := by
  intro j u hj
  match j, hj with
  | 0, hj => simp at hj; subst hj; simp [Addr.add]
  | 1, hj => simp at hj; subst hj; simp [Addr.add]

theorem bv_cells_one (w : World) (c : UInt8) (T : TypeId) : ∀ j u, (bv [c])[j]? = some u → (w.alloc (.cells #[.int .u8 (c.toNat : Int)] T)).cell? ((⟨w.heap.size, 0, none⟩ : Addr).add j) = some u := one_cell w _ T
theorem bv_cells_two (w : World) (c d : UInt8) (T : TypeId) : ∀ j u, (bv [c, d])[j]? = some u → (w.alloc (.cells #[.int .u8 (c.toNat : Int), .int .u8 (d.toNat : Int)] T)).cell? ((⟨w.heap.size, 0, none⟩ : Addr).add j) = some u := two_cells w _ _ T

/-- Bytes appended to such a slice. W is the world in which the call began, its blocks stay as they were. -/
theorem wpList_append_bytes {P : Program} {ops : Array Oper} {rest : List Oper} {o : Oper} {a : Act} {Q : Exit → Act → World → Prop} {W w : World} (hgd : o.guard = none) (s x : Operand) (t : TypeId)
    (ho : o.op = .call { callee := .builtin .append, args := #[s, x], argTypes := #[t, t] })
    (ht : P.underlying t = some (.slice 5)) (hinfo : (P.info? 5).map (fun i => (i.zero, i.size, i.bytes)) = some (some (.int .u8 0), 1, 1))
    {base : Nat} {v : Value} {l : List UInt8} (hs : a.eval s = v) (hown : OwnB w base v l)
    (ad : Addr) (m : List UInt8) (k c : Nat) (hk : m.length = k) (hx : a.eval x = .slice (some ad) k c) (hnews : ∀ j u, (bv m)[j]? = some u → w.cell? (ad.add j) = some u)
    (hlen : l.length + k ≤ 140737488355328) (hB : Below base W w) (hbase : base ≤ w.heap.size)
    (h : ∀ v' w', OwnB w' base v' (l ++ m) → Below base W w' → base ≤ w'.heap.size → wpList P ops Q rest (a.put o.dst v') w') : wpList P ops Q (o :: rest) a w := by
  subst hk
  obtain ⟨i0, hi, hz0, hz1, hz2⟩ := info_parts hinfo
  refine wpList_append_own w hgd s x t ho base 5 i0 (.int .u8 0) 1 1 ht hi hz0 hz1 hz2 rfl (by decide) v l.length (bv l) hs hown ad m.length c (bv m) hx (by simp [bv_length]) hnews (bv_one m) (by unfold maxLen; omega) (by omega) hbase ?_
  intro v' w' ho' hg _
  refine h v' w' ?_ (hB.grown hg hbase fun k hk => (World.ownsRow.lt hown k hk).1) (Nat.le_trans hbase hg.size)
  unfold OwnB
  rw [bv_append] at ho'
  simpa using ho'
/-- A string copied over the whole of such a slice. -/
theorem wpList_copy_str {P : Program} {ops : Array Oper} {rest : List Oper} {o : Oper} {a : Act} {Q : Exit → Act → World → Prop} {W w : World} (hgd : o.guard = none) (d x : Operand) (t t2 : TypeId)
    (ho : o.op = .call { callee := .builtin .copy, args := #[d, x], argTypes := #[t, t2] })
    (ht : P.underlying t = some (.slice 5)) (hinfo : (P.info? 5).map (fun i => (i.zero, i.size, i.bytes)) = some (some (.int .u8 0), 1, 1))
    {base g : Nat} {l : List UInt8} (s : ByteArray) (hd : a.eval d = .slice (some ⟨g, 0, none⟩) s.size s.size) (hx : a.eval x = .string s) (hown : OwnB w base (.slice (some ⟨g, 0, none⟩) s.size s.size) l)
    (hB : Below base W w) (hbase : base ≤ w.heap.size)
    (h : ∀ w', OwnB w' base (.slice (some ⟨g, 0, none⟩) s.size s.size) s.data.toList → Below base W w' → base ≤ w'.heap.size → wpList P ops Q rest (a.put o.dst (.int .i64 s.size)) w') : wpList P ops Q (o :: rest) a w := by
  obtain ⟨i0, hi, hz0, hz1, hz2⟩ := info_parts hinfo
  rcases hown.2 with ⟨hv, _⟩ | ⟨g', cap, cur, hv, hg, hgg, hnc, hcm, hcs, htake⟩
  · cases hv
  · injection hv with e1 e2 e3
    injection e1 with e1
    injection e1 with e1 _ _
    subst e1 e3
    refine wpList_plain hgd fun K hK => ?_
    have hrun := Lib.run_copy_row_string (P := P) w t t2 o.type 5 g 0 s.size s.size s cur 5 ht (by simp [hi, hz1]) hgg (by omega) (by omega)
    unfold Oper.wp
    simp [execOp, ho, resolve, invoke, builtin, hd, hx, hrun, Result.andThen]
    refine hK _ _ (h _ ?_ (hB.trans ⟨rfl, rfl, rfl, by simp [World.setRow], fun k hk => setRow_other w g k _ (by omega)⟩) (by simpa [World.setRow] using hbase))
    have hlen : (Lib.byteCells s.data.toList).length = s.size := by rw [Lib.byteCells_length, ← Lib.size_eq]
    have hsz : s.size = s.data.toList.length := by rw [Array.length_toList]; rfl
    refine ⟨by simp [bv], .inr ⟨g, s.size, _, rfl, hg, setRow_heap w g cur _ 5 _ hgg, by omega, hcm, ?_, ?_⟩⟩
    · simp [hlen]; omega
    · show List.take (s.data.toList.length * 1) (Lib.byteCells s.data.toList ++ List.drop s.size cur.toList) = _
      rw [Nat.mul_one, ← hsz, List.take_append_of_le_length (by omega), List.take_of_length_le (by omega)]
      rfl
theorem OwnB.alloc {w : World} {base : Nat} {v : Value} {l : List UInt8} (h : OwnB w base v l) (o : Obj) : OwnB (w.alloc o) base v l := World.ownsRow.alloc h o
theorem OwnB.drew {w : World} {base : Nat} {v : Value} {l : List UInt8} (h : OwnB w base v l) : OwnB w.drew base v l := h
end Go.Proofs.YtcgphlilijeifaaDoor
