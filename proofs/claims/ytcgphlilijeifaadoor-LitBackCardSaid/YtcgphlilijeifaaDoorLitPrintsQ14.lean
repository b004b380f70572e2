import Derived.Test.YtcgphlilijeifaaDoorLitPrintsQ11
import Derived.Test.YtcgphlilijeifaaDoorLitPrintsQ13
import Derived.Test.YtcgphlilijeifaaDoorLitPrintsQ12
import Derived.Test.YtcgphlilijeifaaDoorLitPrintsQ1
import Derived.Test.YtcgphlilijeifaaDoorLitPrintsQ9
import Derived.Test.YtcgphlilijeifaaDoorLitPrintsQ2
section
/-
  Rows of bytes that grow while all that is no row of bytes stays; a row appended to a row.
-/
namespace Go.Proofs.YtcgphlilijeifaaDoor.L
open Go.RowKit
open V (Pt)

/-- Nothing below B has turned, nor anything that is no row of bytes. -/
structure Kp (B : Nat) (w w' : World) : Prop where
  below : Below B w w'
  far : ∀ (k : Nat) (cur : Array Value) (e : TypeId) (r : Nat × Nat), w.heap[k]? = some (Obj.cells cur e r) → e ≠ 5 → w'.heap[k]? = w.heap[k]?
theorem Kp.refl (B : Nat) (w : World) : Kp B w w := ⟨Below.refl B w, fun _ _ _ _ _ _ => rfl⟩
theorem Kp.trans {B : Nat} {a b c : World} (h : Kp B a b) (k : Kp B b c) : Kp B a c :=
  ⟨h.below.trans k.below, fun i cur e r hi he => (k.far i cur e r ((h.far i cur e r hi he).trans hi) he).trans (h.far i cur e r hi he)⟩
theorem Kp.of_below {B : Nat} {w w' : World} (h : Below w.heap.size w w') (hB : B ≤ w.heap.size) : Kp B w w' :=
  ⟨h.mono hB, fun k _ _ _ hk _ => h.block k (Array.getElem?_eq_some_iff.1 hk).1⟩
theorem Kp.size {B : Nat} {w w' : World} (h : Kp B w w') : w.heap.size ≤ w'.heap.size := h.below.size
theorem Kp.alloc {B : Nat} {w w' : World} (h : Kp B w w') (hs : B ≤ w'.heap.size) (o : Obj) : Kp B w (w'.alloc o) := h.trans (Kp.of_below ((Below.refl _ _).alloc (Nat.le_refl _) o) hs)
theorem Kp.grown {B : Nat} {w w' w'' : World} {v : Value} {l : List UInt8} (h : Kp B w w') (hO : OwnB w' B v l) (hg : w'.grownBy w'' v.ownBlock) (hs : B ≤ w'.heap.size) : Kp B w w'' := by
  refine ⟨h.below.grown hg hs (fun k hk => (World.ownsRow.lt hO k hk).1), fun k cur e r hk he => ?_⟩
  have h2 := (h.far k cur e r hk he).trans hk
  refine (hg.block k (Array.getElem?_eq_some_iff.1 h2).1 (fun ek => ?_)).trans (h.far k cur e r hk he)
  rcases hO.2 with ⟨rfl, _⟩ | ⟨g, cap, cu, rfl, _, hgg, _⟩
  · cases ek
  · injection ek with ek
    subst ek
    rw [h2] at hgg
    injection hgg with hgg
    injection hgg with _ h5 _
    exact he h5

theorem wpList_app_bytes {P : Program} {ops : Array Oper} {rest : List Oper} {o : Oper} {a : Act} {Q : Exit → Act → World → Prop} {W w : World} (hgd : o.guard = none) (s x : Operand) (t : TypeId)
    (ho : o.op = .call { callee := .builtin .append, args := #[s, x], argTypes := #[t, t] })
    (ht : P.underlying t = some (.slice 5)) (hinfo : (P.info? 5).map (fun i => (i.zero, i.size, i.bytes)) = some (some (.int .u8 0), 1, 1))
    {base : Nat} {v : Value} {l : List UInt8} (hs : a.eval s = v) (hown : OwnB w base v l)
    (ad : Addr) (m : List UInt8) (k c : Nat) (hk : m.length = k) (hx : a.eval x = .slice (some ad) k c) (hnews : ∀ j u, (bv m)[j]? = some u → w.cell? (ad.add j) = some u)
    (hlen : l.length + k ≤ 140737488355328) (hB : Kp base W w) (hbase : base ≤ w.heap.size)
    (h : ∀ v' w', OwnB w' base v' (l ++ m) → Kp base W w' → base ≤ w'.heap.size → wpList P ops Q rest (a.put o.dst v') w') : wpList P ops Q (o :: rest) a w := by
  subst hk
  obtain ⟨i0, hi, hz0, hz1, hz2⟩ := info_parts hinfo
  refine wpList_append_own w hgd s x t ho base 5 i0 (.int .u8 0) 1 1 ht hi hz0 hz1 hz2 rfl (by decide) v l.length (bv l) hs hown ad m.length c (bv m) hx (by simp [bv_length]) hnews (bv_one m) (by unfold maxLen; omega) (by omega) hbase ?_
  intro v' w' ho' hg _
  refine h v' w' ?_ (hB.grown hown hg hbase) (Nat.le_trans hbase hg.size)
  unfold OwnB
  rw [bv_append] at ho'
  simpa using ho'
theorem wpList_app_str {P : Program} {ops : Array Oper} {rest : List Oper} {o : Oper} {a : Act} {Q : Exit → Act → World → Prop} {W w : World} (hgd : o.guard = none) (s x : Operand) (t u : TypeId)
    (ho : o.op = .call { callee := .builtin .append, args := #[s, x], argTypes := #[t, u] })
    (ht : P.underlying t = some (.slice 5)) (hu : P.underlying u = some .string) (hinfo : (P.info? 5).map (fun i => (i.zero, i.size, i.bytes)) = some (some (.int .u8 0), 1, 1))
    {base : Nat} {v : Value} {l : List UInt8} (hs : a.eval s = v) (hown : OwnB w base v l)
    (m : ByteArray) (hx : a.eval x = .string m)
    (hlen : l.length + m.size ≤ 140737488355328) (hB : Kp base W w) (hbase : base ≤ w.heap.size)
    (h : ∀ v' w', OwnB w' base v' (l ++ m.toList) → Kp base W w' → base ≤ w'.heap.size → wpList P ops Q rest (a.put o.dst v') w') : wpList P ops Q (o :: rest) a w := by
  obtain ⟨i0, hi, hz0, hz1, hz2⟩ := info_parts hinfo
  refine Lib.wpList_append_own_string w hgd s x t u ho base 5 i0 ht hu hi hz0 hz1 hz2 v l.length (bv l) hs hown m hx (by unfold maxLen; omega) (by omega) hbase ?_
  intro v' w' ho' hg _
  refine h v' w' ?_ (hB.grown hown hg hbase) (Nat.le_trans hbase hg.size)
  unfold OwnB
  rw [str_bv, bv_append] at ho'
  rw [List.length_append, size_of]
  exact ho'
/-- Nothing appended. -/
theorem run_append_none {P : Program} (w : World) (t ty : TypeId) (i : TypeInfo) (ht : P.underlying t = some (.slice 5)) (hi : P.info? 5 = some i) (hs : i.size = 1) {base : Nat} {v : Value} {l : List UInt8} (hO : OwnB w base v l) :
    (Builtin.append_ #[t, t] ty #[v, .slice none 0 0]).run P w = .ok v w := by
  rcases hO.2 with ⟨rfl, _⟩ | ⟨g, cap, cur, rfl, _, hgg, hnc, _⟩
  · simp [Builtin.append_, run_underlying ht, sizeOf, typeInfo, hi, Builtin.lenOf, Builtin.firstCells]
  · simp [Builtin.append_, run_underlying ht, sizeOf, typeInfo, hi, Builtin.lenOf, Builtin.firstCells, hnc, hs, storeCells]
/-- A row of the call's own, which may be nil, appended. -/
theorem wpList_app_row {P : Program} {ops : Array Oper} {rest : List Oper} {o : Oper} {a : Act} {Q : Exit → Act → World → Prop} {W w : World} (hgd : o.guard = none) (s x : Operand) (t : TypeId)
    (ho : o.op = .call { callee := .builtin .append, args := #[s, x], argTypes := #[t, t] })
    (ht : P.underlying t = some (.slice 5)) (hinfo : (P.info? 5).map (fun i => (i.zero, i.size, i.bytes)) = some (some (.int .u8 0), 1, 1))
    {base base2 : Nat} {v u : Value} {l m : List UInt8} (hs : a.eval s = v) (hown : OwnB w base v l) (hx : a.eval x = u) (hm : OwnB w base2 u m)
    (hlen : l.length + m.length ≤ 140737488355328) (hB : Kp base W w) (hbase : base ≤ w.heap.size)
    (h : ∀ v' w', OwnB w' base v' (l ++ m) → Kp base W w' → base ≤ w'.heap.size → wpList P ops Q rest (a.put o.dst v') w') : wpList P ops Q (o :: rest) a w := by
  rcases id hm.2 with ⟨rfl, hn⟩ | ⟨g, cap, cur, rfl, _⟩
  · have : m = [] := List.eq_nil_of_length_eq_zero hn
    subst this
    obtain ⟨i0, hi, hz0, hz1, hz2⟩ := info_parts hinfo
    refine wpList_plain hgd fun K hK => ?_
    have hr := run_append_none (P := P) w t o.type i0 ht hi hz1 hown
    unfold Oper.wp execOp
    simp only [ho, resolve, invoke, builtin, Sem.run_bind, Sem.run_pure, Result.andThen_ok, List.map_toArray, List.map_cons, List.map_nil, hs, hx, hr]
    exact hK _ _ (h v w (by rw [List.append_nil]; exact hown) hB hbase)
  · exact wpList_app_bytes hgd s x t ho ht hinfo hs hown ⟨g, 0, none⟩ m m.length cap rfl hx (fun j u hj => World.ownsRow.cells hm (g := g) rfl j u hj) hlen hB hbase h

theorem bv_cells_oneH (w : World) (c : UInt8) (T : TypeId) (H : Nat) (h : w.heap.size = H) : ∀ j u, (bv [c])[j]? = some u → (w.alloc (.cells #[.int .u8 (c.toNat : Int)] T)).cell? ((⟨H, 0, none⟩ : Addr).add j) = some u := by
  subst h
  exact bv_cells_one w c T
/-- A part in a block of its own. -/
def BoxAt (w : World) (T : Nat) (p : Pt) (v : Value) : Prop := w.heap[T]? = some (Obj.cells #[.int .u8 p.kind, .bool p.yes, .bool p.neg, .string p.mag, .string p.raw, v] 27 (0, 0))
theorem BoxAt.kp {B : Nat} {w w' : World} {T : Nat} {p : Pt} {v : Value} (h : BoxAt w T p v) (k : Kp B w w') : BoxAt w' T p v := (k.far T _ 27 _ h (by decide)).trans h
theorem BoxAt.cell {w : World} {T : Nat} {p : Pt} {v : Value} (h : BoxAt w T p v) : w.cell? ⟨T, 0, none⟩ = some (.int .u8 p.kind) ∧ w.cell? ⟨T, 1, none⟩ = some (.bool p.yes) ∧ w.cell? ⟨T, 2, none⟩ = some (.bool p.neg) ∧
    w.cell? ⟨T, 3, none⟩ = some (.string p.mag) ∧ w.cell? ⟨T, 4, none⟩ = some (.string p.raw) ∧ w.cell? ⟨T, 5, none⟩ = some v :=
  ⟨cell_of_row w T 0 _ _ _ h, cell_of_row w T 1 _ _ _ h, cell_of_row w T 2 _ _ _ h, cell_of_row w T 3 _ _ _ h, cell_of_row w T 4 _ _ _ h, cell_of_row w T 5 _ _ _ h⟩
theorem BoxAt.new (w : World) (p : Pt) (v : Value) : BoxAt (w.alloc (.cells #[.int .u8 p.kind, .bool p.yes, .bool p.neg, .string p.mag, .string p.raw, v] 27)) w.heap.size p v := heap_alloc_new w _

/-- What the document's text tells. -/
def RPost (B : Nat) (l : List UInt8) (p : Pt) (w : World) (e : Ending) (w' : World) : Prop :=
  ∃ v' M, e = .returned v' ∧ OwnB w' B v' M ∧ Kp B w w' ∧ B ≤ w'.heap.size ∧ ((l ++ textP p).length ≤ 65536 → M = l ++ textP p) ∧ (65536 < (l ++ textP p).length → 65536 < M.length) ∧ M.length ≤ max l.length (400000 + 1100 * V.depthP p)
theorem hexL_len2 (s : List UInt8) : (hexL s).length = 2 * s.length := hexL_length s
theorem leaf_len {p : Pt} (hm : V.mayB p = true) (h7 : p.kind ≠ 7) : (textP p).length ≤ 262200 := by
  obtain ⟨c0, c1, c2, c3, c4, c5, c6, c7⟩ := canonP hm
  have hr := raw_le hm
  rw [← size_of] at hr
  rw [textP_eq]
  split
  · simp [nullT]
  split
  · split <;> simp [yesT, noT]
  split
  · rename_i k2
    have h := digitsV_len p.neg p.mag.toList
    have := (chk_zero_iff.1 (c5 k2)).1
    omega
  unfold rawL
  have e1 := escL_len 39 p.raw.toList
  have e2 := escL_len 34 p.raw.toList
  split
  · rw [List.length_cons, hexL_length]; omega
  split
  · rw [List.length_cons, hexL_length]; omega
  split
  · rw [List.length_cons, List.length_append, List.length_singleton]; omega
  · rw [List.length_cons, List.length_append, List.length_singleton]; omega
theorem rpost_leaf {B : Nat} {l : List UInt8} {p : Pt} {w w' : World} {v' : Value} (hm : V.mayB p = true) (h7 : p.kind ≠ 7) (hl : l.length ≤ 65536) (hO : OwnB w' B v' (l ++ textP p)) (hB : Kp B w w') (hs : B ≤ w'.heap.size) : RPost B l p w (.returned v') w' := by
  refine ⟨v', _, rfl, hO, hB, hs, fun _ => rfl, fun h => h, ?_⟩
  have := leaf_len hm h7
  rw [List.length_append]
  omega
theorem rpost_long {B : Nat} {l : List UInt8} {p : Pt} {w w' : World} {v' : Value} (hl : 65536 < l.length) (hO : OwnB w' B v' l) (hB : Kp B w w') (hs : B ≤ w'.heap.size) : RPost B l p w (.returned v') w' := by
  refine ⟨v', l, rfl, hO, hB, hs, fun h => ?_, fun _ => hl, by omega⟩
  rw [List.length_append] at h
  omega
end Go.Proofs.YtcgphlilijeifaaDoor.L
end
section
/-
  The document's text: all but tuples (printed by wip/tools/mk-litk.py).
-/
namespace Go.Proofs.YtcgphlilijeifaaDoor.L
open Go.RowKit
open V (Pt)

set_option maxRecDepth 100000 in
set_option maxHeartbeats 1500000 in
theorem text_long (p : Pt) (B : Nat) (v : Value) (l : List UInt8) (w : World) (a : Option Addr) (cap : Nat) (hsz : B ≤ w.heap.size) (hO : OwnB w B v l) (hl : 65536 < l.length) :
    Calls Tryd.prog 77 #[v, .agg #[.int .u8 p.kind, .bool p.yes, .bool p.neg, .string p.mag, .string p.raw, .slice a p.items.length cap]] w (RPost B l p w) := by
  obtain ⟨n, a1, cap1, rfl, hn⟩ := ownb_form hO
  have q0 := last_gt (Nat.not_le_of_lt hl) hn.out
  have hB : Kp B w (w.alloc (.cells #[.int .u8 p.kind, .bool p.yes, .bool p.neg, .string p.mag, .string p.raw, .slice a p.items.length cap] 27)) := (Kp.refl B w).alloc hsz _
  go_enter Tryd.func77, Tryd.ntmps77
  go_wp2_with (at_builtin; refine wpList_len rfl (.tmp 8) 111 rfl slice111 rfl ?_)
  go_ret
  exact rpost_long hl (hO.alloc _) hB (by simp; omega)

set_option maxRecDepth 100000 in
set_option maxHeartbeats 1500000 in
theorem text_null (p : Pt) (hm : V.mayB p = true) (hk : p.kind = 0) (B : Nat) (v : Value) (l : List UInt8) (w : World) (a : Option Addr) (cap : Nat) (hsz : B ≤ w.heap.size) (hO : OwnB w B v l) (hl : l.length ≤ 65536) :
    Calls Tryd.prog 77 #[v, .agg #[.int .u8 p.kind, .bool p.yes, .bool p.neg, .string p.mag, .string p.raw, .slice a p.items.length cap]] w (RPost B l p w) := by
  have HT := Lib.hid (show nullS.toList = textP p by rw [textP_eq, if_pos hk, nullS_text])
  have q1 : ((p.kind : Int) == 1) = false := beq_eq_false_iff_ne.2 (by omega)
  have q2 : ((p.kind : Int) == 2) = false := beq_eq_false_iff_ne.2 (by omega)
  have q3 : ((p.kind : Int) == 3) = false := beq_eq_false_iff_ne.2 (by omega)
  have q4 : ((p.kind : Int) == 4) = false := beq_eq_false_iff_ne.2 (by omega)
  have q5 : ((p.kind : Int) == 5) = false := beq_eq_false_iff_ne.2 (by omega)
  have q6 : ((p.kind : Int) == 6) = false := beq_eq_false_iff_ne.2 (by omega)
  have q7 : ((p.kind : Int) == 7) = false := beq_eq_false_iff_ne.2 (by omega)
  obtain ⟨n, a1, cap1, rfl, hn⟩ := ownb_form hO
  have hn2 : n ≤ 65536 := by rw [hn.out]; exact hl
  have q0 := last_le hl hn.out
  have HM := Lib.hid hm
  have hB : Kp B w (w.alloc (.cells #[.int .u8 p.kind, .bool p.yes, .bool p.neg, .string p.mag, .string p.raw, .slice a p.items.length cap] 27)) := (Kp.refl B w).alloc hsz _
  have h7 : p.kind ≠ 7 := by omega
  have H7 := Lib.hid h7
  clear hk hm h7
  go_enter Tryd.func77, Tryd.ntmps77
  go_wp2_with (at_builtin; first
    | refine wpList_len rfl (.tmp 8) 111 rfl slice111 rfl ?_
    | (refine wpList_app_str rfl (.tmp 94) (.const (.string nullS)) 111 9 rfl Tryd.underlying111 (by kernel_rfl) Tryd.info5 rfl (hO.alloc _) nullS rfl (by first | (show _ + 4 ≤ _; omega) | omega) hB (by simp; omega) ?_; intro v2 w2 hO2 hB2 hs2))
  go_ret
  rw [HT.out] at hO2
  exact rpost_leaf HM.out H7.out hl hO2 hB2 hs2

set_option maxRecDepth 100000 in
set_option maxHeartbeats 1500000 in
theorem text_true (p : Pt) (hm : V.mayB p = true) (hk : p.kind = 1) (hy : p.yes = true) (B : Nat) (v : Value) (l : List UInt8) (w : World) (a : Option Addr) (cap : Nat) (hsz : B ≤ w.heap.size) (hO : OwnB w B v l) (hl : l.length ≤ 65536) :
    Calls Tryd.prog 77 #[v, .agg #[.int .u8 p.kind, .bool p.yes, .bool p.neg, .string p.mag, .string p.raw, .slice a p.items.length cap]] w (RPost B l p w) := by
  have HT := Lib.hid (show yesS.toList = textP p by rw [textP_eq, if_neg (by omega), if_pos hk, hy, yesS_text]; rfl)
  have q1 : ((p.kind : Int) == 1) = true := beq_iff_eq.2 (by omega)
  obtain ⟨n, a1, cap1, rfl, hn⟩ := ownb_form hO
  have hn2 : n ≤ 65536 := by rw [hn.out]; exact hl
  have q0 := last_le hl hn.out
  have HM := Lib.hid hm
  have hB : Kp B w (w.alloc (.cells #[.int .u8 p.kind, .bool p.yes, .bool p.neg, .string p.mag, .string p.raw, .slice a p.items.length cap] 27)) := (Kp.refl B w).alloc hsz _
  have H7 := Lib.hid (show p.kind ≠ 7 by omega)
  rw [hy] at hB ⊢
  clear hk hm hy
  go_enter Tryd.func77, Tryd.ntmps77
  go_wp2_with (at_builtin; first
    | refine wpList_len rfl (.tmp 8) 111 rfl slice111 rfl ?_
    | (refine wpList_app_str rfl (.tmp 18) (.const (.string yesS)) 111 9 rfl Tryd.underlying111 (by kernel_rfl) Tryd.info5 rfl (hO.alloc _) yesS rfl (by first | (show _ + 3 ≤ _; omega) | omega) hB (by simp; omega) ?_; intro v2 w2 hO2 hB2 hs2))
  go_ret
  rw [HT.out] at hO2
  exact rpost_leaf HM.out H7.out hl hO2 hB2 hs2

set_option maxRecDepth 100000 in
set_option maxHeartbeats 1500000 in
theorem text_false (p : Pt) (hm : V.mayB p = true) (hk : p.kind = 1) (hy : p.yes = false) (B : Nat) (v : Value) (l : List UInt8) (w : World) (a : Option Addr) (cap : Nat) (hsz : B ≤ w.heap.size) (hO : OwnB w B v l) (hl : l.length ≤ 65536) :
    Calls Tryd.prog 77 #[v, .agg #[.int .u8 p.kind, .bool p.yes, .bool p.neg, .string p.mag, .string p.raw, .slice a p.items.length cap]] w (RPost B l p w) := by
  have HT := Lib.hid (show noS.toList = textP p by rw [textP_eq, if_neg (by omega), if_pos hk, hy, noS_text]; rfl)
  have q1 : ((p.kind : Int) == 1) = true := beq_iff_eq.2 (by omega)
  obtain ⟨n, a1, cap1, rfl, hn⟩ := ownb_form hO
  have hn2 : n ≤ 65536 := by rw [hn.out]; exact hl
  have q0 := last_le hl hn.out
  have HM := Lib.hid hm
  have hB : Kp B w (w.alloc (.cells #[.int .u8 p.kind, .bool p.yes, .bool p.neg, .string p.mag, .string p.raw, .slice a p.items.length cap] 27)) := (Kp.refl B w).alloc hsz _
  have H7 := Lib.hid (show p.kind ≠ 7 by omega)
  rw [hy] at hB ⊢
  clear hk hm hy
  go_enter Tryd.func77, Tryd.ntmps77
  go_wp2_with (at_builtin; first
    | refine wpList_len rfl (.tmp 8) 111 rfl slice111 rfl ?_
    | (refine wpList_app_str rfl (.tmp 20) (.const (.string noS)) 111 9 rfl Tryd.underlying111 (by kernel_rfl) Tryd.info5 rfl (hO.alloc _) noS rfl (by first | (show _ + 2 ≤ _; omega) | omega) hB (by simp; omega) ?_; intro v2 w2 hO2 hB2 hs2))
  go_ret
  rw [HT.out] at hO2
  exact rpost_leaf HM.out H7.out hl hO2 hB2 hs2

set_option maxRecDepth 100000 in
set_option maxHeartbeats 1500000 in
theorem text_num (p : Pt) (hm : V.mayB p = true) (hk : p.kind = 2) (hc : chk p.neg p.mag.toList = 0) (B : Nat) (v : Value) (l : List UInt8) (w : World) (a : Option Addr) (cap : Nat) (hsz : B ≤ w.heap.size) (hO : OwnB w B v l) (hl : l.length ≤ 65536) :
    Calls Tryd.prog 77 #[v, .agg #[.int .u8 p.kind, .bool p.yes, .bool p.neg, .string p.mag, .string p.raw, .slice a p.items.length cap]] w (RPost B l p w) := by
  have HT := Lib.hid (show textP p = digitsV p.neg p.mag.toList by rw [textP_eq, hk]; rfl)
  have hml : p.mag.size ≤ 255 := by
    have := (chk_zero_iff.1 hc).1
    rw [size_of] at this
    exact this
  have HC := Lib.hid hc
  have q1 : ((p.kind : Int) == 1) = false := beq_eq_false_iff_ne.2 (by omega)
  have q2 : ((p.kind : Int) == 2) = true := beq_iff_eq.2 (by omega)
  obtain ⟨n, a1, cap1, rfl, hn⟩ := ownb_form hO
  have hn2 : n ≤ 65536 := by rw [hn.out]; exact hl
  have q0 := last_le hl hn.out
  have HM := Lib.hid hm
  have hB : Kp B w (w.alloc (.cells #[.int .u8 p.kind, .bool p.yes, .bool p.neg, .string p.mag, .string p.raw, .slice a p.items.length cap] 27)) := (Kp.refl B w).alloc hsz _
  have H7 := Lib.hid (show p.kind ≠ 7 by omega)
  clear hk hm hc
  go_enter Tryd.func77, Tryd.ntmps77
  go_wp2_with (at_builtin; refine wpList_len rfl (.tmp 8) 111 rfl slice111 rfl ?_)
  refine (rprint_ok p.neg p.mag _ HC.out).mono ?_
  rintro e w1 ⟨q, rfl, hqe, hb1⟩
  have HE := Lib.hid (show q.toList = textP p by rw [HT.out]; exact hqe.out)
  have hdl := digitsV_len p.neg p.mag.toList
  rw [← HT.out, ← HE.out, size_of, size_of] at hdl
  have hB1 := hB.trans (Kp.of_below hb1 (by simp; omega))
  have hO1 := (hO.alloc _).below hb1
  have hs1 : B ≤ w1.heap.size := Nat.le_trans (Nat.le_trans hsz hB.size) hb1.size
  clear hb1 hqe hB
  go_wp2_with (at_builtin; refine wpList_app_str rfl (.tmp 30) (.tmp 31) 111 9 rfl Tryd.underlying111 (by kernel_rfl) Tryd.info5 rfl hO1 q rfl (by omega) hB1 hs1 ?_; intro v2 w2 hO2 hB2 hs2)
  go_ret
  rw [HE.out] at hO2
  exact rpost_leaf HM.out H7.out hl hO2 hB2 hs2

set_option maxRecDepth 100000 in
set_option maxHeartbeats 1500000 in
theorem text_3 (p : Pt) (hm : V.mayB p = true) (hk : p.kind = 3) (B : Nat) (v : Value) (l : List UInt8) (w : World) (a : Option Addr) (cap : Nat) (hsz : B ≤ w.heap.size) (hO : OwnB w B v l) (hl : l.length ≤ 65536) :
    Calls Tryd.prog 77 #[v, .agg #[.int .u8 p.kind, .bool p.yes, .bool p.neg, .string p.mag, .string p.raw, .slice a p.items.length cap]] w (RPost B l p w) := by
  have HT := Lib.hid (show 120 :: hexL p.raw.toList = textP p by rw [textP_eq, hk]; rfl)
  have hr := raw_le hm
  have q1 : ((p.kind : Int) == 1) = false := beq_eq_false_iff_ne.2 (by omega)
  have q2 : ((p.kind : Int) == 2) = false := beq_eq_false_iff_ne.2 (by omega)
  have q3 : ((p.kind : Int) == 3) = true := beq_iff_eq.2 (by omega)
  obtain ⟨n, a1, cap1, rfl, hn⟩ := ownb_form hO
  have hn2 : n ≤ 65536 := by rw [hn.out]; exact hl
  have q0 := last_le hl hn.out
  have HM := Lib.hid hm
  have hB : Kp B w (w.alloc (.cells #[.int .u8 p.kind, .bool p.yes, .bool p.neg, .string p.mag, .string p.raw, .slice a p.items.length cap] 27)) := (Kp.refl B w).alloc hsz _
  have H7 := Lib.hid (show p.kind ≠ 7 by omega)
  have hbx := Lib.hid (BoxAt.new w p (.slice a p.items.length cap))
  have hBr := Kp.refl B (w.alloc (.cells #[.int .u8 p.kind, .bool p.yes, .bool p.neg, .string p.mag, .string p.raw, .slice a p.items.length cap] 27))
  clear hk hm
  go_enter Tryd.func77, Tryd.ntmps77
  go_wp2_with (at_builtin; first
    | refine wpList_len rfl (.tmp 8) 111 rfl slice111 rfl ?_
    | (refine wpList_app_bytes rfl (.tmp 35) (.tmp 36) 111 rfl Tryd.underlying111 Tryd.info5 rfl ((hO.alloc _).alloc _) _ [120] 1 _ rfl rfl (bv_cells_oneH _ 120 _ _ (by simp)) (by omega) (hBr.alloc (by simp; omega) _) (by simp; omega) ?_; intro v2 w2 hO2 hB2 hs2; have hbx2 := Lib.hid (hbx.out.kp hB2); obtain ⟨c0, c1, c2, c3, c4, c5⟩ := hbx2.out.cell))
  refine (rdigits_any p.raw w2 hr).mono ?_
  rintro e w3 ⟨v3, rfl, hO3, hb3⟩
  have hO4 := hO2.below hb3
  have hB4 := (hB.trans hB2).trans (Kp.of_below hb3 hs2)
  have hs4 := Nat.le_trans hs2 hb3.size
  have hl3 := hexL_length p.raw.toList
  rw [size_of] at hl3
  clear c0 c1 c2 c3 c4 c5 hbx2 hb3 hB2 hO2
  go_wp2_with (at_builtin; refine wpList_app_row rfl (.tmp 38) (.tmp 41) 111 rfl Tryd.underlying111 Tryd.info5 rfl hO4 rfl hO3 (by simp; omega) hB4 hs4 ?_; intro v5 w5 hO5 hB5 hs5)
  go_ret
  rw [List.append_assoc, List.singleton_append, HT.out] at hO5
  exact rpost_leaf HM.out H7.out hl hO5 hB5 hs5

set_option maxRecDepth 100000 in
set_option maxHeartbeats 1500000 in
theorem text_4 (p : Pt) (hm : V.mayB p = true) (hk : p.kind = 4) (B : Nat) (v : Value) (l : List UInt8) (w : World) (a : Option Addr) (cap : Nat) (hsz : B ≤ w.heap.size) (hO : OwnB w B v l) (hl : l.length ≤ 65536) :
    Calls Tryd.prog 77 #[v, .agg #[.int .u8 p.kind, .bool p.yes, .bool p.neg, .string p.mag, .string p.raw, .slice a p.items.length cap]] w (RPost B l p w) := by
  have HT := Lib.hid (show 35 :: hexL p.raw.toList = textP p by rw [textP_eq, hk]; rfl)
  have hr := raw_le hm
  have q1 : ((p.kind : Int) == 1) = false := beq_eq_false_iff_ne.2 (by omega)
  have q2 : ((p.kind : Int) == 2) = false := beq_eq_false_iff_ne.2 (by omega)
  have q3 : ((p.kind : Int) == 3) = false := beq_eq_false_iff_ne.2 (by omega)
  have q4 : ((p.kind : Int) == 4) = true := beq_iff_eq.2 (by omega)
  obtain ⟨n, a1, cap1, rfl, hn⟩ := ownb_form hO
  have hn2 : n ≤ 65536 := by rw [hn.out]; exact hl
  have q0 := last_le hl hn.out
  have HM := Lib.hid hm
  have hB : Kp B w (w.alloc (.cells #[.int .u8 p.kind, .bool p.yes, .bool p.neg, .string p.mag, .string p.raw, .slice a p.items.length cap] 27)) := (Kp.refl B w).alloc hsz _
  have H7 := Lib.hid (show p.kind ≠ 7 by omega)
  have hbx := Lib.hid (BoxAt.new w p (.slice a p.items.length cap))
  have hBr := Kp.refl B (w.alloc (.cells #[.int .u8 p.kind, .bool p.yes, .bool p.neg, .string p.mag, .string p.raw, .slice a p.items.length cap] 27))
  clear hk hm
  go_enter Tryd.func77, Tryd.ntmps77
  go_wp2_with (at_builtin; first
    | refine wpList_len rfl (.tmp 8) 111 rfl slice111 rfl ?_
    | (refine wpList_app_bytes rfl (.tmp 45) (.tmp 46) 111 rfl Tryd.underlying111 Tryd.info5 rfl ((hO.alloc _).alloc _) _ [35] 1 _ rfl rfl (bv_cells_oneH _ 35 _ _ (by simp)) (by omega) (hBr.alloc (by simp; omega) _) (by simp; omega) ?_; intro v2 w2 hO2 hB2 hs2; have hbx2 := Lib.hid (hbx.out.kp hB2); obtain ⟨c0, c1, c2, c3, c4, c5⟩ := hbx2.out.cell))
  refine (rdigits_any p.raw w2 hr).mono ?_
  rintro e w3 ⟨v3, rfl, hO3, hb3⟩
  have hO4 := hO2.below hb3
  have hB4 := (hB.trans hB2).trans (Kp.of_below hb3 hs2)
  have hs4 := Nat.le_trans hs2 hb3.size
  have hl3 := hexL_length p.raw.toList
  rw [size_of] at hl3
  clear c0 c1 c2 c3 c4 c5 hbx2 hb3 hB2 hO2
  go_wp2_with (at_builtin; refine wpList_app_row rfl (.tmp 48) (.tmp 51) 111 rfl Tryd.underlying111 Tryd.info5 rfl hO4 rfl hO3 (by simp; omega) hB4 hs4 ?_; intro v5 w5 hO5 hB5 hs5)
  go_ret
  rw [List.append_assoc, List.singleton_append, HT.out] at hO5
  exact rpost_leaf HM.out H7.out hl hO5 hB5 hs5

set_option maxRecDepth 100000 in
set_option maxHeartbeats 1500000 in
theorem text_5 (p : Pt) (hm : V.mayB p = true) (hk : p.kind = 5) (B : Nat) (v : Value) (l : List UInt8) (w : World) (a : Option Addr) (cap : Nat) (hsz : B ≤ w.heap.size) (hO : OwnB w B v l) (hl : l.length ≤ 65536) :
    Calls Tryd.prog 77 #[v, .agg #[.int .u8 p.kind, .bool p.yes, .bool p.neg, .string p.mag, .string p.raw, .slice a p.items.length cap]] w (RPost B l p w) := by
  have HT := Lib.hid (show 39 :: (escL 39 p.raw.toList ++ [39]) = textP p by rw [textP_eq, hk]; rfl)
  have hr := raw_le hm
  have q1 : ((p.kind : Int) == 1) = false := beq_eq_false_iff_ne.2 (by omega)
  have q2 : ((p.kind : Int) == 2) = false := beq_eq_false_iff_ne.2 (by omega)
  have q3 : ((p.kind : Int) == 3) = false := beq_eq_false_iff_ne.2 (by omega)
  have q4 : ((p.kind : Int) == 4) = false := beq_eq_false_iff_ne.2 (by omega)
  have q5 : ((p.kind : Int) == 5) = true := beq_iff_eq.2 (by omega)
  obtain ⟨n, a1, cap1, rfl, hn⟩ := ownb_form hO
  have hn2 : n ≤ 65536 := by rw [hn.out]; exact hl
  have q0 := last_le hl hn.out
  have HM := Lib.hid hm
  have hB : Kp B w (w.alloc (.cells #[.int .u8 p.kind, .bool p.yes, .bool p.neg, .string p.mag, .string p.raw, .slice a p.items.length cap] 27)) := (Kp.refl B w).alloc hsz _
  have H7 := Lib.hid (show p.kind ≠ 7 by omega)
  clear hk hm
  go_enter Tryd.func77, Tryd.ntmps77
  go_wp2_with (at_builtin; refine wpList_len rfl (.tmp 8) 111 rfl slice111 rfl ?_)
  refine (rquoted_any p.raw 39 _ hr).mono ?_
  rintro e w3 ⟨v3, rfl, hO3, hb3⟩
  have hO4 := (hO.alloc _).below hb3
  have hB4 := hB.trans (Kp.of_below hb3 (by simp; omega))
  have hs4 : B ≤ w3.heap.size := Nat.le_trans (Nat.le_trans hsz hB.size) hb3.size
  have hl3 := escL_len 39 p.raw.toList
  rw [size_of] at hl3
  clear hb3 hB hO
  go_wp2_with (at_builtin; refine wpList_app_row rfl (.tmp 55) (.tmp 58) 111 rfl Tryd.underlying111 Tryd.info5 rfl hO4 rfl hO3 (by simp; omega) hB4 hs4 ?_; intro v5 w5 hO5 hB5 hs5)
  go_ret
  rw [HT.out] at hO5
  exact rpost_leaf HM.out H7.out hl hO5 hB5 hs5

set_option maxRecDepth 100000 in
set_option maxHeartbeats 1500000 in
theorem text_6 (p : Pt) (hm : V.mayB p = true) (hk : p.kind = 6) (B : Nat) (v : Value) (l : List UInt8) (w : World) (a : Option Addr) (cap : Nat) (hsz : B ≤ w.heap.size) (hO : OwnB w B v l) (hl : l.length ≤ 65536) :
    Calls Tryd.prog 77 #[v, .agg #[.int .u8 p.kind, .bool p.yes, .bool p.neg, .string p.mag, .string p.raw, .slice a p.items.length cap]] w (RPost B l p w) := by
  have HT := Lib.hid (show 34 :: (escL 34 p.raw.toList ++ [34]) = textP p by rw [textP_eq, hk]; rfl)
  have hr := raw_le hm
  have q1 : ((p.kind : Int) == 1) = false := beq_eq_false_iff_ne.2 (by omega)
  have q2 : ((p.kind : Int) == 2) = false := beq_eq_false_iff_ne.2 (by omega)
  have q3 : ((p.kind : Int) == 3) = false := beq_eq_false_iff_ne.2 (by omega)
  have q4 : ((p.kind : Int) == 4) = false := beq_eq_false_iff_ne.2 (by omega)
  have q5 : ((p.kind : Int) == 5) = false := beq_eq_false_iff_ne.2 (by omega)
  have q6 : ((p.kind : Int) == 6) = true := beq_iff_eq.2 (by omega)
  obtain ⟨n, a1, cap1, rfl, hn⟩ := ownb_form hO
  have hn2 : n ≤ 65536 := by rw [hn.out]; exact hl
  have q0 := last_le hl hn.out
  have HM := Lib.hid hm
  have hB : Kp B w (w.alloc (.cells #[.int .u8 p.kind, .bool p.yes, .bool p.neg, .string p.mag, .string p.raw, .slice a p.items.length cap] 27)) := (Kp.refl B w).alloc hsz _
  have H7 := Lib.hid (show p.kind ≠ 7 by omega)
  clear hk hm
  go_enter Tryd.func77, Tryd.ntmps77
  go_wp2_with (at_builtin; refine wpList_len rfl (.tmp 8) 111 rfl slice111 rfl ?_)
  refine (rquoted_any p.raw 34 _ hr).mono ?_
  rintro e w3 ⟨v3, rfl, hO3, hb3⟩
  have hO4 := (hO.alloc _).below hb3
  have hB4 := hB.trans (Kp.of_below hb3 (by simp; omega))
  have hs4 : B ≤ w3.heap.size := Nat.le_trans (Nat.le_trans hsz hB.size) hb3.size
  have hl3 := escL_len 34 p.raw.toList
  rw [size_of] at hl3
  clear hb3 hB hO
  go_wp2_with (at_builtin; refine wpList_app_row rfl (.tmp 62) (.tmp 65) 111 rfl Tryd.underlying111 Tryd.info5 rfl hO4 rfl hO3 (by simp; omega) hB4 hs4 ?_; intro v5 w5 hO5 hB5 hs5)
  go_ret
  rw [HT.out] at hO5
  exact rpost_leaf HM.out H7.out hl hO5 hB5 hs5

end Go.Proofs.YtcgphlilijeifaaDoor.L
end
section
/-
  The document's text: tuples; any part; Print.
-/
namespace Go.Proofs.YtcgphlilijeifaaDoor.L
open Go.RowKit
open V (Pt)

theorem pi_at {w : World} {lo hi n cap : Nat} {l : List Pt} {a : Option Addr} (h : V.PI w lo hi l (.slice a n cap)) :
    ∀ j (h : j < l.length), ∃ b off u, a = some ⟨b, off, none⟩ ∧ lo ≤ b ∧ b < hi ∧ V.PartCells w b (off + j * 6) l[j] u ∧ V.Fit l[j] ∧ V.PI w lo hi l[j].items u := by
  obtain ⟨a', cap', he, _, hat⟩ := h.open
  injection he with h1 h2 h3
  subst h1
  exact hat

/-- What is known of a text behind the call. -/
def RC (l : List UInt8) (p : Pt) (M : List UInt8) : Prop := ((l ++ textP p).length ≤ 65536 → M = l ++ textP p) ∧ (65536 < (l ++ textP p).length → 65536 < M.length) ∧ M.length ≤ max l.length (400000 + 1100 * V.depthP p)
/-- What is known of a text behind k items. -/
def TInv (l : List UInt8) (p : Pt) (k : Nat) (M : List UInt8) : Prop := ((soFar l (p.items.take k)).length ≤ 65536 ∨ k = 0 → M = soFar l (p.items.take k)) ∧ (65536 < (soFar l (p.items.take k)).length → k = 0 ∨ 65536 < M.length) ∧ M.length ≤ 400010 + 1100 * V.depthL p.items + k
theorem TInv.start {l : List UInt8} {p : Pt} (hl : l.length ≤ 65536) : TInv l p 0 (l ++ [40]) := by
  refine ⟨fun _ => by rw [List.take_zero, soFar_nil], fun _ => .inl rfl, ?_⟩
  simp; omega
theorem TInv.first {l : List UInt8} {p q : Pt} {M M' : List UInt8} (h0 : 0 < p.items.length) (hq : p.items[0] = q) (h : TInv l p 0 M) (hr : RC M q M') : TInv l p 1 M' := by
  have e1 : M = soFar l [] := h.1 (.inr rfl)
  have e2 : p.items.take 1 = [q] := by rw [take_snoc h0, hq]; rfl
  have e3 : M ++ textP q = soFar l [q] := by rw [e1, soFar_one]
  have hd : V.depthP q ≤ V.depthL p.items := V.depthL_mem (hq ▸ List.getElem_mem _)
  obtain ⟨a, b, c⟩ := hr
  rw [e3] at a b
  unfold TInv
  rw [e2]
  refine ⟨fun h => ?_, fun h => .inr (b h), ?_⟩
  · rcases h with h | h
    · exact a h
    · cases h
  · have := h.2.2
    omega
theorem TInv.next {l : List UInt8} {p q : Pt} {k : Nat} {M M' : List UInt8} (hk0 : k ≠ 0) (hk : k < p.items.length) (hq : p.items[k] = q) (h : TInv l p k M) (hr : RC (M ++ [32]) q M') : TInv l p (k + 1) M' := by
  have hne : p.items.take k ≠ [] := fun e => by have := congrArg List.length e; rw [List.length_take, List.length_nil] at this; omega
  have e2 : p.items.take (k + 1) = p.items.take k ++ [q] := by rw [take_snoc hk, hq]
  have e3 := soFar_snoc l hne q
  have hd : V.depthP q ≤ V.depthL p.items := V.depthL_mem (hq ▸ List.getElem_mem _)
  have hle : (soFar l (p.items.take k)).length ≤ (soFar l (p.items.take k ++ [q])).length := by rw [← e3]; simp only [List.length_append]; omega
  obtain ⟨a, b, c⟩ := hr
  obtain ⟨h1, h2, h3⟩ := h
  unfold TInv
  rw [e2]
  refine ⟨fun h => ?_, fun h => .inr (b ?_), ?_⟩
  · rcases h with h | h
    · have e1 := h1 (.inl (by omega))
      rw [e1, e3] at a
      exact a h
    · cases h
  · by_cases hs : (soFar l (p.items.take k)).length ≤ 65536
    · rw [h1 (.inl hs), e3]; exact h
    · have := (h2 (by omega)).resolve_left hk0
      simp only [List.length_append]
      omega
  · rw [List.length_append, List.length_singleton] at c
    omega
theorem TInv.done {B : Nat} {l : List UInt8} {p : Pt} {M : List UInt8} {w w' : World} {v' : Value} (h7 : p.kind = 7) (hlen : p.items.length ≤ 1024) (h : TInv l p p.items.length M) (hO : OwnB w' B v' (M ++ [41])) (hB : Kp B w w') (hs : B ≤ w'.heap.size) : RPost B l p w (.returned v') w' := by
  obtain ⟨h1, h2, h3⟩ := h
  rw [List.take_length] at h1 h2
  have e := soFar_all l h7
  refine ⟨v', _, rfl, hO, hB, hs, fun h => ?_, fun h => ?_, ?_⟩
  · rw [← e] at h ⊢
    rw [List.length_append] at h
    rw [h1 (.inl (by omega))]
  · rw [← e] at h
    by_cases hz : (soFar l p.items).length ≤ 65536
    · rw [h1 (.inl hz)]; exact h
    · rcases h2 (by omega) with hn | hM
      · rw [h1 (.inr hn)]; exact h
      · rw [List.length_append]; omega
  · rw [List.length_append, List.length_singleton, V.depthP_eq, if_pos h7]
    omega
theorem slice25 : Tryd.prog.underlying 25 = some (.slice (Tryd.prog.elem 25)) := by kernel_rfl

set_option maxRecDepth 100000 in
set_option maxHeartbeats 1500000 in
theorem text_tuple (p : Pt) (h7 : p.kind = 7) (hm : V.mayB p = true) (hdp : V.depthP p ≤ 1000)
    (ih : ∀ q ∈ p.items, ∀ (B : Nat) (b v : Value) (l : List UInt8) (w : World), V.mayB q = true → V.depthP q ≤ 1000 → l.length ≤ 3000000 → V.PI w 0 B q.items v → B ≤ w.heap.size → OwnB w B b l →
      Calls Tryd.prog 77 #[b, .agg #[.int .u8 q.kind, .bool q.yes, .bool q.neg, .string q.mag, .string q.raw, v]] w (RPost B l q w))
    (B : Nat) (v : Value) (l : List UInt8) (w : World) (a : Option Addr) (cap : Nat) (hp : V.PI w 0 B p.items (.slice a p.items.length cap)) (hsz : B ≤ w.heap.size) (hO : OwnB w B v l) (hl : l.length ≤ 65536) :
    Calls Tryd.prog 77 #[v, .agg #[.int .u8 p.kind, .bool p.yes, .bool p.neg, .string p.mag, .string p.raw, .slice a p.items.length cap]] w (RPost B l p w) := by
  have hlen := V.may_len hm h7
  have hD : V.depthP p = V.depthL p.items + 1 := by rw [V.depthP_eq, if_pos h7]
  have hdl : V.depthL p.items ≤ 999 := by omega
  have HA := Lib.hid (pi_at hp)
  have IH := Lib.hid ih
  have q1 : ((p.kind : Int) == 1) = false := beq_eq_false_iff_ne.2 (by omega)
  have q2 : ((p.kind : Int) == 2) = false := beq_eq_false_iff_ne.2 (by omega)
  have q3 : ((p.kind : Int) == 3) = false := beq_eq_false_iff_ne.2 (by omega)
  have q4 : ((p.kind : Int) == 4) = false := beq_eq_false_iff_ne.2 (by omega)
  have q5 : ((p.kind : Int) == 5) = false := beq_eq_false_iff_ne.2 (by omega)
  have q6 : ((p.kind : Int) == 6) = false := beq_eq_false_iff_ne.2 (by omega)
  have q7 : ((p.kind : Int) == 7) = true := beq_iff_eq.2 (by omega)
  obtain ⟨n, a1, cap1, rfl, hn⟩ := ownb_form hO
  have hn2 : n ≤ 65536 := by rw [hn.out]; exact hl
  have q0 := last_le hl hn.out
  have HM := Lib.hid hm
  have HK := Lib.hid h7
  have hB : Kp B w (w.alloc (.cells #[.int .u8 p.kind, .bool p.yes, .bool p.neg, .string p.mag, .string p.raw, .slice a p.items.length cap] 27)) := (Kp.refl B w).alloc hsz _
  have hbx := Lib.hid (BoxAt.new w p (.slice a p.items.length cap))
  have hBr := Kp.refl B (w.alloc (.cells #[.int .u8 p.kind, .bool p.yes, .bool p.neg, .string p.mag, .string p.raw, .slice a p.items.length cap] 27))
  have HTI := Lib.hid (TInv.start (p := p) hl)
  clear hp ih hm h7 hD hdp
  go_enter Tryd.func77, Tryd.ntmps77
  go_wp2_with (at_builtin; first
    | refine wpList_len rfl (.tmp 8) 111 rfl slice111 rfl ?_
    | (refine wpList_app_bytes rfl (.tmp 69) (.tmp 70) 111 rfl Tryd.underlying111 Tryd.info5 rfl ((hO.alloc _).alloc _) _ [40] 1 _ rfl rfl (bv_cells_oneH _ 40 _ _ (by simp)) (by omega) (hBr.alloc (by simp; omega) _) (by simp; omega) ?_; intro v2 w2 hO2 hB2 hs2))
  have hBx2 := Lib.hid (hbx.out.kp hB2)
  replace hB2 := hB.trans hB2
  clear hbx hBr hB hO
  go_loopw [0, 7] (fun b i wr => ∃ (k : Nat) (M : List UInt8), k ≤ p.items.length ∧ i = .int .i64 k ∧ OwnB wr B b M ∧ Kp B w wr ∧ B ≤ wr.heap.size ∧ RowKit.Hid (TInv l p k M) ∧ RowKit.Hid (BoxAt wr w.heap.size p (.slice a p.items.length cap))) (fun _ i _ => p.items.length - (intOf i).toNat)
  case atStart => exact ⟨0, _, Nat.zero_le _, rfl, hO2, hB2, hs2, HTI, hBx2⟩
  case round =>
    clear hO2 hB2 hs2 hBx2 HTI
    obtain ⟨k, M, hkl, rfl, hO, hB, hsz, HTI, hbx⟩ := hrel
    obtain ⟨c0, c1, c2, c3, c4, c5⟩ := hbx.out.cell
    have hMl := HTI.out.2.2
    by_cases hlt : k < p.items.length
    · have e3 : decide (k < p.items.length) = true := by simpa using hlt
      obtain ⟨b, off, u, rfl, _, hb, hc, hfit, hpi⟩ := HA.out k hlt
      have hmem : p.items[k] ∈ p.items := List.getElem_mem _
      have hdq := V.depthL_mem hmem
      obtain ⟨q, hq⟩ : ∃ q, p.items[k] = q := ⟨_, rfl⟩
      rw [hq] at hc hfit hpi hmem hdq
      have hmq := Lib.hid (V.mayB_item HM.out hmem)
      have hcq := Lib.hid hc
      have hpi2 := Lib.hid hpi
      have HQ := Lib.hid hq
      obtain ⟨a2, cap2, rfl, _, _⟩ := hpi.open
      clear hc hpi hq
      by_cases hk0 : k = 0
      · have e4 : decide (0 < k) = false := by simp; omega
        have hsame : V.Same 0 B w wr := V.Same.of_below hB.below (Nat.le_refl _)
        obtain ⟨d0, d1, d2, d3, d4, d5⟩ := hcq.out.same hsame (Nat.zero_le _) hb
        have HK0 := Lib.hid hk0
        clear hk0
        go_wp2_with (at_builtin; refine wpList_len rfl (.tmp 74) 25 rfl slice25 rfl ?_)
        refine (IH.out q hmem B _ _ M wr hmq.out (by omega) (by omega) (hpi2.out.same hsame) hsz hO).mono ?_
        rintro e w3 ⟨v3, M3, rfl, hO3, hB3, hs3, h3⟩
        have HT3 := Lib.hid (show TInv l p (k + 1) M3 by have := HK0.out; subst this; exact TInv.first hlt HQ.out HTI.out h3)
        have hbx3 := Lib.hid (hbx.out.kp hB3)
        have hB4 := hB.trans hB3
        clear c0 c1 c2 c3 c4 c5 d0 d1 d2 d3 d4 d5 hB hB3 hO h3 hbx hsame
        go_wp2_with fail
        refine ⟨⟨k + 1, M3, by omega, rfl, hO3, hB4, hs3, HT3, hbx3⟩, by simp [intOf]; omega⟩
      · have e4 : decide (0 < k) = true := by simp; omega
        have HK0 := Lib.hid hk0
        clear hk0
        go_wp2_with (at_builtin; first
          | refine wpList_len rfl (.tmp 74) 25 rfl slice25 rfl ?_
          | (refine wpList_app_bytes rfl (.tmp 81) (.tmp 82) 111 rfl Tryd.underlying111 Tryd.info5 rfl (hO.alloc _) _ [32] 1 _ rfl rfl (bv_cells_one _ 32 _) (by omega) ((Kp.refl B wr).alloc hsz _) (by simp; omega) ?_; intro v2 w2 hO2 hB2 hs2; have hbx2 := Lib.hid (hbx.out.kp hB2); have hBa := hB.trans hB2; have hsame := Lib.hid (V.Same.of_below (lo := 0) hBa.below (Nat.le_refl B)); obtain ⟨x0, x1, x2, x3, x4, x5⟩ := hbx2.out.cell; obtain ⟨d0, d1, d2, d3, d4, d5⟩ := hcq.out.same hsame.out (Nat.zero_le _) hb))
        refine (IH.out q hmem B _ _ (M ++ [32]) w2 hmq.out (by omega) (by simp; omega) (hpi2.out.same hsame.out) hs2 hO2).mono ?_
        rintro e w3 ⟨v3, M3, rfl, hO3, hB3, hs3, h3⟩
        have HT3 := Lib.hid (TInv.next HK0.out hlt HQ.out HTI.out h3)
        have hbx3 := Lib.hid (hbx2.out.kp hB3)
        have hB4 := hBa.trans hB3
        clear c0 c1 c2 c3 c4 c5 d0 d1 d2 d3 d4 d5 hB hB2 hB3 hO hO2 h3 hbx hbx2 hsame hBa x0 x1 x2 x3 x4 x5
        go_wp2_with fail
        refine ⟨⟨k + 1, M3, by omega, rfl, hO3, hB4, hs3, HT3, hbx3⟩, by simp [intOf]; omega⟩
    · have e3 : decide (k < p.items.length) = false := by simpa using hlt
      have hke : p.items.length = k := by omega
      have HT2 : Hid (TInv l p p.items.length M) := by rw [hke]; exact HTI
      clear hke
      go_wp2_with (at_builtin; first
        | refine wpList_len rfl (.tmp 74) 25 rfl slice25 rfl ?_
        | (refine wpList_app_bytes rfl (.tmp 91) (.tmp 92) 111 rfl Tryd.underlying111 Tryd.info5 rfl (hO.alloc _) _ [41] 1 _ rfl rfl (bv_cells_one _ 41 _) (by omega) (hB.alloc hsz _) (by simp; omega) ?_; intro v2 w2 hO2 hB2 hs2))
      go_ret
      exact HT2.out.done HK.out hlen hO2 hB2 hs2

theorem text_any (p : Pt) : ∀ (B : Nat) (b v : Value) (l : List UInt8) (w : World), V.mayB p = true → V.depthP p ≤ 1000 → l.length ≤ 3000000 → V.PI w 0 B p.items v → B ≤ w.heap.size → OwnB w B b l →
      Calls Tryd.prog 77 #[b, .agg #[.int .u8 p.kind, .bool p.yes, .bool p.neg, .string p.mag, .string p.raw, v]] w (RPost B l p w) := by
  induction p using Pt.ind with
  | h p ih =>
  intro B b v l w hm hdp hl0 hp hsz hO
  obtain ⟨a, cap, rfl, _, _⟩ := hp.open
  by_cases hl : l.length ≤ 65536
  · obtain ⟨h0, h1, h2, h3, h4, h5, h6, h8⟩ := canonP hm
    rcases (show p.kind = 0 ∨ p.kind = 1 ∨ p.kind = 2 ∨ p.kind = 3 ∨ p.kind = 4 ∨ p.kind = 5 ∨ p.kind = 6 ∨ p.kind = 7 by omega) with k | k | k | k | k | k | k | k
    · exact text_null p hm k B b l w a cap hsz hO hl
    · cases hy : p.yes with
      | true => have := text_true p hm k hy B b l w a cap hsz hO hl; rwa [hy] at this
      | false => have := text_false p hm k hy B b l w a cap hsz hO hl; rwa [hy] at this
    · exact text_num p hm k (h5 k) B b l w a cap hsz hO hl
    · exact text_3 p hm k B b l w a cap hsz hO hl
    · exact text_4 p hm k B b l w a cap hsz hO hl
    · exact text_5 p hm k B b l w a cap hsz hO hl
    · exact text_6 p hm k B b l w a cap hsz hO hl
    · exact text_tuple p k hm hdp ih B b l w a cap hp hsz hO hl
  · exact text_long p B b l w a cap hsz hO (by omega)

set_option maxRecDepth 100000 in
set_option maxHeartbeats 1500000 in
theorem rprint10_any (p : Pt) (a : Option Addr) (cap : Nat) (w : World) (hm : V.mayB p = true) (hdp : V.depthP p ≤ 1000) (hp : V.PI w 0 w.heap.size p.items (.slice a p.items.length cap)) :
    Calls Tryd.prog 36 #[.agg #[.int .u8 p.kind, .bool p.yes, .bool p.neg, .string p.mag, .string p.raw, .slice a p.items.length cap]] w (LPost p w) := by
  have hB0 : Below w.heap.size w (w.alloc (.cells #[.int .u8 p.kind, .bool p.yes, .bool p.neg, .string p.mag, .string p.raw, .slice a p.items.length cap] 27)) := (Below.refl _ w).alloc (Nat.le_refl _) _
  have HP := Lib.hid (hp.same (V.Same.of_below hB0 (Nat.le_refl _)))
  have HM := Lib.hid hm
  clear hp hm
  go_enter Tryd.func36, Tryd.ntmps36
  go_wp2_with fail
  refine (text_any p w.heap.size (.slice none 0 0) _ [] _ HM.out hdp (by simp) HP.out (by simp) (OwnB.nil _ _)).mono ?_
  rintro e w1 ⟨v1, M, rfl, hO, hB, hs, h1, h2, h3⟩
  rw [List.nil_append] at h1 h2
  have hbt := hB0.trans hB.below
  obtain ⟨n, a1, cap1, rfl, hn⟩ := ownb_form hO
  by_cases hl : M.length ≤ 65536
  · have q0 := last_le hl hn.out
    have hcv := hO.conv (P := Tryd.prog) 111 9 Tryd.underlying111 (by kernel_rfl) (by kernel_rfl)
    have hfit : (textP p).length ≤ 65536 := by omega
    have HMe := Lib.hid (h1 hfit)
    have HF := Lib.hid hfit
    clear h1 h2 h3 hfit hO hB
    go_wp2_with (at_builtin; refine wpList_len rfl (.tmp 7) 111 rfl slice111 rfl ?_)
    go_ret2
    exact ⟨hbt, .inl ⟨HF.out, _, rfl, Lib.hid (by rw [Lib.toList_data, HMe.out])⟩⟩
  · have q0 := last_gt hl hn.out
    have HF := Lib.hid (show 65536 < (textP p).length by
      by_cases h : (textP p).length ≤ 65536
      · rw [h1 h] at hl; omega
      · omega)
    clear h1 h2 h3
    go_wp2_with (at_builtin; refine wpList_len rfl (.tmp 7) 111 rfl slice111 rfl ?_)
    go_ret2
    exact ⟨hbt, .inr ⟨HF.out, rfl⟩⟩
end Go.Proofs.YtcgphlilijeifaaDoor.L
end
section
/-
  The reader of a text: next, row.
-/
namespace Go.Proofs.YtcgphlilijeifaaDoor.L
open Go.RowKit
open V (Pt)

/-- Nothing that was there has turned but one block. -/
structure Gv (b : Nat) (w w' : World) : Prop where
  os : w'.os = w.os
  tape : w'.tape = w.tape
  output : w'.output = w.output
  size : w.heap.size ≤ w'.heap.size
  block : ∀ k, k < w.heap.size → k ≠ b → w'.heap[k]? = w.heap[k]?
theorem Gv.refl (b : Nat) (w : World) : Gv b w w := ⟨rfl, rfl, rfl, Nat.le_refl _, fun _ _ _ => rfl⟩
theorem Gv.drew {b : Nat} {w w' : World} (h : Gv b w w') : Gv b w w'.drew := ⟨h.os, h.tape, h.output, h.size, h.block⟩
theorem Gv.drewN {b : Nat} {w w' : World} (h : Gv b w w') (n : Nat) : Gv b w (w'.drewN n) := ⟨h.os, h.tape, h.output, h.size, h.block⟩
theorem Gv.trans {b : Nat} {w w' w'' : World} (h : Gv b w w') (k : Gv b w' w'') : Gv b w w'' :=
  ⟨k.os.trans h.os, k.tape.trans h.tape, k.output.trans h.output, Nat.le_trans h.size k.size, fun q hq hb => (k.block q (Nat.lt_of_lt_of_le hq h.size) hb).trans (h.block q hq hb)⟩
theorem Gv.of_below {b : Nat} {w w' : World} (h : Below w.heap.size w w') : Gv b w w' := ⟨h.os, h.tape, h.output, h.size, fun k hk _ => h.block k hk⟩
theorem Gv.alloc {b : Nat} {w w' : World} (h : Gv b w w') (o : Obj) : Gv b w (w'.alloc o) := h.trans (Gv.of_below ((Below.refl _ _).alloc (Nat.le_refl _) o))
theorem Gv.set_ {b : Nat} {w w' : World} (h : Gv b w w') (i : Nat) (v : Value) : Gv b w (w'.setCell ⟨b, i, none⟩ v) :=
  ⟨h.os, h.tape, h.output, by simpa [World.setCell] using h.size, fun q hq hb => by rw [Below.heap_setCell _ _ _ _ hb]; exact h.block q hq hb⟩
/-- A cell of a new block. -/
theorem Gv.setNew {b T : Nat} {w w' : World} (h : Gv b w w') (hT : w.heap.size ≤ T) (i : Nat) (v : Value) : Gv b w (w'.setCell ⟨T, i, none⟩ v) :=
  ⟨h.os, h.tape, h.output, by simpa [World.setCell] using h.size, fun q hq hb => by rw [Below.heap_setCell _ _ _ _ (show q ≠ T by omega)]; exact h.block q hq hb⟩
theorem Gv.below {b B : Nat} {w w' : World} (h : Gv b w w') (hB : B ≤ b) (hs : B ≤ w.heap.size) : Below B w w' := ⟨h.os, h.tape, h.output, h.size, fun k hk => h.block k (by omega) (by omega)⟩
theorem Gv.blk {b g : Nat} {w w' : World} {t : TypeId} {cs : Array Value} (h : Gv b w w') (hg : g ≠ b) (k : Blk w g t cs) : Blk w' g t cs := (h.block g k.lt hg).trans k
theorem Gv.same {b lo hi : Nat} {w w' : World} (h : Gv b w w') (hb : b < lo) (hi2 : hi ≤ w.heap.size) : V.Same lo hi w w' := fun k h1 h2 => h.block k (by omega) (by omega)
theorem OwnB.gv {w w' : World} {base b : Nat} {v : Value} {l : List UInt8} (h : OwnB w base v l) (hb : b < base) (hm : Gv b w w') : OwnB w' base v l := by
  refine ⟨h.1, ?_⟩
  rcases h.2 with hn | ⟨g, cap, cur, rfl, hg, hgg, rest⟩
  · exact .inl hn
  · exact .inr ⟨g, cap, cur, rfl, hg, (hm.block g (Array.getElem?_eq_some_iff.1 hgg).1 (by omega)).trans hgg, rest⟩

theorem below_drewN (B : Nat) (w : World) (n : Nat) : Below B w (w.drewN n) := ⟨rfl, rfl, rfl, Nat.le_refl _, fun _ _ => rfl⟩
/-- The reader: its text and place. -/
def Lr (w : World) (b : Nat) (s : ByteArray) (a : Nat) : Prop := Blk w b 137 #[.string s, .int .i64 a]
theorem Lr.step {w : World} {b : Nat} {s : ByteArray} {a : Nat} (h : Lr w b s a) (a' : Nat) (x : Int) (hx : x = (a' : Int)) : Lr (w.setCell ⟨b, 1, none⟩ (.int .i64 x)) b s a' := by
  subst hx
  exact Blk.set_ h 1 _
theorem Lr.drewN {w : World} {b : Nat} {s : ByteArray} {a : Nat} (h : Lr w b s a) (n : Nat) : Lr (w.drewN n) b s a := h
theorem Lr.alloc {w : World} {b : Nat} {s : ByteArray} {a : Nat} (h : Lr w b s a) (o : Obj) : Lr (w.alloc o) b s a := (Below.heap_alloc w o b (Blk.lt h)).trans h
theorem Lr.later {w w' : World} {b : Nat} {s : ByteArray} {a : Nat} (h : Lr w b s a) (hb : Below w.heap.size w w') : Lr w' b s a := Blk.below h hb (Blk.lt h)

/-- The byte that comes. -/
def nx (s : ByteArray) (a : Nat) : Nat := if h : a < s.size then s[a].toNat else 0
theorem nx_lt {s : ByteArray} {a : Nat} (h : a < s.size) : nx s a = s[a].toNat := by unfold nx; rw [dif_pos h]
theorem nx_ge {s : ByteArray} {a : Nat} (h : ¬ a < s.size) : nx s a = 0 := by unfold nx; rw [dif_neg h]
theorem nx_byte (s : ByteArray) (a : Nat) : nx s a < 256 := by
  unfold nx
  split
  · exact UInt8.toNat_lt _
  · decide

theorem next_any (b : Nat) (s : ByteArray) (a : Nat) (w : World) (hr : Lr w b s a) (ha : a ≤ s.size) (hs : s.size ≤ 65536) :
    Calls Tryd.prog 107 #[.pointer (some ⟨b, 0, none⟩)] w fun e w' => e = .returned (.int .u8 (nx s a : Int)) ∧ Below w.heap.size w w' := by
  have c0 : w.cell? ⟨b, 0, none⟩ = some (.string s) := hr.cell 0
  have c1 : w.cell? ⟨b, 1, none⟩ = some (.int .i64 (a : Int)) := hr.cell 1
  by_cases h : a < s.size
  · have hlt : ((a : Int) == (s.size : Int)) = false := beq_eq_false_iff_ne.2 (by omega)
    have hlt2 : (a == s.size) = false := beq_eq_false_iff_ne.2 (by omega)
    have HN := Lib.hid (nx_lt h)
    clear hr
    go_enter Tryd.func107, Tryd.ntmps107
    go_wp2_with (go_quiet (fail))
    go_ret
    exact ⟨by rw [HN.out]; rfl, by first | exact below_drewN _ _ _ | exact (below_drewN _ _ _).trans (below_drewN _ _ _)⟩
  · have hlt : ((a : Int) == (s.size : Int)) = true := beq_iff_eq.2 (by omega)
    have hlt2 : (a == s.size) = true := beq_iff_eq.2 (by omega)
    have HN := Lib.hid (nx_ge h)
    clear hr h
    go_enter Tryd.func107, Tryd.ntmps107
    go_wp2_with (go_quiet (fail))
    go_ret
    exact ⟨by rw [HN.out]; rfl, by first | exact below_drewN _ _ _ | exact (below_drewN _ _ _).trans (below_drewN _ _ _)⟩

theorem indexByte_c (L : ByteArray) (c : UInt8) (w : World) (x : Int) (hx : Lib.indexByte L.toList c = x) : Calls Tryd.prog 125 #[.string L, .int .u8 (c.toNat : Int)] w fun e w' => e = .returned (.int .i64 x) ∧ w' = w := by
  refine (Tryd.strings_IndexByte L (c.toNat : Int) w).mono ?_
  rintro e w' ⟨rfl, rfl⟩
  refine ⟨?_, rfl⟩
  rw [← hx, Lib.toList_data]
  simp
/-- Where the reader is. -/
def posOf (w : World) (b : Nat) : Nat := match w.cell? ⟨b, 1, none⟩ with | some (.int _ i) => i.toNat | _ => 0
theorem posOf_lr {w : World} {b : Nat} {s : ByteArray} {a : Nat} (h : Lr w b s a) : posOf w b = a := by
  have : w.cell? ⟨b, 1, none⟩ = some (.int .i64 (a : Int)) := h.cell 1
  unfold posOf
  rw [this]
  simp
theorem drop_cons (s : ByteArray) {a : Nat} (h : a < s.size) : s.toList.drop a = s[a] :: s.toList.drop (a + 1) := by
  rw [List.drop_eq_getElem_cons (by rw [size_of]; exact h)]
  congr 1
  simp only [Lib.toList_data]; rfl
theorem drop_end (s : ByteArray) {a : Nat} (h : ¬ a < s.size) : s.toList.drop a = [] := List.drop_eq_nil_of_le (by rw [size_of]; omega)
theorem takeWhile_len_le (s : ByteArray) (f : UInt8 → Bool) (a : Nat) (ha : a ≤ s.size) : a + ((s.toList.drop a).takeWhile f).length ≤ s.size := by
  have h : ((s.toList.drop a).takeWhile f).length ≤ (s.toList.drop a).length := (List.takeWhile_sublist f).length_le
  rw [List.length_drop, size_of] at h
  omega

theorem tw_list (f : UInt8 → Bool) : ∀ (l : List UInt8), (∀ j (h : j < (l.takeWhile f).length) (h2 : j < l.length), f l[j] = true) ∧ (∀ (h : (l.takeWhile f).length < l.length), f (l[(l.takeWhile f).length]) = false)
  | [] => ⟨fun j h => (by cases h), fun h => (by cases h)⟩
  | c :: l => by
    obtain ⟨h1, h2⟩ := tw_list f l
    cases hc : f c with
    | true =>
      simp only [List.takeWhile_cons, hc, if_true, List.length_cons]
      refine ⟨fun j h h3 => ?_, fun h => ?_⟩
      · cases j with
        | zero => exact hc
        | succ j => exact h1 j (by omega) (by simp at h3; omega)
      · simpa using h2 (by omega)
    | false =>
      simp only [List.takeWhile_cons, hc]
      exact ⟨fun j h => by simp at h, fun h => by simpa using hc⟩
theorem tw_in (s : ByteArray) (f : UInt8 → Bool) (a j : Nat) (ha : a ≤ s.size) (h : j < ((s.toList.drop a).takeWhile f).length) : ∃ h2 : a + j < s.size, f s[a + j] = true := by
  have hle := takeWhile_len_le s f a ha
  have h2 : a + j < s.size := by omega
  refine ⟨h2, ?_⟩
  have := (tw_list f (s.toList.drop a)).1 j h (by rw [List.length_drop, size_of]; omega)
  rw [List.getElem_drop] at this
  rw [← this]
  congr 1
  simp only [Lib.toList_data]; rfl
theorem tw_out (s : ByteArray) (f : UInt8 → Bool) (a n : Nat) (hn : ((s.toList.drop a).takeWhile f).length = n) (h : a + n < s.size) : f s[a + n] = false := by
  subst hn
  have := (tw_list f (s.toList.drop a)).2 (by rw [List.length_drop, size_of]; omega)
  rw [List.getElem_drop] at this
  rw [← this]
  congr 1
  simp only [Lib.toList_data]; rfl
theorem tw_take (l : List UInt8) (f : UInt8 → Bool) : l.take (l.takeWhile f).length = l.takeWhile f := by
  conv => lhs; rw [← List.takeWhile_append_dropWhile (p := f) (l := l)]
  rw [List.takeWhile_append_dropWhile]
  exact List.prefix_iff_eq_take.1 (List.takeWhile_prefix f) |>.symm

set_option maxRecDepth 100000 in
set_option maxHeartbeats 1500000 in
theorem row_any (b : Nat) (s L : ByteArray) (f : UInt8 → Bool) (hf : ∀ c, decide ((0 : Int) ≤ Lib.indexByte L.toList c) = f c) (a : Nat) (w : World) (hr : Lr w b s a) (ha : a ≤ s.size) (hs : s.size ≤ 65536) :
    Calls Tryd.prog 108 #[.pointer (some ⟨b, 0, none⟩), .string L] w fun e w' => ∃ p : ByteArray, e = .returned (.string p) ∧ Hid (p.toList = (s.toList.drop a).takeWhile f) ∧ Lr w' b s (a + ((s.toList.drop a).takeWhile f).length) ∧ Gv b w w' := by
  have c1 : w.cell? ⟨b, 1, none⟩ = some (.int .i64 (a : Int)) := hr.cell 1
  have HF := Lib.hid hf
  have hg := Gv.refl b w
  obtain ⟨n, hn⟩ : ∃ n, ((s.toList.drop a).takeWhile f).length = n := ⟨_, rfl⟩
  have hle := takeWhile_len_le s f a ha
  rw [hn] at hle ⊢
  have HN := Lib.hid hn
  clear hf hn
  go_enter Tryd.func108, Tryd.ntmps108
  go_wp2_with fail
  go_loopw [] (fun wr => ∃ j : Nat, j ≤ n ∧ Lr wr b s (a + j) ∧ Gv b w wr) (fun wr => s.size - posOf wr b)
  case atStart => exact ⟨0, Nat.zero_le _, hr, hg⟩
  case round =>
    clear hr c1 hg
    obtain ⟨j, hj, hr, hg⟩ := hrel
    obtain ⟨p, hp⟩ : ∃ p, a + j = p := ⟨_, rfl⟩
    rw [hp] at hr
    have c0 : wr.cell? ⟨b, 0, none⟩ = some (.string s) := hr.cell 0
    have c1 : wr.cell? ⟨b, 1, none⟩ = some (.int .i64 (p : Int)) := hr.cell 1
    have z1 : wr.frozen? ⟨b, 1, none⟩ = false := hr.frozen 1
    by_cases hlt : p < s.size
    · have q3 : decide (p < s.size) = true := by simpa using hlt
      obtain ⟨x, hx⟩ : ∃ x, Lib.indexByte L.toList s[p] = x := ⟨_, rfl⟩
      have HX := Lib.hid hx
      by_cases hjn : j < n
      · obtain ⟨_, hfc⟩ := tw_in s f a j ha (by rw [HN.out]; exact hjn)
        have q4 : decide ((0 : Int) ≤ x) = true := by subst hp; rw [← hx, HF.out]; exact hfc
        have HP := Lib.hid hp
        clear hx hfc hp
        go_wp2_with (go_quiet (exact Calls.quiet_of_same (indexByte_c _ _ _ _ HX.out)))
        have hr2 := Lr.step (hr.drewN nq) (p + 1) ((p : Int) + 1) (by omega)
        refine ⟨⟨j + 1, by omega, by rw [show a + (j + 1) = p + 1 by have := HP.out; omega]; exact hr2, (hg.drewN nq).set_ 1 _⟩, ?_⟩
        rw [posOf_lr hr2, posOf_lr hr]
        omega
      · have hje : j = n := by omega
        subst hje
        have hfc := tw_out s f a j HN.out (by omega)
        have q4 : decide ((0 : Int) ≤ x) = false := by subst hp; rw [← hx, HF.out]; exact hfc
        have HP := Lib.hid hp
        have p1 : a ≤ p := by omega
        have p2 : p ≤ s.size := by omega
        have HX2 := Lib.hid (show (s.extract a p).toList = (s.toList.drop a).takeWhile f by rw [Lib.extract_toList, ← Lib.toList_data, show p - a = ((s.toList.drop a).takeWhile f).length by rw [HN.out]; omega, tw_take])
        clear hx hfc hp
        go_wp2_with (first | (go_quiet (exact Calls.quiet_of_same (indexByte_c _ _ _ _ HX.out))) | (go_quiet (fail)))
        go_ret
        exact ⟨_, rfl, Lib.hid (by rw [HX2.out]), by rw [HP.out]; exact (hr.drewN _).drewN _, (hg.drewN _).drewN _⟩
    · have q3 : decide (p < s.size) = false := by simpa using hlt
      have hje : j = n := by omega
      subst hje
      have HP := Lib.hid hp
      have p1 : a ≤ p := by omega
      have p2 : p ≤ s.size := by omega
      have HX2 := Lib.hid (show (s.extract a p).toList = (s.toList.drop a).takeWhile f by rw [Lib.extract_toList, ← Lib.toList_data, show p - a = ((s.toList.drop a).takeWhile f).length by rw [HN.out]; omega, tw_take])
      clear hlt hp
      go_wp2_with (go_quiet (fail))
      go_ret
      exact ⟨_, rfl, Lib.hid (by rw [HX2.out]), by rw [HP.out]; exact (hr.drewN _).drewN _, (hg.drewN _).drewN _⟩
end Go.Proofs.YtcgphlilijeifaaDoor.L
end
