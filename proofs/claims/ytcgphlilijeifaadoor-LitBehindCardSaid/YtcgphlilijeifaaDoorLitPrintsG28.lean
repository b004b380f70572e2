import Derived.Defers
import Derived.Recover
import Derived.Test.YtcgphlilijeifaaDoorLitPrintsG26
section
/-
  The contracts of Take's deferred closure: behind a panic at a place, and idle.
-/
namespace Go.Proofs.YtcgphlilijeifaaDoor
open Go.RowKit

/-- Out at the body's end. -/
def Ends (R : World → Prop) (e : Exit) (a : Act) (w : World) : Prop := e = .normal ∧ a.defers = [] ∧ R w

theorem catch_idle (p q r : Addr) (w : World) :
    CallsD Tryd.prog 58 #[.pointer (some p), .pointer (some q), .pointer (some r)] .returning w fun e u' w' => e = .returned (.tuple #[]) ∧ u' = .returning ∧ w' = w := by
  refine callsD_of_wpS Tryd.func58 rfl fun c₀ cs hu => ?_
  apply wpS_seq
  apply wpS_region
  simp [wpOpsS, go_sem, recoverD, hu, Tryd.ntmps58, Exit.thenS]
  rw [show Array.replicate 17 undef = #[undef, undef, undef, undef, undef, undef, undef, undef, undef, undef, undef, undef, undef, undef, undef, undef, undef] from rfl]
  simp
  refine wpS_of_wp (Code.wp_mono (fun e a' w' (h : Ends (fun w' => w' = w) e a' w') => ?_) ?_)
  · obtain ⟨rfl, hd, rfl⟩ := h
    simp [bodyPostS, results, Tryd.results58, hd]
    cases c₀
    simp_all
  have hneq : ∀ w : World, (binOp BinOp.neq 20 .nilIface .nilIface).run Tryd.prog w = .ok (.bool false) w := fun _ => by kernel_rfl
  go_wp2_with fail
  exact ⟨rfl, rfl, rfl⟩

set_option maxRecDepth 100000 in
theorem catch_bad (g : Nat) (x : Int) (y : Bool) (t : ByteArray) (z u : Int) (w : World) (c0 : w.cell? ⟨g, 0, none⟩ = some (.bool y)) (c1 : w.cell? ⟨g, 1, none⟩ = some (.string t))
    (c2 : w.cell? ⟨g + 1, 0, none⟩ = some (.int .i64 z)) (c3 : w.cell? ⟨g + 2, 0, none⟩ = some (.int .i64 u))
    (z0 : w.frozen? ⟨g, 0, none⟩ = false) (z1 : w.frozen? ⟨g, 1, none⟩ = false) (z2 : w.frozen? ⟨g + 1, 0, none⟩ = false) (z3 : w.frozen? ⟨g + 2, 0, none⟩ = false) :
    CallsD Tryd.prog 58 #[.pointer (some ⟨g, 0, none⟩), .pointer (some ⟨g + 1, 0, none⟩), .pointer (some ⟨g + 2, 0, none⟩)] (.panicking [{ v := .iface 116 (.agg #[.int .i64 x]), recovered := false }]) w fun e u' w' =>
      e = .returned (.tuple #[]) ∧ u' = .panicking [{ v := .iface 116 (.agg #[.int .i64 x]), recovered := true }] ∧
        w'.cell? ⟨g, 0, none⟩ = some (.bool false) ∧ w'.cell? ⟨g, 1, none⟩ = some (.string ⟨#[]⟩) ∧ w'.cell? ⟨g + 1, 0, none⟩ = some (.int .i64 x) ∧ w'.cell? ⟨g + 2, 0, none⟩ = some (.int .i64 20) ∧ Below g w w' := by
  have k2 : g + 2 < w.heap.size := World.block_lt_of_cell? w _ c3
  have k1 : g + 1 < w.heap.size := by omega
  have k0 : g < w.heap.size := by omega
  refine callsD_of_wpS Tryd.func58 rfl fun c₀ cs hu => ?_
  apply wpS_seq
  apply wpS_region
  simp [wpOpsS, go_sem, recoverD, hu, Tryd.ntmps58, Exit.thenS]
  rw [show Array.replicate 17 undef = #[undef, undef, undef, undef, undef, undef, undef, undef, undef, undef, undef, undef, undef, undef, undef, undef, undef] from rfl]
  simp
  refine wpS_of_wp (Code.wp_mono (fun e a' w' (h : Ends (fun w' => w'.cell? ⟨g, 0, none⟩ = some (.bool false) ∧ w'.cell? ⟨g, 1, none⟩ = some (.string ⟨#[]⟩) ∧ w'.cell? ⟨g + 1, 0, none⟩ = some (.int .i64 x) ∧ w'.cell? ⟨g + 2, 0, none⟩ = some (.int .i64 20) ∧ Below g w w') e a' w') => ?_) ?_)
  · obtain ⟨rfl, hd, h⟩ := h
    simp [bodyPostS, results, Tryd.results58, hd, h]
  have hneq : ∀ w : World, (binOp BinOp.neq 20 (.iface 116 (.agg #[.int .i64 x])) .nilIface).run Tryd.prog w = .ok (.bool true) w := fun _ => by kernel_rfl
  have hta : ∀ (v : Value) (w : World), (Instr.typeAssert (.iface 116 v) 20 116 true).run Tryd.prog w = .ok (.tuple #[v, .bool true]) w := fun _ _ => by kernel_rfl
  have hnot : ∀ (x : Bool) (w : World), (Op.unary .not (.bool x)).run Tryd.prog w = .ok (.bool (!x)) w := fun _ _ => rfl
  go_wp2_with fail
  go_region
  have hb : Below g w ((((w.setCell ⟨g, 0, none⟩ (.bool false)).setCell ⟨g, 1, none⟩ (.string ⟨#[]⟩)).setCell ⟨g + 1, 0, none⟩ (.int .i64 x)).setCell ⟨g + 2, 0, none⟩ (.int .i64 20)) :=
    ((((Below.refl g w).setCell (Nat.le_refl g) _).setCell (Nat.le_refl g) _).setCell (Nat.le_succ g) _).setCell (by simp) _
  exact ⟨rfl, rfl, by simp [go_sem, c0, k0], by simp [go_sem, c1, k0], by simp [go_sem, c2, k1], by simp [go_sem, c3, k2], (hb.alloc (by simp [World.setCell]; omega) _).drew⟩
end Go.Proofs.YtcgphlilijeifaaDoor
end
section
/-
  The contract of nat.Take: any place of any bytes.
-/
namespace Go.Proofs.YtcgphlilijeifaaDoor
open Go.RowKit

/-- What Take tells of a place within the text. -/
def TakePost (s : ByteArray) (a : Nat) (w : World) (e : Ending) (w' : World) : Prop :=
  match takeE s.toList a with
  | .error p => e = .returned (.tuple #[.agg #[.bool false, .string ⟨#[]⟩], .int .i64 p, .int .i64 20]) ∧ Below w.heap.size w w'
  | .ok (below, m, f) => ∃ q : ByteArray, e = .returned (.tuple #[.agg #[.bool below, .string q], .int .i64 f, .int .i64 0]) ∧ Hid (q.toList = m) ∧ Below w.heap.size w w'
theorem take_post_bad {s : ByteArray} {a : Nat} {w w' : World} {p : Nat} {x : Int} (h : takeE s.toList a = .error p) (hx : x = p) (hb : Below w.heap.size w w') :
    TakePost s a w (.returned (.tuple #[.agg #[.bool false, .string ⟨#[]⟩], .int .i64 x, .int .i64 20])) w' := by
  unfold TakePost
  rw [h, hx]
  exact ⟨rfl, hb⟩

/-- The results' places, as they were made. -/
structure Res (g : Nat) (w : World) : Prop where
  c0 : w.cell? ⟨g, 0, none⟩ = some (.bool false)
  c1 : w.cell? ⟨g, 1, none⟩ = some (.string ⟨#[]⟩)
  c2 : w.cell? ⟨g + 1, 0, none⟩ = some (.int .i64 0)
  c3 : w.cell? ⟨g + 2, 0, none⟩ = some (.int .i64 0)
  z0 : w.frozen? ⟨g, 0, none⟩ = false
  z1 : w.frozen? ⟨g, 1, none⟩ = false
  z2 : w.frozen? ⟨g + 1, 0, none⟩ = false
  z3 : w.frozen? ⟨g + 2, 0, none⟩ = false
theorem Res.below {g : Nat} {w w' : World} (h : Res g w) (hb : Below (g + 3) w w') : Res g w' where
  c0 := (hb.cell (p := ⟨g, 0, none⟩) (by simp)).trans h.c0
  c1 := (hb.cell (p := ⟨g, 1, none⟩) (by simp)).trans h.c1
  c2 := (hb.cell (p := ⟨g + 1, 0, none⟩) (by simp)).trans h.c2
  c3 := (hb.cell (p := ⟨g + 2, 0, none⟩) (by simp)).trans h.c3
  z0 := (hb.frozen (p := ⟨g, 0, none⟩) (by simp)).trans h.z0
  z1 := (hb.frozen (p := ⟨g, 1, none⟩) (by simp)).trans h.z1
  z2 := (hb.frozen (p := ⟨g + 1, 0, none⟩) (by simp)).trans h.z2
  z3 := (hb.frozen (p := ⟨g + 2, 0, none⟩) (by simp)).trans h.z3
theorem catch_res (g : Nat) (x : Int) (w : World) (h : Res g w) :
    CallsD Tryd.prog 58 #[.pointer (some ⟨g, 0, none⟩), .pointer (some ⟨g + 1, 0, none⟩), .pointer (some ⟨g + 2, 0, none⟩)] (.panicking [{ v := .iface 116 (.agg #[.int .i64 x]), recovered := false }]) w fun e u' w' =>
      e = .returned (.tuple #[]) ∧ u' = .panicking [{ v := .iface 116 (.agg #[.int .i64 x]), recovered := true }] ∧
        w'.cell? ⟨g, 0, none⟩ = some (.bool false) ∧ w'.cell? ⟨g, 1, none⟩ = some (.string ⟨#[]⟩) ∧ w'.cell? ⟨g + 1, 0, none⟩ = some (.int .i64 x) ∧ w'.cell? ⟨g + 2, 0, none⟩ = some (.int .i64 20) ∧ Below g w w' :=
  catch_bad g x false ⟨#[]⟩ 0 0 w h.c0 h.c1 h.c2 h.c3 h.z0 h.z1 h.z2 h.z3

theorem wpList_append_bytes3 {P : Program} {ops : Array Oper} {rest : List Oper} {o : Oper} {a : Act} {Q : Exit → Act → World → Prop} {w : World} (hgd : o.guard = none) (s x : Operand) (t : TypeId)
    (ho : o.op = .call { callee := .builtin .append, args := #[s, x], argTypes := #[t, t] })
    (ht : P.underlying t = some (.slice 5)) (hinfo : (P.info? 5).map (fun i => (i.zero, i.size, i.bytes)) = some (some (.int .u8 0), 1, 1))
    {base : Nat} {v : Value} {l : List UInt8} (hs : a.eval s = v) (hown : OwnB w base v l)
    (ad : Addr) (m : List UInt8) (k c : Nat) (hk : m.length = k) (hx : a.eval x = .slice (some ad) k c) (hnews : ∀ j u, (bv m)[j]? = some u → w.cell? (ad.add j) = some u)
    (hlen : l.length + k ≤ 140737488355328) (hbase : base ≤ w.heap.size)
    (h : ∀ v' w', OwnB w' base v' (l ++ m) → w.grownBy w' v.ownBlock → wpList P ops Q rest (a.put o.dst v') w') : wpList P ops Q (o :: rest) a w := by
  subst hk
  obtain ⟨i0, hi, hz0, hz1, hz2⟩ := info_parts hinfo
  refine wpList_append_own w hgd s x t ho base 5 i0 (.int .u8 0) 1 1 ht hi hz0 hz1 hz2 rfl (by decide) v l.length (bv l) hs hown ad m.length c (bv m) hx (by simp [bv_length]) hnews (bv_one m) (by unfold maxLen; omega) (by omega) hbase ?_
  intro v' w' ho' hg _
  refine h v' w' ?_ hg
  unfold OwnB
  rw [bv_append] at ho'
  simpa using ho'
theorem Rd.alloc {w : World} {b : Nat} {s : ByteArray} {a : Nat} (h : Rd w b s a) (o : Obj) : Rd (w.alloc o) b s a := (Below.heap_alloc w o b (Blk.lt h)).trans h
theorem Rd.grown {w w' : World} {b : Nat} {s : ByteArray} {a : Nat} {base : Nat} {v : Value} {l : List UInt8} (h : Rd w b s a) (hO : OwnB w base v l) (hb : b < base) (hg : w.grownBy w' v.ownBlock) : Rd w' b s a :=
  (hg.block b (Blk.lt h) (fun e => by have := (World.ownsRow.lt hO b e.symm).1; omega)).trans h

set_option maxRecDepth 100000 in
theorem take_no (s : ByteArray) (i : Int) (w : World) (_hs : s.size ≤ 9223372036854775807) (h : i < 0 ∨ (s.size : Int) < i) :
    Calls Tryd.prog 25 #[.string s, .int .i64 i] w fun e w' => e = .returned (.tuple #[.agg #[.bool false, .string ⟨#[]⟩], .int .i64 0, .int .i64 1]) ∧ Below w.heap.size w w' := by
  have hb : Below w.heap.size w (((w.alloc (.cells #[.bool false, .string ⟨#[]⟩] 24)).alloc (.cells #[.int .i64 0] 3)).alloc (.cells #[.int .i64 1] 30)) :=
    (((Below.refl _ w).alloc (Nat.le_refl _) _).alloc (by simp) _).alloc (by simp; omega) _
  rcases (show i < 0 ∨ (¬ i < 0 ∧ (s.size : Int) < i) by omega) with h0 | ⟨h0, h1⟩
  · have q : decide (i < (0 : Int)) = true := by simpa using h0
    go_enter_defers Tryd.func25, Tryd.ntmps25
    go_wp2
    exact ⟨.tuple #[.agg #[.bool false, .string ⟨#[]⟩], .int .i64 0, .int .i64 1], by simp [results, Tryd.results25, go_sem], rfl, hb⟩
  · have q : decide (i < (0 : Int)) = false := by simpa using h0
    have q2 : decide ((s.size : Int) < i) = true := by simpa using h1
    go_enter_defers Tryd.func25, Tryd.ntmps25
    go_wp2
    exact ⟨.tuple #[.agg #[.bool false, .string ⟨#[]⟩], .int .i64 0, .int .i64 1], by simp [results, Tryd.results25, go_sem], rfl, hb⟩

theorem takeE_size {l : List UInt8} {a p : Nat} (h : sizeE l a = .error p) : takeE l a = .error p := by simp [takeE, h]
theorem takeE_mag {l : List UInt8} {a k f p : Nat} {below : Bool} (h : sizeE l a = .ok (k, below, f)) (h2 : magE l below f k = .error p) : takeE l a = .error p := by simp [takeE, h, h2]
theorem takeE_ok {l m : List UInt8} {a k f : Nat} {below : Bool} (h : sizeE l a = .ok (k, below, f)) (h2 : magE l below f k = .ok m) : takeE l a = .ok (below, m, f + k) := by simp [takeE, h, h2]

/-- Out with a number: the closure is idle. -/
theorem leaves_good (s : ByteArray) (a : Nat) (w : World) (tmps : Array Value) (x : Int) (below : Bool) (q : ByteArray) {w1 : World} {m : List UInt8} {f : Nat} (h4 : tmps.getD 4 undef = .pointer (some ⟨w.heap.size, 0, none⟩)) (h5 : tmps.getD 5 undef = .pointer (some ⟨w.heap.size + 1, 0, none⟩))
    (h6 : tmps.getD 6 undef = .pointer (some ⟨w.heap.size + 2, 0, none⟩)) (d0 : w1.cell? ⟨w.heap.size, 0, none⟩ = some (.bool below)) (d1 : w1.cell? ⟨w.heap.size, 1, none⟩ = some (.string q)) (d2 : w1.cell? ⟨w.heap.size + 1, 0, none⟩ = some (.int .i64 x)) (d3 : w1.cell? ⟨w.heap.size + 2, 0, none⟩ = some (.int .i64 0))
    (hE : takeE s.toList a = .ok (below, m, f)) (hq : q.data.toList = m) (hx : x = f) (hb : Below w.heap.size w w1) :
    Leaves Tryd.prog Tryd.f25 tmps (TakePost s a w) [{ target := .fn (.func 58) #[.pointer (some ⟨w.heap.size, 0, none⟩), .pointer (some ⟨w.heap.size + 1, 0, none⟩), .pointer (some ⟨w.heap.size + 2, 0, none⟩)], args := #[] }] .returning w1 := by
  refine leaves_cons (f := 58) (args := #[.pointer (some ⟨w.heap.size, 0, none⟩), .pointer (some ⟨w.heap.size + 1, 0, none⟩), .pointer (some ⟨w.heap.size + 2, 0, none⟩)]) (by simp) (by simp [go_sem]) ?_
  refine (catch_idle _ _ _ w1).mono ?_
  rintro e u' w2 ⟨rfl, rfl, rfl⟩
  refine ⟨.tuple #[.agg #[.bool below, .string q], .int .i64 x, .int .i64 0], ?_, ?_⟩
  · simp only [Array.getD_eq_getD_getElem?] at h4 h5 h6
    simp [results, Tryd.results25, go_sem, h4, h5, h6, d0, d1, d2, d3]
  · unfold TakePost
    rw [hE, hx]
    exact ⟨q, rfl, Lib.hid (by rw [Lib.toList_data]; exact hq), hb⟩
theorem app_below {W w2 w3 : World} {o : Obj} {v : Value} {l : List UInt8} {B : Nat} (hB : Below B W w2) (hs : B + 1 ≤ w2.heap.size) (hO : OwnB w2 (B + 1) v l) (hg : (w2.alloc o).grownBy w3 v.ownBlock) : Below B W w3 :=
  (hB.alloc (by omega) o).grown hg (by simp; omega) (fun q hq => by have := (World.ownsRow.lt hO q hq).1; omega)

/-- Out by the panic at a place: the closure catches it. -/
theorem leaves_bad (s : ByteArray) (a : Nat) (w : World) (tmps : Array Value) (x : Int) {W w1 : World} {p : Nat} (h4 : tmps.getD 4 undef = .pointer (some ⟨w.heap.size, 0, none⟩)) (h5 : tmps.getD 5 undef = .pointer (some ⟨w.heap.size + 1, 0, none⟩))
    (h6 : tmps.getD 6 undef = .pointer (some ⟨w.heap.size + 2, 0, none⟩)) (hRes : Res w.heap.size W) (hb1 : Below (w.heap.size + 3) W w1) (hBel : Below w.heap.size w W) (hE : takeE s.toList a = .error p) (hx : x = p) :
    Leaves Tryd.prog Tryd.f25 tmps (TakePost s a w) [{ target := .fn (.func 58) #[.pointer (some ⟨w.heap.size, 0, none⟩), .pointer (some ⟨w.heap.size + 1, 0, none⟩), .pointer (some ⟨w.heap.size + 2, 0, none⟩)], args := #[] }] (.panicking [{ v := .iface 116 (.agg #[.int .i64 x]), recovered := false }]) w1 := by
  refine leaves_cons (f := 58) (args := #[.pointer (some ⟨w.heap.size, 0, none⟩), .pointer (some ⟨w.heap.size + 1, 0, none⟩), .pointer (some ⟨w.heap.size + 2, 0, none⟩)]) (by simp) (by simp [go_sem]) ?_
  refine (catch_res w.heap.size x w1 (hRes.below hb1)).mono ?_
  rintro e u' w2 ⟨rfl, rfl, d0, d1, d2, d3, hb2⟩
  refine ⟨.tuple #[.agg #[.bool false, .string ⟨#[]⟩], .int .i64 x, .int .i64 20], ?_, take_post_bad hE hx ((hBel.trans (hb1.mono (by omega))).trans hb2)⟩
  simp only [Array.getD_eq_getD_getElem?] at h4 h5 h6
  simp [results, Tryd.results25, go_sem, h4, h5, h6, d0, d1, d2, d3]

set_option maxRecDepth 100000 in
set_option maxHeartbeats 2000000 in
theorem take_at (s : ByteArray) (a : Nat) (w : World) (hs : s.size ≤ 9223372036854775807) (ha : a ≤ s.size) :
    Calls Tryd.prog 25 #[.string s, .int .i64 a] w (TakePost s a w) := by
  have q : decide ((a : Int) < (0 : Int)) = false := by simp
  have q2 : decide ((s.size : Int) < (a : Int)) = false := by simp; omega
  have hmf : ∀ (fn : Fn) (first cap : Array Value) (w : World), (Instr.makeFunc fn first cap).run Tryd.prog w = .ok (.func fn first cap) w := fun _ _ _ _ => rfl
  obtain ⟨W, hW⟩ : ∃ W : World, W = ((((w.alloc (.cells #[.bool false, .string ⟨#[]⟩] 24)).alloc (.cells #[.int .i64 0] 3)).alloc (.cells #[.int .i64 0] 30)).alloc (.cells #[.string s, .int .i64 a] 120)) := ⟨_, rfl⟩
  have hRes : Res w.heap.size W := by
    subst hW
    exact ⟨by simp [go_sem], by simp [go_sem], by simp [go_sem], by simp [go_sem], by simp [go_sem], by simp [go_sem], by simp [go_sem], by simp [go_sem]⟩
  have hRd : Rd W (w.heap.size + 1 + 1 + 1) s a := by
    subst hW
    have := Blk.new (((w.alloc (.cells #[.bool false, .string ⟨#[]⟩] 24)).alloc (.cells #[.int .i64 0] 3)).alloc (.cells #[.int .i64 0] 30)) 120 #[.string s, .int .i64 a]
    simpa [Rd] using this
  have hBel : Below w.heap.size w W := by
    subst hW
    exact ((((Below.refl _ w).alloc (Nat.le_refl _) _).alloc (by simp) _).alloc (by simp; omega) _).alloc (by simp; omega) _
  have hWs : W.heap.size = w.heap.size + 4 := by subst hW; simp
  go_enter_defers Tryd.func25, Tryd.ntmps25
  go_wp2_with fail
  rw [← hW]
  clear hW
  refine (size_any _ s a W hRd ha hs).mono ?_
  rintro e w1 hp
  unfold SizePost at hp
  generalize hE : sizeE s.toList a = E at hp
  cases E with
  | error p =>
    obtain ⟨rfl, hm⟩ := hp
    have hb1 : Below (w.heap.size + 3) W w1 := hm.below (Nat.le_refl _)
    exact leaves_bad _ _ _ _ _ rfl rfl rfl hRes hb1 hBel (takeE_size hE) rfl
  | ok r =>
    obtain ⟨k, below, f⟩ := r
    obtain ⟨rfl, hrd, hm⟩ := hp
    obtain ⟨hk, hf, hfl⟩ := sizeE_ok hE
    rw [size_of] at hfl
    have HE := Lib.hid hE
    have hb1 : Below (w.heap.size + 3) W w1 := hm.below (Nat.le_refl _)
    have hs1 : w.heap.size + 4 ≤ w1.heap.size := hWs ▸ hm.size
    clear hE hm
    go_wp2_with fail
    go_loopw [10, 11, 12, 33] (fun v _ _ i wr => ∃ j : Nat, j ≤ k ∧ f + j ≤ s.size ∧ i = .int .i64 j ∧ OwnB wr (w.heap.size + 4) v (readL s.toList below f j) ∧ Rd wr (w.heap.size + 1 + 1 + 1) s (f + j) ∧ Below (w.heap.size + 3) W wr ∧ w.heap.size + 4 ≤ wr.heap.size ∧
      RowKit.Hid (j = 0 ∨ OnE s.toList below f k)) (fun _ _ _ i _ => k - (intOf i).toNat)
    case atStart => exact ⟨0, Nat.zero_le _, by omega, rfl, by rw [readL_zero]; exact OwnB.nil _ _, hrd, hb1, hs1, Lib.hid (.inl rfl)⟩
    case round =>
      clear hrd hb1 hs1
      obtain ⟨j, hjk, hfj, rfl, hO, hrd, hB, hsz, HON⟩ := hrel
      have hrl : (readL s.toList below f j).length = j := readL_length _ _ _ _ (by rw [size_of]; exact hfj)
      by_cases hlt : j < k
      · by_cases hin : f + j < s.size
        · have hat := at_some s (f + j) hin
          have cN := next_ok _ s (f + j) wr hrd hin hs
          obtain ⟨c, hc⟩ : ∃ c, s[f + j] = c := ⟨_, rfl⟩
          rw [hc] at hat cN
          clear hc
          have hcb := c.toNat_lt
          have HS := Lib.hid (readL_succ s.toList below f j c hat)
          cases below
          · by_cases hj0 : j = 0
            · by_cases hz : fl false c = 0
              · have hz0 : c.toNat = 0 := by have := congrArg UInt8.toNat hz; simpa [fl] using this
                have q3 : decide ((0 : Int) < (j : Int)) = false := by simp; omega
                have q4 : (((c.toNat : Int)) != 0) = false := by simp; omega
                have HZ := Lib.hid (magE_zero (l := s.toList) (below := false) (f := f) (k := k) (by omega) (by simpa [hj0] using hat) hz)
                clear hat
                go_wp2_with fail
                refine cN.mono ?_
                rintro e w2 ⟨rfl, hr2, hm2⟩
                have c1 : w2.cell? ⟨w.heap.size + 1 + 1 + 1, 1, none⟩ = some (.int .i64 ((f + j + 1 : Nat) : Int)) := hr2.cell 1
                have hO2 := hO.mv (b := w.heap.size + 1 + 1 + 1) (by omega) hm2
                have hB2 : Below (w.heap.size + 3) W w2 := hB.trans (hm2.below (Nat.le_refl _))
                have hs2 : w.heap.size + 4 ≤ w2.heap.size := Nat.le_trans hsz hm2.size
                have hsb := Lib.hid (show ((fl false c).toNat : Int) = (c.toNat : Int) from rfl)
                go_wp2_with fail
                refine (must_no _ _).mono ?_
                rintro e w3 ⟨rfl, rfl⟩
                exact leaves_bad _ _ _ _ _ rfl rfl rfl hRes hB2 hBel (takeE_mag HE.out (HZ.out)) (by omega)
              · have hz0 : c.toNat ≠ 0 := fun e => hz (UInt8.toNat_inj.1 (by simp only [fl, Bool.false_eq_true, if_false, e]; rfl))
                have q3 : decide ((0 : Int) < (j : Int)) = false := by simp; omega
                have q4 : (((c.toNat : Int)) != 0) = true := by simp; omega
                have HN := Lib.hid (onE_first (l := s.toList) (below := false) (f := f) (k := k) (by omega) (by simpa [hj0] using hat) hz)
                clear hat
                go_wp2_with fail
                refine cN.mono ?_
                rintro e w2 ⟨rfl, hr2, hm2⟩
                have c1 : w2.cell? ⟨w.heap.size + 1 + 1 + 1, 1, none⟩ = some (.int .i64 ((f + j + 1 : Nat) : Int)) := hr2.cell 1
                have hO2 := hO.mv (b := w.heap.size + 1 + 1 + 1) (by omega) hm2
                have hB2 : Below (w.heap.size + 3) W w2 := hB.trans (hm2.below (Nat.le_refl _))
                have hs2 : w.heap.size + 4 ≤ w2.heap.size := Nat.le_trans hsz hm2.size
                have hsb := Lib.hid (show ((fl false c).toNat : Int) = (c.toNat : Int) from rfl)
                go_wp2_with fail
                refine (must_yes _ _).mono ?_
                rintro e w3 ⟨rfl, rfl⟩
                go_wp2_with (at_builtin; refine wpList_append_bytes3 rfl (.tmp 53) (.tmp 55) 111 rfl Tryd.underlying111 Tryd.info5 rfl (hO2.alloc _) _ [fl false c] 1 _ rfl rfl (bv_cells_oneI _ _ _ hsb.out) (by omega) (by simp; omega) ?_; intro v3 w3 hO3 hg3)
                go_roundw
                case rel =>
                  exact ⟨j + 1, by omega, by omega, by go_num, by rw [HS.out]; exact hO3, Rd.grown (hr2.alloc _) (hO2.alloc _) (by omega) hg3, app_below hB2 hs2 hO2 hg3, Nat.le_trans (by simp; omega) hg3.size, Lib.hid (.inr HN.out)⟩
                case measure => simp [intOf]; omega
            · have q3 : decide ((0 : Int) < (j : Int)) = true := by simp; omega
              have HN := Lib.hid (HON.out.resolve_left (by omega))
              clear hat
              go_wp2_with fail
              refine cN.mono ?_
              rintro e w2 ⟨rfl, hr2, hm2⟩
              have c1 : w2.cell? ⟨w.heap.size + 1 + 1 + 1, 1, none⟩ = some (.int .i64 ((f + j + 1 : Nat) : Int)) := hr2.cell 1
              have hO2 := hO.mv (b := w.heap.size + 1 + 1 + 1) (by omega) hm2
              have hB2 : Below (w.heap.size + 3) W w2 := hB.trans (hm2.below (Nat.le_refl _))
              have hs2 : w.heap.size + 4 ≤ w2.heap.size := Nat.le_trans hsz hm2.size
              have hsb := Lib.hid (show ((fl false c).toNat : Int) = (c.toNat : Int) from rfl)
              go_wp2_with fail
              refine (must_yes _ _).mono ?_
              rintro e w3 ⟨rfl, rfl⟩
              go_wp2_with (at_builtin; refine wpList_append_bytes3 rfl (.tmp 53) (.tmp 55) 111 rfl Tryd.underlying111 Tryd.info5 rfl (hO2.alloc _) _ [fl false c] 1 _ rfl rfl (bv_cells_oneI _ _ _ hsb.out) (by omega) (by simp; omega) ?_; intro v3 w3 hO3 hg3)
              go_roundw
              case rel =>
                exact ⟨j + 1, by omega, by omega, by go_num, by rw [HS.out]; exact hO3, Rd.grown (hr2.alloc _) (hO2.alloc _) (by omega) hg3, app_below hB2 hs2 hO2 hg3, Nat.le_trans (by simp; omega) hg3.size, Lib.hid (.inr HN.out)⟩
              case measure => simp [intOf]; omega
          · by_cases hj0 : j = 0
            · by_cases hz : fl true c = 0
              · have hz0 : c.toNat = 255 := by have := congrArg UInt8.toNat hz; simp only [fl, if_true, sub255n] at this; have h0 : (0 : UInt8).toNat = 0 := rfl; omega
                have q3 : decide ((0 : Int) < (j : Int)) = false := by simp; omega
                have q4 : ((255 - (c.toNat : Int)) != 0) = false := by simp; omega
                have HZ := Lib.hid (magE_zero (l := s.toList) (below := true) (f := f) (k := k) (by omega) (by simpa [hj0] using hat) hz)
                clear hat
                go_wp2_with fail
                refine cN.mono ?_
                rintro e w2 ⟨rfl, hr2, hm2⟩
                have c1 : w2.cell? ⟨w.heap.size + 1 + 1 + 1, 1, none⟩ = some (.int .i64 ((f + j + 1 : Nat) : Int)) := hr2.cell 1
                have hO2 := hO.mv (b := w.heap.size + 1 + 1 + 1) (by omega) hm2
                have hB2 : Below (w.heap.size + 3) W w2 := hB.trans (hm2.below (Nat.le_refl _))
                have hs2 : w.heap.size + 4 ≤ w2.heap.size := Nat.le_trans hsz hm2.size
                have hsb := Lib.hid (show ((fl true c).toNat : Int) = 255 - (c.toNat : Int) from sub255 c)
                go_wp2_with fail
                refine (must_no _ _).mono ?_
                rintro e w3 ⟨rfl, rfl⟩
                exact leaves_bad _ _ _ _ _ rfl rfl rfl hRes hB2 hBel (takeE_mag HE.out (HZ.out)) (by omega)
              · have hz0 : c.toNat ≠ 255 := fun e => hz (UInt8.toNat_inj.1 (by simp only [fl, if_true, sub255n, e]; rfl))
                have q3 : decide ((0 : Int) < (j : Int)) = false := by simp; omega
                have q4 : ((255 - (c.toNat : Int)) != 0) = true := by simp; omega
                have HN := Lib.hid (onE_first (l := s.toList) (below := true) (f := f) (k := k) (by omega) (by simpa [hj0] using hat) hz)
                clear hat
                go_wp2_with fail
                refine cN.mono ?_
                rintro e w2 ⟨rfl, hr2, hm2⟩
                have c1 : w2.cell? ⟨w.heap.size + 1 + 1 + 1, 1, none⟩ = some (.int .i64 ((f + j + 1 : Nat) : Int)) := hr2.cell 1
                have hO2 := hO.mv (b := w.heap.size + 1 + 1 + 1) (by omega) hm2
                have hB2 : Below (w.heap.size + 3) W w2 := hB.trans (hm2.below (Nat.le_refl _))
                have hs2 : w.heap.size + 4 ≤ w2.heap.size := Nat.le_trans hsz hm2.size
                have hsb := Lib.hid (show ((fl true c).toNat : Int) = 255 - (c.toNat : Int) from sub255 c)
                go_wp2_with fail
                refine (must_yes _ _).mono ?_
                rintro e w3 ⟨rfl, rfl⟩
                go_wp2_with (at_builtin; refine wpList_append_bytes3 rfl (.tmp 53) (.tmp 55) 111 rfl Tryd.underlying111 Tryd.info5 rfl (hO2.alloc _) _ [fl true c] 1 _ rfl rfl (bv_cells_oneI _ _ _ hsb.out) (by omega) (by simp; omega) ?_; intro v3 w3 hO3 hg3)
                go_roundw
                case rel =>
                  exact ⟨j + 1, by omega, by omega, by go_num, by rw [HS.out]; exact hO3, Rd.grown (hr2.alloc _) (hO2.alloc _) (by omega) hg3, app_below hB2 hs2 hO2 hg3, Nat.le_trans (by simp; omega) hg3.size, Lib.hid (.inr HN.out)⟩
                case measure => simp [intOf]; omega
            · have q3 : decide ((0 : Int) < (j : Int)) = true := by simp; omega
              have HN := Lib.hid (HON.out.resolve_left (by omega))
              clear hat
              go_wp2_with fail
              refine cN.mono ?_
              rintro e w2 ⟨rfl, hr2, hm2⟩
              have c1 : w2.cell? ⟨w.heap.size + 1 + 1 + 1, 1, none⟩ = some (.int .i64 ((f + j + 1 : Nat) : Int)) := hr2.cell 1
              have hO2 := hO.mv (b := w.heap.size + 1 + 1 + 1) (by omega) hm2
              have hB2 : Below (w.heap.size + 3) W w2 := hB.trans (hm2.below (Nat.le_refl _))
              have hs2 : w.heap.size + 4 ≤ w2.heap.size := Nat.le_trans hsz hm2.size
              have hsb := Lib.hid (show ((fl true c).toNat : Int) = 255 - (c.toNat : Int) from sub255 c)
              go_wp2_with fail
              refine (must_yes _ _).mono ?_
              rintro e w3 ⟨rfl, rfl⟩
              go_wp2_with (at_builtin; refine wpList_append_bytes3 rfl (.tmp 53) (.tmp 55) 111 rfl Tryd.underlying111 Tryd.info5 rfl (hO2.alloc _) _ [fl true c] 1 _ rfl rfl (bv_cells_oneI _ _ _ hsb.out) (by omega) (by simp; omega) ?_; intro v3 w3 hO3 hg3)
              go_roundw
              case rel =>
                exact ⟨j + 1, by omega, by omega, by go_num, by rw [HS.out]; exact hO3, Rd.grown (hr2.alloc _) (hO2.alloc _) (by omega) hg3, app_below hB2 hs2 hO2 hg3, Nat.le_trans (by simp; omega) hg3.size, Lib.hid (.inr HN.out)⟩
              case measure => simp [intOf]; omega
        · have heq : f + j = s.size := by omega
          rw [heq] at hrd
          have HZ := Lib.hid (magE_end (l := s.toList) (below := below) (f := f) hlt (by rw [size_of]; exact heq) HON.out)
          go_wp2_with fail
          refine (next_no _ s _ hrd hs).mono ?_
          rintro e w2 ⟨rfl, hm2⟩
          have hB2 : Below (w.heap.size + 3) W w2 := hB.trans (hm2.below (Nat.le_refl _))
          exact leaves_bad _ _ _ _ _ rfl rfl rfl hRes hB2 hBel (takeE_mag HE.out (HZ.out)) (by rw [size_of])
      · have hjk2 : j = k := by omega
        have HM := Lib.hid (magE_all (l := s.toList) (below := below) (f := f) (k := k) (by rw [size_of]; omega) (hjk2 ▸ HON.out))
        have hres := hRes.below hB
        obtain ⟨r0, r1, r2, r3, r4, r5, r6, r7⟩ := hres
        have c1 : wr.cell? ⟨w.heap.size + 1 + 1 + 1, 1, none⟩ = some (.int .i64 ((f + j : Nat) : Int)) := hrd.cell 1
        have hcv := hO.drew.conv 111 9 Tryd.underlying111 Tryd.underlying5 Tryd.underlying9
        subst hjk2
        have k0 : w.heap.size < wr.heap.size := by omega
        have k1 : w.heap.size + 1 < wr.heap.size := by omega
        have k2 : w.heap.size + 2 < wr.heap.size := by omega
        clear hO hrd hrl
        go_wp2_with fail
        go_region
        go_wp2_with fail
        have hcells : ∀ (x : Int), ((((wr.setCell ⟨w.heap.size, 0, none⟩ (.bool below)).setCell ⟨w.heap.size, 1, none⟩ (.string ⟨(readL s.toList below f j).toArray⟩)).setCell ⟨w.heap.size + 1, 0, none⟩ (.int .i64 x)).setCell ⟨w.heap.size + 1 + 1, 0, none⟩ (.int .i64 0)).cell? ⟨w.heap.size, 0, none⟩ = some (.bool below) ∧
            ((((wr.setCell ⟨w.heap.size, 0, none⟩ (.bool below)).setCell ⟨w.heap.size, 1, none⟩ (.string ⟨(readL s.toList below f j).toArray⟩)).setCell ⟨w.heap.size + 1, 0, none⟩ (.int .i64 x)).setCell ⟨w.heap.size + 1 + 1, 0, none⟩ (.int .i64 0)).cell? ⟨w.heap.size, 1, none⟩ = some (.string ⟨(readL s.toList below f j).toArray⟩) ∧
            ((((wr.setCell ⟨w.heap.size, 0, none⟩ (.bool below)).setCell ⟨w.heap.size, 1, none⟩ (.string ⟨(readL s.toList below f j).toArray⟩)).setCell ⟨w.heap.size + 1, 0, none⟩ (.int .i64 x)).setCell ⟨w.heap.size + 1 + 1, 0, none⟩ (.int .i64 0)).cell? ⟨w.heap.size + 1, 0, none⟩ = some (.int .i64 x) ∧
            ((((wr.setCell ⟨w.heap.size, 0, none⟩ (.bool below)).setCell ⟨w.heap.size, 1, none⟩ (.string ⟨(readL s.toList below f j).toArray⟩)).setCell ⟨w.heap.size + 1, 0, none⟩ (.int .i64 x)).setCell ⟨w.heap.size + 1 + 1, 0, none⟩ (.int .i64 0)).cell? ⟨w.heap.size + 2, 0, none⟩ = some (.int .i64 0) :=
          fun x => ⟨by simp [go_sem, r0], by simp [go_sem, r1], by simp [go_sem, r2], by simp [go_sem, r3]⟩
        exact leaves_good _ _ _ _ _ _ _ rfl rfl rfl (hcells _).1 (hcells _).2.1 (hcells _).2.2.1 (hcells _).2.2.2 (takeE_ok HE.out HM.out) rfl (by omega)
          (((((hBel.trans (hB.mono (by omega))).setCell (Nat.le_refl _) _).setCell (Nat.le_refl _) _).setCell (Nat.le_succ _) _).setCell (by simp; omega) _).drew
end Go.Proofs.YtcgphlilijeifaaDoor
end
section
/-
  The document's Take: its contract.
-/
namespace Go.Proofs.YtcgphlilijeifaaDoor
open Go.RowKit

theorem take_post_ok {s : ByteArray} {a : Nat} {w w' : World} {m : List UInt8} {f : Nat} {x : Int} {below : Bool} {q : ByteArray} (h : takeE s.toList a = .ok (below, m, f)) (hx : x = f) (hq : q.data.toList = m) (hb : Below w.heap.size w w') :
    TakePost s a w (.returned (.tuple #[.agg #[.bool below, .string q], .int .i64 x, .int .i64 0])) w' := by
  unfold TakePost
  rw [h, hx]
  exact ⟨q, rfl, Lib.hid (by rw [Lib.toList_data]; exact hq), hb⟩

set_option maxRecDepth 100000 in
set_option maxHeartbeats 4000000 in
theorem rtake_high (s : ByteArray) (a : Nat) (w : World) (hs : s.size ≤ 9223372036854775807) (ha : a < s.size) (h1 : 128 ≤ s[a].toNat) (h2 : s[a].toNat ≠ 255) : Calls Tryd.prog 71 #[.string s, .int .i64 a] w (TakePost s a w) := by
  have hc := s[a].toNat_lt
  have HE := Lib.hid (show sizeE s.toList a = .ok (s[a].toNat - 128, false, a + 1) by simp [sizeE, at_some s a ha, h1, h2])
  have q0 : decide ((a : Int) < (0 : Int)) = false := by simp
  have q1 : decide (s.size < a) = false := by simp; omega
  have q2 : ((a : Int) == (s.size : Int)) = false := by simp; omega
  have q3 : ((s[a].toNat : Int) == 0) = false := by simp; omega
  have q4 : ((s[a].toNat : Int) == 255) = false := by simp; omega
  have q5 : ((s[a].toNat : Int) == 1) = false := by simp; omega
  have q6 : decide ((s[a].toNat : Int) < 128) = false := by simp; omega
  have q8 : decide ((s[a].toNat : Int) - 128 < 0) = false := by simp; omega
  go_enter Tryd.func71, Tryd.ntmps71
  go_wp2_with fail
  obtain ⟨k, hk⟩ : ∃ k : Nat, s[a].toNat - 128 = k := ⟨_, rfl⟩
  obtain ⟨f, hf⟩ : ∃ f : Nat, a + 1 = f := ⟨_, rfl⟩
  rw [hk, hf] at HE
  rw [show ((s[a].toNat : Int) - 128) = (k : Int) by omega, show ((a : Int) + 1) = (f : Int) by omega]
  obtain ⟨g1, g2, g3⟩ := sizeE_ok HE.out
  rw [size_of] at g3
  go_loopw [10, 11] (fun v i wr => ∃ j : Nat, j ≤ k ∧ f + j ≤ s.size ∧ i = .int .i64 j ∧ OwnB wr (w.heap.size + 1) v (readL s.toList false f j) ∧ Below (w.heap.size + 1) (w.alloc (.cells #[.bool false, .string ⟨#[]⟩] 24)) wr ∧ w.heap.size + 1 ≤ wr.heap.size ∧
    RowKit.Hid (j = 0 ∨ OnE s.toList false f k)) (fun _ i _ => k - (intOf i).toNat)
  case atStart => exact ⟨0, Nat.zero_le _, by omega, rfl, by rw [readL_zero]; exact OwnB.nil _ _, Below.refl _ _, by simp, Lib.hid (.inl rfl)⟩
  case round =>
    obtain ⟨j, hjk, hfj, rfl, hO, hB, hsz, HON⟩ := hrel
    have hrl : (readL s.toList false f j).length = j := readL_length _ _ _ _ (by rw [size_of]; exact hfj)
    have c0 : wr.cell? ⟨w.heap.size, 0, none⟩ = some (.bool false) := (hB.cell (p := ⟨w.heap.size, 0, none⟩) (by simp)).trans (by simp)
    have c1 : wr.cell? ⟨w.heap.size, 1, none⟩ = some (.string ⟨#[]⟩) := (hB.cell (p := ⟨w.heap.size, 1, none⟩) (by simp)).trans (by simp)
    have z0 : wr.frozen? ⟨w.heap.size, 0, none⟩ = false := (hB.frozen (p := ⟨w.heap.size, 0, none⟩) (by simp)).trans (by simp)
    have z1 : wr.frozen? ⟨w.heap.size, 1, none⟩ = false := (hB.frozen (p := ⟨w.heap.size, 1, none⟩) (by simp)).trans (by simp)
    have hzr : w.heap.size < wr.heap.size := by omega
    have hbr : Below w.heap.size w wr := ((Below.refl _ w).alloc (Nat.le_refl _) _).trans (hB.mono (by omega))
    by_cases hlt : j < k
    · have r1 : decide ((j : Int) < (k : Int)) = true := by simpa using hlt
      by_cases hin : f + j < s.size
      · have r2 : ((f : Int) + (j : Int) == (s.size : Int)) = false := by simp; omega
        have hat := at_some s (f + j) hin
        have HS := Lib.hid (readL_succ s.toList false f j s[f + j] hat)
        have hcb := s[f + j].toNat_lt
        have hsb := Lib.hid (show ((fl false s[f + j]).toNat : Int) = (s[f + j].toNat : Int) from rfl)
        by_cases hj0 : j = 0
        · subst hj0
          have hin0 : f < s.size := hin
          have hat0 := at_some s f hin0
          have hcb0 := s[f].toNat_lt
          have r20 : ((f : Int) == (s.size : Int)) = false := by simp; omega
          have HS0 := Lib.hid (readL_succ s.toList false f 0 s[f] hat0)
          have hsb0 := Lib.hid (show ((fl false s[f]).toNat : Int) = (s[f].toNat : Int) from rfl)
          clear hat HS hsb hcb r2
          by_cases hz : fl false s[f] = 0
          · have hz0 : s[f].toNat = 0 := by have := congrArg UInt8.toNat hz; simpa [fl] using this
            have r4 : ((s[f].toNat : Int) == 0) = true := by simp; omega
            have HZ := Lib.hid (takeE_mag HE.out (magE_zero (l := s.toList) (below := false) (f := f) (k := k) (by omega) hat0 hz))
            clear hat0 hO HS0 hsb0 hz hz0
            go_wp2_with fail
            exact bodyPost_ret (v := .tuple #[.agg #[.bool false, .string ⟨#[]⟩], .int .i64 f, .int .i64 20]) (by simp [results, Tryd.results71, go_sem, c0, c1]) rfl (take_post_bad HZ.out rfl ((hbr.setCell (Nat.le_refl _) _).setCell (Nat.le_refl _) _))
          · have hz0 : s[f].toNat ≠ 0 := fun e => hz (UInt8.toNat_inj.1 (by simp only [fl, Bool.false_eq_true, if_false, e]; rfl))
            have r4 : ((s[f].toNat : Int) == 0) = false := by simp; omega
            have HN := Lib.hid (onE_first (l := s.toList) (below := false) (f := f) (k := k) (by omega) hat0 hz)
            clear hat0 hz hz0 c0 c1 z0 z1 hbr
            go_wp2_with (at_builtin; refine wpList_append_bytes rfl (.tmp 101) (.tmp 103) 111 rfl Tryd.underlying111 Tryd.info5 rfl (hO.alloc _) _ [fl false s[f]] 1 _ rfl rfl (bv_cells_oneI _ _ _ hsb0.out) (by omega) (hB.alloc hsz _) (by simp; omega) ?_; intro v7 w7 hO7 hB7 hs7)
            go_roundw
            case rel => exact ⟨1, by omega, by omega, by go_num, by rw [HS0.out]; exact hO7, hB7, hs7, Lib.hid (.inr HN.out)⟩
            case measure => simp [intOf]; omega
        · have r3 : ((j : Int) == 0) = false := by simp; omega
          have HN := Lib.hid (HON.out.resolve_left hj0)
          clear hat c0 c1 z0 z1 hbr
          go_wp2_with (at_builtin; refine wpList_append_bytes rfl (.tmp 101) (.tmp 103) 111 rfl Tryd.underlying111 Tryd.info5 rfl (hO.alloc _) _ [fl false s[f + j]] 1 _ rfl rfl (bv_cells_oneI _ _ _ hsb.out) (by omega) (hB.alloc hsz _) (by simp; omega) ?_; intro v7 w7 hO7 hB7 hs7)
          go_roundw
          case rel => exact ⟨j + 1, by omega, by omega, by go_num, by rw [HS.out]; exact hO7, hB7, hs7, Lib.hid (.inr HN.out)⟩
          case measure => simp [intOf]; omega
      · have r2 : ((f : Int) + (j : Int) == (s.size : Int)) = true := by simp; omega
        have HZ := Lib.hid (takeE_mag HE.out (magE_end (l := s.toList) (below := false) (f := f) hlt (by rw [size_of]; omega) HON.out))
        clear hO
        go_wp2_with fail
        exact bodyPost_ret (v := .tuple #[.agg #[.bool false, .string ⟨#[]⟩], .int .i64 s.size, .int .i64 20]) (by simp [results, Tryd.results71, go_sem, c0, c1]) rfl (take_post_bad HZ.out (by rw [size_of]) ((hbr.setCell (Nat.le_refl _) _).setCell (Nat.le_refl _) _))
    · have hjk2 : j = k := by omega
      have r1 : decide ((j : Int) < (k : Int)) = false := by simp; omega
      have HM := Lib.hid (takeE_ok HE.out (magE_all (l := s.toList) (below := false) (f := f) (k := k) (by rw [size_of]; omega) (hjk2 ▸ HON.out)))
      have hcv := hO.conv 111 9 Tryd.underlying111 Tryd.underlying5 Tryd.underlying9
      rw [hjk2] at hcv
      clear hO
      go_wp2_with fail
      exact bodyPost_ret (v := .tuple #[.agg #[.bool false, .string ⟨(readL s.toList false f k).toArray⟩], .int .i64 ((f : Int) + (k : Int)), .int .i64 0]) (by simp [results, Tryd.results71, go_sem, c0, c1]) rfl (take_post_ok HM.out (by omega) rfl ((hbr.setCell (Nat.le_refl _) _).setCell (Nat.le_refl _) _))

set_option maxRecDepth 100000 in
set_option maxHeartbeats 4000000 in
theorem rtake_low (s : ByteArray) (a : Nat) (w : World) (hs : s.size ≤ 9223372036854775807) (ha : a < s.size) (h1 : s[a].toNat < 128) (h2 : 2 ≤ s[a].toNat) : Calls Tryd.prog 71 #[.string s, .int .i64 a] w (TakePost s a w) := by
  have hc := s[a].toNat_lt
  have HE := Lib.hid (show sizeE s.toList a = .ok (128 - s[a].toNat, true, a + 1) by simp [sizeE, at_some s a ha, h2, show ¬ s[a].toNat = 255 by omega, show ¬ 128 ≤ s[a].toNat by omega])
  have q0 : decide ((a : Int) < (0 : Int)) = false := by simp
  have q1 : decide (s.size < a) = false := by simp; omega
  have q2 : ((a : Int) == (s.size : Int)) = false := by simp; omega
  have q3 : ((s[a].toNat : Int) == 0) = false := by simp; omega
  have q4 : ((s[a].toNat : Int) == 255) = false := by simp; omega
  have q5 : ((s[a].toNat : Int) == 1) = false := by simp; omega
  have q6 : decide ((s[a].toNat : Int) < 128) = true := by simp; omega
  have q8 : decide ((s[a].toNat : Int) - 128 < 0) = true := by simp; omega
  go_enter Tryd.func71, Tryd.ntmps71
  go_wp2_with fail
  obtain ⟨k, hk⟩ : ∃ k : Nat, 128 - s[a].toNat = k := ⟨_, rfl⟩
  obtain ⟨f, hf⟩ : ∃ f : Nat, a + 1 = f := ⟨_, rfl⟩
  rw [hk, hf] at HE
  rw [show (-((s[a].toNat : Int) - 128)) = (k : Int) by omega, show ((a : Int) + 1) = (f : Int) by omega]
  obtain ⟨g1, g2, g3⟩ := sizeE_ok HE.out
  rw [size_of] at g3
  go_loopw [10, 11] (fun v i wr => ∃ j : Nat, j ≤ k ∧ f + j ≤ s.size ∧ i = .int .i64 j ∧ OwnB wr (w.heap.size + 1) v (readL s.toList true f j) ∧ Below (w.heap.size + 1) (w.alloc (.cells #[.bool false, .string ⟨#[]⟩] 24)) wr ∧ w.heap.size + 1 ≤ wr.heap.size ∧
    RowKit.Hid (j = 0 ∨ OnE s.toList true f k)) (fun _ i _ => k - (intOf i).toNat)
  case atStart => exact ⟨0, Nat.zero_le _, by omega, rfl, by rw [readL_zero]; exact OwnB.nil _ _, Below.refl _ _, by simp, Lib.hid (.inl rfl)⟩
  case round =>
    obtain ⟨j, hjk, hfj, rfl, hO, hB, hsz, HON⟩ := hrel
    have hrl : (readL s.toList true f j).length = j := readL_length _ _ _ _ (by rw [size_of]; exact hfj)
    have c0 : wr.cell? ⟨w.heap.size, 0, none⟩ = some (.bool false) := (hB.cell (p := ⟨w.heap.size, 0, none⟩) (by simp)).trans (by simp)
    have c1 : wr.cell? ⟨w.heap.size, 1, none⟩ = some (.string ⟨#[]⟩) := (hB.cell (p := ⟨w.heap.size, 1, none⟩) (by simp)).trans (by simp)
    have z0 : wr.frozen? ⟨w.heap.size, 0, none⟩ = false := (hB.frozen (p := ⟨w.heap.size, 0, none⟩) (by simp)).trans (by simp)
    have z1 : wr.frozen? ⟨w.heap.size, 1, none⟩ = false := (hB.frozen (p := ⟨w.heap.size, 1, none⟩) (by simp)).trans (by simp)
    have hzr : w.heap.size < wr.heap.size := by omega
    have hbr : Below w.heap.size w wr := ((Below.refl _ w).alloc (Nat.le_refl _) _).trans (hB.mono (by omega))
    by_cases hlt : j < k
    · have r1 : decide ((j : Int) < (k : Int)) = true := by simpa using hlt
      by_cases hin : f + j < s.size
      · have r2 : ((f : Int) + (j : Int) == (s.size : Int)) = false := by simp; omega
        have hat := at_some s (f + j) hin
        have HS := Lib.hid (readL_succ s.toList true f j s[f + j] hat)
        have hcb := s[f + j].toNat_lt
        have hsb := Lib.hid (show ((fl true s[f + j]).toNat : Int) = 255 - (s[f + j].toNat : Int) from sub255 s[f + j])
        by_cases hj0 : j = 0
        · subst hj0
          have hin0 : f < s.size := hin
          have hat0 := at_some s f hin0
          have hcb0 := s[f].toNat_lt
          have r20 : ((f : Int) == (s.size : Int)) = false := by simp; omega
          have HS0 := Lib.hid (readL_succ s.toList true f 0 s[f] hat0)
          have hsb0 := Lib.hid (show ((fl true s[f]).toNat : Int) = 255 - (s[f].toNat : Int) from sub255 s[f])
          clear hat HS hsb hcb r2
          by_cases hz : fl true s[f] = 0
          · have hz0 : s[f].toNat = 255 := by have := congrArg UInt8.toNat hz; simp only [fl, if_true, sub255n] at this; have h0 : (0 : UInt8).toNat = 0 := rfl; omega
            have r4 : ((255 - (s[f].toNat : Int)) == 0) = true := by simp; omega
            have HZ := Lib.hid (takeE_mag HE.out (magE_zero (l := s.toList) (below := true) (f := f) (k := k) (by omega) hat0 hz))
            clear hat0 hO HS0 hsb0 hz hz0
            go_wp2_with fail
            exact bodyPost_ret (v := .tuple #[.agg #[.bool false, .string ⟨#[]⟩], .int .i64 f, .int .i64 20]) (by simp [results, Tryd.results71, go_sem, c0, c1]) rfl (take_post_bad HZ.out rfl ((hbr.setCell (Nat.le_refl _) _).setCell (Nat.le_refl _) _))
          · have hz0 : s[f].toNat ≠ 255 := fun e => hz (UInt8.toNat_inj.1 (by simp only [fl, if_true, sub255n, e]; rfl))
            have r4 : ((255 - (s[f].toNat : Int)) == 0) = false := by simp; omega
            have HN := Lib.hid (onE_first (l := s.toList) (below := true) (f := f) (k := k) (by omega) hat0 hz)
            clear hat0 hz hz0 c0 c1 z0 z1 hbr
            go_wp2_with (at_builtin; refine wpList_append_bytes rfl (.tmp 101) (.tmp 103) 111 rfl Tryd.underlying111 Tryd.info5 rfl (hO.alloc _) _ [fl true s[f]] 1 _ rfl rfl (bv_cells_oneI _ _ _ hsb0.out) (by omega) (hB.alloc hsz _) (by simp; omega) ?_; intro v7 w7 hO7 hB7 hs7)
            go_roundw
            case rel => exact ⟨1, by omega, by omega, by go_num, by rw [HS0.out]; exact hO7, hB7, hs7, Lib.hid (.inr HN.out)⟩
            case measure => simp [intOf]; omega
        · have r3 : ((j : Int) == 0) = false := by simp; omega
          have HN := Lib.hid (HON.out.resolve_left hj0)
          clear hat c0 c1 z0 z1 hbr
          go_wp2_with (at_builtin; refine wpList_append_bytes rfl (.tmp 101) (.tmp 103) 111 rfl Tryd.underlying111 Tryd.info5 rfl (hO.alloc _) _ [fl true s[f + j]] 1 _ rfl rfl (bv_cells_oneI _ _ _ hsb.out) (by omega) (hB.alloc hsz _) (by simp; omega) ?_; intro v7 w7 hO7 hB7 hs7)
          go_roundw
          case rel => exact ⟨j + 1, by omega, by omega, by go_num, by rw [HS.out]; exact hO7, hB7, hs7, Lib.hid (.inr HN.out)⟩
          case measure => simp [intOf]; omega
      · have r2 : ((f : Int) + (j : Int) == (s.size : Int)) = true := by simp; omega
        have HZ := Lib.hid (takeE_mag HE.out (magE_end (l := s.toList) (below := true) (f := f) hlt (by rw [size_of]; omega) HON.out))
        clear hO
        go_wp2_with fail
        exact bodyPost_ret (v := .tuple #[.agg #[.bool false, .string ⟨#[]⟩], .int .i64 s.size, .int .i64 20]) (by simp [results, Tryd.results71, go_sem, c0, c1]) rfl (take_post_bad HZ.out (by rw [size_of]) ((hbr.setCell (Nat.le_refl _) _).setCell (Nat.le_refl _) _))
    · have hjk2 : j = k := by omega
      have r1 : decide ((j : Int) < (k : Int)) = false := by simp; omega
      have HM := Lib.hid (takeE_ok HE.out (magE_all (l := s.toList) (below := true) (f := f) (k := k) (by rw [size_of]; omega) (hjk2 ▸ HON.out)))
      have hcv := hO.conv 111 9 Tryd.underlying111 Tryd.underlying5 Tryd.underlying9
      rw [hjk2] at hcv
      clear hO
      go_wp2_with fail
      exact bodyPost_ret (v := .tuple #[.agg #[.bool true, .string ⟨(readL s.toList true f k).toArray⟩], .int .i64 ((f : Int) + (k : Int)), .int .i64 0]) (by simp [results, Tryd.results71, go_sem, c0, c1]) rfl (take_post_ok HM.out (by omega) rfl ((hbr.setCell (Nat.le_refl _) _).setCell (Nat.le_refl _) _))

set_option maxRecDepth 100000 in
set_option maxHeartbeats 4000000 in
theorem rtake_longp (s : ByteArray) (a : Nat) (w : World) (hs : s.size ≤ 9223372036854775807) (ha : a < s.size) (h1 : s[a].toNat = 255) (hl : a + 1 < s.size) (h2 : 126 < s[a + 1].toNat) : Calls Tryd.prog 71 #[.string s, .int .i64 a] w (TakePost s a w) := by
  have hc := s[a].toNat_lt
  have HE := Lib.hid (show sizeE s.toList a = .ok (s[a + 1].toNat, false, a + 2) by simp [sizeE, at_some s a ha, at_some s (a + 1) hl, h1, h2])
  have q0 : decide ((a : Int) < (0 : Int)) = false := by simp
  have q1 : decide (s.size < a) = false := by simp; omega
  have q2 : ((a : Int) == (s.size : Int)) = false := by simp; omega
  have q3 : ((s[a].toNat : Int) == 0) = false := by simp; omega
  have q4 : ((s[a].toNat : Int) == 255) = true := by simp; omega
  have q5 : ((s[a].toNat : Int) == 1) = false := by simp; omega
  have q6 : decide ((s[a].toNat : Int) < 128) = false := by simp; omega
  have q8 : decide ((s[a].toNat : Int) - 128 < 0) = false := by simp; omega
  have hc2 := s[a + 1].toNat_lt
  have q7 : ((a : Int) + 1 == (s.size : Int)) = false := by simp; omega
  go_enter Tryd.func71, Tryd.ntmps71
  go_wp2_with fail
  obtain ⟨k, hk⟩ : ∃ k : Nat, s[a + 1].toNat = k := ⟨_, rfl⟩
  obtain ⟨f, hf⟩ : ∃ f : Nat, a + 2 = f := ⟨_, rfl⟩
  rw [hk, hf] at HE
  rw [show ((s[a + 1].toNat : Int)) = (k : Int) by omega, show ((a : Int) + 1 + 1) = (f : Int) by omega]
  obtain ⟨g1, g2, g3⟩ := sizeE_ok HE.out
  rw [size_of] at g3
  go_loopw [10, 11] (fun v i wr => ∃ j : Nat, j ≤ k ∧ f + j ≤ s.size ∧ i = .int .i64 j ∧ OwnB wr (w.heap.size + 1) v (readL s.toList false f j) ∧ Below (w.heap.size + 1) (w.alloc (.cells #[.bool false, .string ⟨#[]⟩] 24)) wr ∧ w.heap.size + 1 ≤ wr.heap.size ∧
    RowKit.Hid (j = 0 ∨ OnE s.toList false f k)) (fun _ i _ => k - (intOf i).toNat)
  case atStart => exact ⟨0, Nat.zero_le _, by omega, rfl, by rw [readL_zero]; exact OwnB.nil _ _, Below.refl _ _, by simp, Lib.hid (.inl rfl)⟩
  case round =>
    obtain ⟨j, hjk, hfj, rfl, hO, hB, hsz, HON⟩ := hrel
    have hrl : (readL s.toList false f j).length = j := readL_length _ _ _ _ (by rw [size_of]; exact hfj)
    have c0 : wr.cell? ⟨w.heap.size, 0, none⟩ = some (.bool false) := (hB.cell (p := ⟨w.heap.size, 0, none⟩) (by simp)).trans (by simp)
    have c1 : wr.cell? ⟨w.heap.size, 1, none⟩ = some (.string ⟨#[]⟩) := (hB.cell (p := ⟨w.heap.size, 1, none⟩) (by simp)).trans (by simp)
    have z0 : wr.frozen? ⟨w.heap.size, 0, none⟩ = false := (hB.frozen (p := ⟨w.heap.size, 0, none⟩) (by simp)).trans (by simp)
    have z1 : wr.frozen? ⟨w.heap.size, 1, none⟩ = false := (hB.frozen (p := ⟨w.heap.size, 1, none⟩) (by simp)).trans (by simp)
    have hzr : w.heap.size < wr.heap.size := by omega
    have hbr : Below w.heap.size w wr := ((Below.refl _ w).alloc (Nat.le_refl _) _).trans (hB.mono (by omega))
    by_cases hlt : j < k
    · have r1 : decide ((j : Int) < (k : Int)) = true := by simpa using hlt
      by_cases hin : f + j < s.size
      · have r2 : ((f : Int) + (j : Int) == (s.size : Int)) = false := by simp; omega
        have hat := at_some s (f + j) hin
        have HS := Lib.hid (readL_succ s.toList false f j s[f + j] hat)
        have hcb := s[f + j].toNat_lt
        have hsb := Lib.hid (show ((fl false s[f + j]).toNat : Int) = (s[f + j].toNat : Int) from rfl)
        by_cases hj0 : j = 0
        · subst hj0
          have hin0 : f < s.size := hin
          have hat0 := at_some s f hin0
          have hcb0 := s[f].toNat_lt
          have r20 : ((f : Int) == (s.size : Int)) = false := by simp; omega
          have HS0 := Lib.hid (readL_succ s.toList false f 0 s[f] hat0)
          have hsb0 := Lib.hid (show ((fl false s[f]).toNat : Int) = (s[f].toNat : Int) from rfl)
          clear hat HS hsb hcb r2
          by_cases hz : fl false s[f] = 0
          · have hz0 : s[f].toNat = 0 := by have := congrArg UInt8.toNat hz; simpa [fl] using this
            have r4 : ((s[f].toNat : Int) == 0) = true := by simp; omega
            have HZ := Lib.hid (takeE_mag HE.out (magE_zero (l := s.toList) (below := false) (f := f) (k := k) (by omega) hat0 hz))
            clear hat0 hO HS0 hsb0 hz hz0
            go_wp2_with fail
            exact bodyPost_ret (v := .tuple #[.agg #[.bool false, .string ⟨#[]⟩], .int .i64 f, .int .i64 20]) (by simp [results, Tryd.results71, go_sem, c0, c1]) rfl (take_post_bad HZ.out rfl ((hbr.setCell (Nat.le_refl _) _).setCell (Nat.le_refl _) _))
          · have hz0 : s[f].toNat ≠ 0 := fun e => hz (UInt8.toNat_inj.1 (by simp only [fl, Bool.false_eq_true, if_false, e]; rfl))
            have r4 : ((s[f].toNat : Int) == 0) = false := by simp; omega
            have HN := Lib.hid (onE_first (l := s.toList) (below := false) (f := f) (k := k) (by omega) hat0 hz)
            clear hat0 hz hz0 c0 c1 z0 z1 hbr
            go_wp2_with (at_builtin; refine wpList_append_bytes rfl (.tmp 101) (.tmp 103) 111 rfl Tryd.underlying111 Tryd.info5 rfl (hO.alloc _) _ [fl false s[f]] 1 _ rfl rfl (bv_cells_oneI _ _ _ hsb0.out) (by omega) (hB.alloc hsz _) (by simp; omega) ?_; intro v7 w7 hO7 hB7 hs7)
            go_roundw
            case rel => exact ⟨1, by omega, by omega, by go_num, by rw [HS0.out]; exact hO7, hB7, hs7, Lib.hid (.inr HN.out)⟩
            case measure => simp [intOf]; omega
        · have r3 : ((j : Int) == 0) = false := by simp; omega
          have HN := Lib.hid (HON.out.resolve_left hj0)
          clear hat c0 c1 z0 z1 hbr
          go_wp2_with (at_builtin; refine wpList_append_bytes rfl (.tmp 101) (.tmp 103) 111 rfl Tryd.underlying111 Tryd.info5 rfl (hO.alloc _) _ [fl false s[f + j]] 1 _ rfl rfl (bv_cells_oneI _ _ _ hsb.out) (by omega) (hB.alloc hsz _) (by simp; omega) ?_; intro v7 w7 hO7 hB7 hs7)
          go_roundw
          case rel => exact ⟨j + 1, by omega, by omega, by go_num, by rw [HS.out]; exact hO7, hB7, hs7, Lib.hid (.inr HN.out)⟩
          case measure => simp [intOf]; omega
      · have r2 : ((f : Int) + (j : Int) == (s.size : Int)) = true := by simp; omega
        have HZ := Lib.hid (takeE_mag HE.out (magE_end (l := s.toList) (below := false) (f := f) hlt (by rw [size_of]; omega) HON.out))
        clear hO
        go_wp2_with fail
        exact bodyPost_ret (v := .tuple #[.agg #[.bool false, .string ⟨#[]⟩], .int .i64 s.size, .int .i64 20]) (by simp [results, Tryd.results71, go_sem, c0, c1]) rfl (take_post_bad HZ.out (by rw [size_of]) ((hbr.setCell (Nat.le_refl _) _).setCell (Nat.le_refl _) _))
    · have hjk2 : j = k := by omega
      have r1 : decide ((j : Int) < (k : Int)) = false := by simp; omega
      have HM := Lib.hid (takeE_ok HE.out (magE_all (l := s.toList) (below := false) (f := f) (k := k) (by rw [size_of]; omega) (hjk2 ▸ HON.out)))
      have hcv := hO.conv 111 9 Tryd.underlying111 Tryd.underlying5 Tryd.underlying9
      rw [hjk2] at hcv
      clear hO
      go_wp2_with fail
      exact bodyPost_ret (v := .tuple #[.agg #[.bool false, .string ⟨(readL s.toList false f k).toArray⟩], .int .i64 ((f : Int) + (k : Int)), .int .i64 0]) (by simp [results, Tryd.results71, go_sem, c0, c1]) rfl (take_post_ok HM.out (by omega) rfl ((hbr.setCell (Nat.le_refl _) _).setCell (Nat.le_refl _) _))

set_option maxRecDepth 100000 in
set_option maxHeartbeats 4000000 in
theorem rtake_longm (s : ByteArray) (a : Nat) (w : World) (hs : s.size ≤ 9223372036854775807) (ha : a < s.size) (h1 : s[a].toNat = 1) (hl : a + 1 < s.size) (h2 : 126 < 255 - s[a + 1].toNat) : Calls Tryd.prog 71 #[.string s, .int .i64 a] w (TakePost s a w) := by
  have hc := s[a].toNat_lt
  have HE := Lib.hid (show sizeE s.toList a = .ok (255 - s[a + 1].toNat, true, a + 2) by simp [sizeE, at_some s a ha, at_some s (a + 1) hl, h1, h2])
  have q0 : decide ((a : Int) < (0 : Int)) = false := by simp
  have q1 : decide (s.size < a) = false := by simp; omega
  have q2 : ((a : Int) == (s.size : Int)) = false := by simp; omega
  have q3 : ((s[a].toNat : Int) == 0) = false := by simp; omega
  have q4 : ((s[a].toNat : Int) == 255) = false := by simp; omega
  have q5 : ((s[a].toNat : Int) == 1) = true := by simp; omega
  have q6 : decide ((s[a].toNat : Int) < 128) = true := by simp; omega
  have q8 : decide ((s[a].toNat : Int) - 128 < 0) = true := by simp; omega
  have hc2 := s[a + 1].toNat_lt
  have q7 : ((a : Int) + 1 == (s.size : Int)) = false := by simp; omega
  go_enter Tryd.func71, Tryd.ntmps71
  go_wp2_with fail
  obtain ⟨k, hk⟩ : ∃ k : Nat, 255 - s[a + 1].toNat = k := ⟨_, rfl⟩
  obtain ⟨f, hf⟩ : ∃ f : Nat, a + 2 = f := ⟨_, rfl⟩
  rw [hk, hf] at HE
  rw [show (255 - (s[a + 1].toNat : Int)) = (k : Int) by omega, show ((a : Int) + 1 + 1) = (f : Int) by omega]
  obtain ⟨g1, g2, g3⟩ := sizeE_ok HE.out
  rw [size_of] at g3
  go_loopw [10, 11] (fun v i wr => ∃ j : Nat, j ≤ k ∧ f + j ≤ s.size ∧ i = .int .i64 j ∧ OwnB wr (w.heap.size + 1) v (readL s.toList true f j) ∧ Below (w.heap.size + 1) (w.alloc (.cells #[.bool false, .string ⟨#[]⟩] 24)) wr ∧ w.heap.size + 1 ≤ wr.heap.size ∧
    RowKit.Hid (j = 0 ∨ OnE s.toList true f k)) (fun _ i _ => k - (intOf i).toNat)
  case atStart => exact ⟨0, Nat.zero_le _, by omega, rfl, by rw [readL_zero]; exact OwnB.nil _ _, Below.refl _ _, by simp, Lib.hid (.inl rfl)⟩
  case round =>
    obtain ⟨j, hjk, hfj, rfl, hO, hB, hsz, HON⟩ := hrel
    have hrl : (readL s.toList true f j).length = j := readL_length _ _ _ _ (by rw [size_of]; exact hfj)
    have c0 : wr.cell? ⟨w.heap.size, 0, none⟩ = some (.bool false) := (hB.cell (p := ⟨w.heap.size, 0, none⟩) (by simp)).trans (by simp)
    have c1 : wr.cell? ⟨w.heap.size, 1, none⟩ = some (.string ⟨#[]⟩) := (hB.cell (p := ⟨w.heap.size, 1, none⟩) (by simp)).trans (by simp)
    have z0 : wr.frozen? ⟨w.heap.size, 0, none⟩ = false := (hB.frozen (p := ⟨w.heap.size, 0, none⟩) (by simp)).trans (by simp)
    have z1 : wr.frozen? ⟨w.heap.size, 1, none⟩ = false := (hB.frozen (p := ⟨w.heap.size, 1, none⟩) (by simp)).trans (by simp)
    have hzr : w.heap.size < wr.heap.size := by omega
    have hbr : Below w.heap.size w wr := ((Below.refl _ w).alloc (Nat.le_refl _) _).trans (hB.mono (by omega))
    by_cases hlt : j < k
    · have r1 : decide ((j : Int) < (k : Int)) = true := by simpa using hlt
      by_cases hin : f + j < s.size
      · have r2 : ((f : Int) + (j : Int) == (s.size : Int)) = false := by simp; omega
        have hat := at_some s (f + j) hin
        have HS := Lib.hid (readL_succ s.toList true f j s[f + j] hat)
        have hcb := s[f + j].toNat_lt
        have hsb := Lib.hid (show ((fl true s[f + j]).toNat : Int) = 255 - (s[f + j].toNat : Int) from sub255 s[f + j])
        by_cases hj0 : j = 0
        · subst hj0
          have hin0 : f < s.size := hin
          have hat0 := at_some s f hin0
          have hcb0 := s[f].toNat_lt
          have r20 : ((f : Int) == (s.size : Int)) = false := by simp; omega
          have HS0 := Lib.hid (readL_succ s.toList true f 0 s[f] hat0)
          have hsb0 := Lib.hid (show ((fl true s[f]).toNat : Int) = 255 - (s[f].toNat : Int) from sub255 s[f])
          clear hat HS hsb hcb r2
          by_cases hz : fl true s[f] = 0
          · have hz0 : s[f].toNat = 255 := by have := congrArg UInt8.toNat hz; simp only [fl, if_true, sub255n] at this; have h0 : (0 : UInt8).toNat = 0 := rfl; omega
            have r4 : ((255 - (s[f].toNat : Int)) == 0) = true := by simp; omega
            have HZ := Lib.hid (takeE_mag HE.out (magE_zero (l := s.toList) (below := true) (f := f) (k := k) (by omega) hat0 hz))
            clear hat0 hO HS0 hsb0 hz hz0
            go_wp2_with fail
            exact bodyPost_ret (v := .tuple #[.agg #[.bool false, .string ⟨#[]⟩], .int .i64 f, .int .i64 20]) (by simp [results, Tryd.results71, go_sem, c0, c1]) rfl (take_post_bad HZ.out rfl ((hbr.setCell (Nat.le_refl _) _).setCell (Nat.le_refl _) _))
          · have hz0 : s[f].toNat ≠ 255 := fun e => hz (UInt8.toNat_inj.1 (by simp only [fl, if_true, sub255n, e]; rfl))
            have r4 : ((255 - (s[f].toNat : Int)) == 0) = false := by simp; omega
            have HN := Lib.hid (onE_first (l := s.toList) (below := true) (f := f) (k := k) (by omega) hat0 hz)
            clear hat0 hz hz0 c0 c1 z0 z1 hbr
            go_wp2_with (at_builtin; refine wpList_append_bytes rfl (.tmp 101) (.tmp 103) 111 rfl Tryd.underlying111 Tryd.info5 rfl (hO.alloc _) _ [fl true s[f]] 1 _ rfl rfl (bv_cells_oneI _ _ _ hsb0.out) (by omega) (hB.alloc hsz _) (by simp; omega) ?_; intro v7 w7 hO7 hB7 hs7)
            go_roundw
            case rel => exact ⟨1, by omega, by omega, by go_num, by rw [HS0.out]; exact hO7, hB7, hs7, Lib.hid (.inr HN.out)⟩
            case measure => simp [intOf]; omega
        · have r3 : ((j : Int) == 0) = false := by simp; omega
          have HN := Lib.hid (HON.out.resolve_left hj0)
          clear hat c0 c1 z0 z1 hbr
          go_wp2_with (at_builtin; refine wpList_append_bytes rfl (.tmp 101) (.tmp 103) 111 rfl Tryd.underlying111 Tryd.info5 rfl (hO.alloc _) _ [fl true s[f + j]] 1 _ rfl rfl (bv_cells_oneI _ _ _ hsb.out) (by omega) (hB.alloc hsz _) (by simp; omega) ?_; intro v7 w7 hO7 hB7 hs7)
          go_roundw
          case rel => exact ⟨j + 1, by omega, by omega, by go_num, by rw [HS.out]; exact hO7, hB7, hs7, Lib.hid (.inr HN.out)⟩
          case measure => simp [intOf]; omega
      · have r2 : ((f : Int) + (j : Int) == (s.size : Int)) = true := by simp; omega
        have HZ := Lib.hid (takeE_mag HE.out (magE_end (l := s.toList) (below := true) (f := f) hlt (by rw [size_of]; omega) HON.out))
        clear hO
        go_wp2_with fail
        exact bodyPost_ret (v := .tuple #[.agg #[.bool false, .string ⟨#[]⟩], .int .i64 s.size, .int .i64 20]) (by simp [results, Tryd.results71, go_sem, c0, c1]) rfl (take_post_bad HZ.out (by rw [size_of]) ((hbr.setCell (Nat.le_refl _) _).setCell (Nat.le_refl _) _))
    · have hjk2 : j = k := by omega
      have r1 : decide ((j : Int) < (k : Int)) = false := by simp; omega
      have HM := Lib.hid (takeE_ok HE.out (magE_all (l := s.toList) (below := true) (f := f) (k := k) (by rw [size_of]; omega) (hjk2 ▸ HON.out)))
      have hcv := hO.conv 111 9 Tryd.underlying111 Tryd.underlying5 Tryd.underlying9
      rw [hjk2] at hcv
      clear hO
      go_wp2_with fail
      exact bodyPost_ret (v := .tuple #[.agg #[.bool true, .string ⟨(readL s.toList true f k).toArray⟩], .int .i64 ((f : Int) + (k : Int)), .int .i64 0]) (by simp [results, Tryd.results71, go_sem, c0, c1]) rfl (take_post_ok HM.out (by omega) rfl ((hbr.setCell (Nat.le_refl _) _).setCell (Nat.le_refl _) _))

end Go.Proofs.YtcgphlilijeifaaDoor
end
