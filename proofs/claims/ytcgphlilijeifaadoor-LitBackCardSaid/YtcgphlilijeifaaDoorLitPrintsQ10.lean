import Derived.WalkKit
import Derived.Lib.SmallJoins
import Derived.ChangeMaps5
import Derived.Lib.AppendStr
import Derived.Test.YtcgphlilijeifaaDoorLitPrintsQ9
import Derived.Test.YtcgphlilijeifaaDoorLitPrintsQ3
import Derived.Test.YtcgphlilijeifaaDoorLitPrintsQ2
import Derived.Test.YtcgphlilijeifaaDoorLitPrintsQ1
import Derived.Test.YtcgphlilijeifaaDoorLitPrintsQ4
import Derived.Test.YtcgphlilijeifaaDoorLitPrintsQ8
section
/-
  The contract of nat.Take: any place of any bytes.
-/
namespace Go.Proofs.YtcgphlilijeifaaDoor
open Go.RowKit

/-- What Take tells of a place within the text. -/
def TakePost (s : ByteArray) (a : Nat) (w : World) (e : Ending) (w' : World) : Prop :=
  match takeE s.toList a with
  | .error p => e = .returned (.tuple #[.agg #[.bool false, .string ⟨#[]⟩], .int .i64 p, .int .i64 20]) ∧ Below w.heap.size w w'
  | .ok (below, m, f) => ∃ q : ByteArray, e = .returned (.tuple #[.agg #[.bool below, .string q], .int .i64 f, .int .i64 0]) ∧ Hid (q.toList = m) ∧ Below w.heap.size w w'
theorem take_post_bad {s : ByteArray} {a : Nat} {w w' : World} {p : Nat} {x : Int} (h : takeE s.toList a = .error p) (hx : x = p) (hb : Below w.heap.size w w') :
    TakePost s a w (.returned (.tuple #[.agg #[.bool false, .string ⟨#[]⟩], .int .i64 x, .int .i64 20])) w' := by
  unfold TakePost
  rw [h, hx]
  exact ⟨rfl, hb⟩

/-- The results' places, as they were made. -/
structure Res (g : Nat) (w : World) : Prop where
  c0 : w.cell? ⟨g, 0, none⟩ = some (.bool false)
  c1 : w.cell? ⟨g, 1, none⟩ = some (.string ⟨#[]⟩)
  c2 : w.cell? ⟨g + 1, 0, none⟩ = some (.int .i64 0)
  c3 : w.cell? ⟨g + 2, 0, none⟩ = some (.int .i64 0)
  z0 : w.frozen? ⟨g, 0, none⟩ = false
  z1 : w.frozen? ⟨g, 1, none⟩ = false
  z2 : w.frozen? ⟨g + 1, 0, none⟩ = false
  z3 : w.frozen? ⟨g + 2, 0, none⟩ = false
theorem Res.below {g : Nat} {w w' : World} (h : Res g w) (hb : Below (g + 3) w w') : Res g w' where
  c0 := (hb.cell (p := ⟨g, 0, none⟩) (by simp)).trans h.c0
  c1 := (hb.cell (p := ⟨g, 1, none⟩) (by simp)).trans h.c1
  c2 := (hb.cell (p := ⟨g + 1, 0, none⟩) (by simp)).trans h.c2
  c3 := (hb.cell (p := ⟨g + 2, 0, none⟩) (by simp)).trans h.c3
  z0 := (hb.frozen (p := ⟨g, 0, none⟩) (by simp)).trans h.z0
  z1 := (hb.frozen (p := ⟨g, 1, none⟩) (by simp)).trans h.z1
  z2 := (hb.frozen (p := ⟨g + 1, 0, none⟩) (by simp)).trans h.z2
  z3 := (hb.frozen (p := ⟨g + 2, 0, none⟩) (by simp)).trans h.z3
theorem catch_res (g : Nat) (x : Int) (w : World) (h : Res g w) :
    CallsD Tryd.prog 58 #[.pointer (some ⟨g, 0, none⟩), .pointer (some ⟨g + 1, 0, none⟩), .pointer (some ⟨g + 2, 0, none⟩)] (.panicking [{ v := .iface 116 (.agg #[.int .i64 x]), recovered := false }]) w fun e u' w' =>
      e = .returned (.tuple #[]) ∧ u' = .panicking [{ v := .iface 116 (.agg #[.int .i64 x]), recovered := true }] ∧
        w'.cell? ⟨g, 0, none⟩ = some (.bool false) ∧ w'.cell? ⟨g, 1, none⟩ = some (.string ⟨#[]⟩) ∧ w'.cell? ⟨g + 1, 0, none⟩ = some (.int .i64 x) ∧ w'.cell? ⟨g + 2, 0, none⟩ = some (.int .i64 20) ∧ Below g w w' :=
  catch_bad g x false ⟨#[]⟩ 0 0 w h.c0 h.c1 h.c2 h.c3 h.z0 h.z1 h.z2 h.z3

theorem wpList_append_bytes3 {P : Program} {ops : Array Oper} {rest : List Oper} {o : Oper} {a : Act} {Q : Exit → Act → World → Prop} {w : World} (hgd : o.guard = none) (s x : Operand) (t : TypeId)
    (ho : o.op = .call { callee := .builtin .append, args := #[s, x], argTypes := #[t, t] })
    (ht : P.underlying t = some (.slice 5)) (hinfo : (P.info? 5).map (fun i => (i.zero, i.size, i.bytes)) = some (some (.int .u8 0), 1, 1))
    {base : Nat} {v : Value} {l : List UInt8} (hs : a.eval s = v) (hown : OwnB w base v l)
    (ad : Addr) (m : List UInt8) (k c : Nat) (hk : m.length = k) (hx : a.eval x = .slice (some ad) k c) (hnews : ∀ j u, (bv m)[j]? = some u → w.cell? (ad.add j) = some u)
    (hlen : l.length + k ≤ 140737488355328) (hbase : base ≤ w.heap.size)
    (h : ∀ v' w', OwnB w' base v' (l ++ m) → w.grownBy w' v.ownBlock → wpList P ops Q rest (a.put o.dst v') w') : wpList P ops Q (o :: rest) a w := by
  subst hk
  obtain ⟨i0, hi, hz0, hz1, hz2⟩ := info_parts hinfo
  refine wpList_append_own w hgd s x t ho base 5 i0 (.int .u8 0) 1 1 ht hi hz0 hz1 hz2 rfl (by decide) v l.length (bv l) hs hown ad m.length c (bv m) hx (by simp [bv_length]) hnews (bv_one m) (by unfold maxLen; omega) (by omega) hbase ?_
  intro v' w' ho' hg _
  refine h v' w' ?_ hg
  unfold OwnB
  rw [bv_append] at ho'
  simpa using ho'
theorem Rd.alloc {w : World} {b : Nat} {s : ByteArray} {a : Nat} (h : Rd w b s a) (o : Obj) : Rd (w.alloc o) b s a := (Below.heap_alloc w o b (Blk.lt h)).trans h
theorem Rd.grown {w w' : World} {b : Nat} {s : ByteArray} {a : Nat} {base : Nat} {v : Value} {l : List UInt8} (h : Rd w b s a) (hO : OwnB w base v l) (hb : b < base) (hg : w.grownBy w' v.ownBlock) : Rd w' b s a :=
  (hg.block b (Blk.lt h) (fun e => by have := (World.ownsRow.lt hO b e.symm).1; omega)).trans h

set_option maxRecDepth 100000 in
theorem take_no (s : ByteArray) (i : Int) (w : World) (_hs : s.size ≤ 9223372036854775807) (h : i < 0 ∨ (s.size : Int) < i) :
    Calls Tryd.prog 25 #[.string s, .int .i64 i] w fun e w' => e = .returned (.tuple #[.agg #[.bool false, .string ⟨#[]⟩], .int .i64 0, .int .i64 1]) ∧ Below w.heap.size w w' := by
  have hb : Below w.heap.size w (((w.alloc (.cells #[.bool false, .string ⟨#[]⟩] 24)).alloc (.cells #[.int .i64 0] 3)).alloc (.cells #[.int .i64 1] 30)) :=
    (((Below.refl _ w).alloc (Nat.le_refl _) _).alloc (by simp) _).alloc (by simp; omega) _
  rcases (show i < 0 ∨ (¬ i < 0 ∧ (s.size : Int) < i) by omega) with h0 | ⟨h0, h1⟩
  · have q : decide (i < (0 : Int)) = true := by simpa using h0
    go_enter_defers Tryd.func25, Tryd.ntmps25
    go_wp2
    exact ⟨.tuple #[.agg #[.bool false, .string ⟨#[]⟩], .int .i64 0, .int .i64 1], by simp [results, Tryd.results25, go_sem], rfl, hb⟩
  · have q : decide (i < (0 : Int)) = false := by simpa using h0
    have q2 : decide ((s.size : Int) < i) = true := by simpa using h1
    go_enter_defers Tryd.func25, Tryd.ntmps25
    go_wp2
    exact ⟨.tuple #[.agg #[.bool false, .string ⟨#[]⟩], .int .i64 0, .int .i64 1], by simp [results, Tryd.results25, go_sem], rfl, hb⟩

theorem takeE_size {l : List UInt8} {a p : Nat} (h : sizeE l a = .error p) : takeE l a = .error p := by simp [takeE, h]
theorem takeE_mag {l : List UInt8} {a k f p : Nat} {below : Bool} (h : sizeE l a = .ok (k, below, f)) (h2 : magE l below f k = .error p) : takeE l a = .error p := by simp [takeE, h, h2]
theorem takeE_ok {l m : List UInt8} {a k f : Nat} {below : Bool} (h : sizeE l a = .ok (k, below, f)) (h2 : magE l below f k = .ok m) : takeE l a = .ok (below, m, f + k) := by simp [takeE, h, h2]

/-- Out with a number: the closure is idle. -/
theorem leaves_good (s : ByteArray) (a : Nat) (w : World) (tmps : Array Value) (x : Int) (below : Bool) (q : ByteArray) {w1 : World} {m : List UInt8} {f : Nat} (h4 : tmps.getD 4 undef = .pointer (some ⟨w.heap.size, 0, none⟩)) (h5 : tmps.getD 5 undef = .pointer (some ⟨w.heap.size + 1, 0, none⟩))
    (h6 : tmps.getD 6 undef = .pointer (some ⟨w.heap.size + 2, 0, none⟩)) (d0 : w1.cell? ⟨w.heap.size, 0, none⟩ = some (.bool below)) (d1 : w1.cell? ⟨w.heap.size, 1, none⟩ = some (.string q)) (d2 : w1.cell? ⟨w.heap.size + 1, 0, none⟩ = some (.int .i64 x)) (d3 : w1.cell? ⟨w.heap.size + 2, 0, none⟩ = some (.int .i64 0))
    (hE : takeE s.toList a = .ok (below, m, f)) (hq : q.data.toList = m) (hx : x = f) (hb : Below w.heap.size w w1) :
    Leaves Tryd.prog Tryd.f25 tmps (TakePost s a w) [{ target := .fn (.func 58) #[.pointer (some ⟨w.heap.size, 0, none⟩), .pointer (some ⟨w.heap.size + 1, 0, none⟩), .pointer (some ⟨w.heap.size + 2, 0, none⟩)], args := #[] }] .returning w1 := by
  refine leaves_cons (f := 58) (args := #[.pointer (some ⟨w.heap.size, 0, none⟩), .pointer (some ⟨w.heap.size + 1, 0, none⟩), .pointer (some ⟨w.heap.size + 2, 0, none⟩)]) (by simp) (by simp [go_sem]) ?_
  refine (catch_idle _ _ _ w1).mono ?_
  rintro e u' w2 ⟨rfl, rfl, rfl⟩
  refine ⟨.tuple #[.agg #[.bool below, .string q], .int .i64 x, .int .i64 0], ?_, ?_⟩
  · simp only [Array.getD_eq_getD_getElem?] at h4 h5 h6
    simp [results, Tryd.results25, go_sem, h4, h5, h6, d0, d1, d2, d3]
  · unfold TakePost
    rw [hE, hx]
    exact ⟨q, rfl, Lib.hid (by rw [Lib.toList_data]; exact hq), hb⟩
theorem app_below {W w2 w3 : World} {o : Obj} {v : Value} {l : List UInt8} {B : Nat} (hB : Below B W w2) (hs : B + 1 ≤ w2.heap.size) (hO : OwnB w2 (B + 1) v l) (hg : (w2.alloc o).grownBy w3 v.ownBlock) : Below B W w3 :=
  (hB.alloc (by omega) o).grown hg (by simp; omega) (fun q hq => by have := (World.ownsRow.lt hO q hq).1; omega)

/-- Out by the panic at a place: the closure catches it. -/
theorem leaves_bad (s : ByteArray) (a : Nat) (w : World) (tmps : Array Value) (x : Int) {W w1 : World} {p : Nat} (h4 : tmps.getD 4 undef = .pointer (some ⟨w.heap.size, 0, none⟩)) (h5 : tmps.getD 5 undef = .pointer (some ⟨w.heap.size + 1, 0, none⟩))
    (h6 : tmps.getD 6 undef = .pointer (some ⟨w.heap.size + 2, 0, none⟩)) (hRes : Res w.heap.size W) (hb1 : Below (w.heap.size + 3) W w1) (hBel : Below w.heap.size w W) (hE : takeE s.toList a = .error p) (hx : x = p) :
    Leaves Tryd.prog Tryd.f25 tmps (TakePost s a w) [{ target := .fn (.func 58) #[.pointer (some ⟨w.heap.size, 0, none⟩), .pointer (some ⟨w.heap.size + 1, 0, none⟩), .pointer (some ⟨w.heap.size + 2, 0, none⟩)], args := #[] }] (.panicking [{ v := .iface 116 (.agg #[.int .i64 x]), recovered := false }]) w1 := by
  refine leaves_cons (f := 58) (args := #[.pointer (some ⟨w.heap.size, 0, none⟩), .pointer (some ⟨w.heap.size + 1, 0, none⟩), .pointer (some ⟨w.heap.size + 2, 0, none⟩)]) (by simp) (by simp [go_sem]) ?_
  refine (catch_res w.heap.size x w1 (hRes.below hb1)).mono ?_
  rintro e u' w2 ⟨rfl, rfl, d0, d1, d2, d3, hb2⟩
  refine ⟨.tuple #[.agg #[.bool false, .string ⟨#[]⟩], .int .i64 x, .int .i64 20], ?_, take_post_bad hE hx ((hBel.trans (hb1.mono (by omega))).trans hb2)⟩
  simp only [Array.getD_eq_getD_getElem?] at h4 h5 h6
  simp [results, Tryd.results25, go_sem, h4, h5, h6, d0, d1, d2, d3]

set_option maxRecDepth 100000 in
set_option maxHeartbeats 2000000 in
theorem take_at (s : ByteArray) (a : Nat) (w : World) (hs : s.size ≤ 9223372036854775807) (ha : a ≤ s.size) :
    Calls Tryd.prog 25 #[.string s, .int .i64 a] w (TakePost s a w) := by
  have q : decide ((a : Int) < (0 : Int)) = false := by simp
  have q2 : decide ((s.size : Int) < (a : Int)) = false := by simp; omega
  have hmf : ∀ (fn : Fn) (first cap : Array Value) (w : World), (Instr.makeFunc fn first cap).run Tryd.prog w = .ok (.func fn first cap) w := fun _ _ _ _ => rfl
  obtain ⟨W, hW⟩ : ∃ W : World, W = ((((w.alloc (.cells #[.bool false, .string ⟨#[]⟩] 24)).alloc (.cells #[.int .i64 0] 3)).alloc (.cells #[.int .i64 0] 30)).alloc (.cells #[.string s, .int .i64 a] 120)) := ⟨_, rfl⟩
  have hRes : Res w.heap.size W := by
    subst hW
    exact ⟨by simp [go_sem], by simp [go_sem], by simp [go_sem], by simp [go_sem], by simp [go_sem], by simp [go_sem], by simp [go_sem], by simp [go_sem]⟩
  have hRd : Rd W (w.heap.size + 1 + 1 + 1) s a := by
    subst hW
    have := Blk.new (((w.alloc (.cells #[.bool false, .string ⟨#[]⟩] 24)).alloc (.cells #[.int .i64 0] 3)).alloc (.cells #[.int .i64 0] 30)) 120 #[.string s, .int .i64 a]
    simpa [Rd] using this
  have hBel : Below w.heap.size w W := by
    subst hW
    exact ((((Below.refl _ w).alloc (Nat.le_refl _) _).alloc (by simp) _).alloc (by simp; omega) _).alloc (by simp; omega) _
  have hWs : W.heap.size = w.heap.size + 4 := by subst hW; simp
  go_enter_defers Tryd.func25, Tryd.ntmps25
  go_wp2_with fail
  rw [← hW]
  clear hW
  refine (size_any _ s a W hRd ha hs).mono ?_
  rintro e w1 hp
  unfold SizePost at hp
  generalize hE : sizeE s.toList a = E at hp
  cases E with
  | error p =>
    obtain ⟨rfl, hm⟩ := hp
    have hb1 : Below (w.heap.size + 3) W w1 := hm.below (Nat.le_refl _)
    exact leaves_bad _ _ _ _ _ rfl rfl rfl hRes hb1 hBel (takeE_size hE) rfl
  | ok r =>
    obtain ⟨k, below, f⟩ := r
    obtain ⟨rfl, hrd, hm⟩ := hp
    obtain ⟨hk, hf, hfl⟩ := sizeE_ok hE
    rw [size_of] at hfl
    have HE := Lib.hid hE
    have hb1 : Below (w.heap.size + 3) W w1 := hm.below (Nat.le_refl _)
    have hs1 : w.heap.size + 4 ≤ w1.heap.size := hWs ▸ hm.size
    clear hE hm
    go_wp2_with fail
    go_loopw [10, 11, 12, 33] (fun v _ _ i wr => ∃ j : Nat, j ≤ k ∧ f + j ≤ s.size ∧ i = .int .i64 j ∧ OwnB wr (w.heap.size + 4) v (readL s.toList below f j) ∧ Rd wr (w.heap.size + 1 + 1 + 1) s (f + j) ∧ Below (w.heap.size + 3) W wr ∧ w.heap.size + 4 ≤ wr.heap.size ∧
      RowKit.Hid (j = 0 ∨ OnE s.toList below f k)) (fun _ _ _ i _ => k - (intOf i).toNat)
    case atStart => exact ⟨0, Nat.zero_le _, by omega, rfl, by rw [readL_zero]; exact OwnB.nil _ _, hrd, hb1, hs1, Lib.hid (.inl rfl)⟩
    case round =>
      clear hrd hb1 hs1
      obtain ⟨j, hjk, hfj, rfl, hO, hrd, hB, hsz, HON⟩ := hrel
      have hrl : (readL s.toList below f j).length = j := readL_length _ _ _ _ (by rw [size_of]; exact hfj)
      by_cases hlt : j < k
      · by_cases hin : f + j < s.size
        · have hat := at_some s (f + j) hin
          have cN := next_ok _ s (f + j) wr hrd hin hs
          obtain ⟨c, hc⟩ : ∃ c, s[f + j] = c := ⟨_, rfl⟩
          rw [hc] at hat cN
          clear hc
          have hcb := c.toNat_lt
          have HS := Lib.hid (readL_succ s.toList below f j c hat)
          cases below
          · by_cases hj0 : j = 0
            · by_cases hz : fl false c = 0
              · have hz0 : c.toNat = 0 := by have := congrArg UInt8.toNat hz; simpa [fl] using this
                have q3 : decide ((0 : Int) < (j : Int)) = false := by simp; omega
                have q4 : (((c.toNat : Int)) != 0) = false := by simp; omega
                have HZ := Lib.hid (magE_zero (l := s.toList) (below := false) (f := f) (k := k) (by omega) (by simpa [hj0] using hat) hz)
                clear hat
                go_wp2_with fail
                refine cN.mono ?_
                rintro e w2 ⟨rfl, hr2, hm2⟩
                have c1 : w2.cell? ⟨w.heap.size + 1 + 1 + 1, 1, none⟩ = some (.int .i64 ((f + j + 1 : Nat) : Int)) := hr2.cell 1
                have hO2 := hO.mv (b := w.heap.size + 1 + 1 + 1) (by omega) hm2
                have hB2 : Below (w.heap.size + 3) W w2 := hB.trans (hm2.below (Nat.le_refl _))
                have hs2 : w.heap.size + 4 ≤ w2.heap.size := Nat.le_trans hsz hm2.size
                have hsb := Lib.hid (show ((fl false c).toNat : Int) = (c.toNat : Int) from rfl)
                go_wp2_with fail
                refine (must_no _ _).mono ?_
                rintro e w3 ⟨rfl, rfl⟩
                exact leaves_bad _ _ _ _ _ rfl rfl rfl hRes hB2 hBel (takeE_mag HE.out (HZ.out)) (by omega)
              · have hz0 : c.toNat ≠ 0 := fun e => hz (UInt8.toNat_inj.1 (by simp only [fl, Bool.false_eq_true, if_false, e]; rfl))
                have q3 : decide ((0 : Int) < (j : Int)) = false := by simp; omega
                have q4 : (((c.toNat : Int)) != 0) = true := by simp; omega
                have HN := Lib.hid (onE_first (l := s.toList) (below := false) (f := f) (k := k) (by omega) (by simpa [hj0] using hat) hz)
                clear hat
                go_wp2_with fail
                refine cN.mono ?_
                rintro e w2 ⟨rfl, hr2, hm2⟩
                have c1 : w2.cell? ⟨w.heap.size + 1 + 1 + 1, 1, none⟩ = some (.int .i64 ((f + j + 1 : Nat) : Int)) := hr2.cell 1
                have hO2 := hO.mv (b := w.heap.size + 1 + 1 + 1) (by omega) hm2
                have hB2 : Below (w.heap.size + 3) W w2 := hB.trans (hm2.below (Nat.le_refl _))
                have hs2 : w.heap.size + 4 ≤ w2.heap.size := Nat.le_trans hsz hm2.size
                have hsb := Lib.hid (show ((fl false c).toNat : Int) = (c.toNat : Int) from rfl)
                go_wp2_with fail
                refine (must_yes _ _).mono ?_
                rintro e w3 ⟨rfl, rfl⟩
                go_wp2_with (at_builtin; refine wpList_append_bytes3 rfl (.tmp 53) (.tmp 55) 111 rfl Tryd.underlying111 Tryd.info5 rfl (hO2.alloc _) _ [fl false c] 1 _ rfl rfl (bv_cells_oneI _ _ _ hsb.out) (by omega) (by simp; omega) ?_; intro v3 w3 hO3 hg3)
                go_roundw
                case rel =>
                  exact ⟨j + 1, by omega, by omega, by go_num, by rw [HS.out]; exact hO3, Rd.grown (hr2.alloc _) (hO2.alloc _) (by omega) hg3, app_below hB2 hs2 hO2 hg3, Nat.le_trans (by simp; omega) hg3.size, Lib.hid (.inr HN.out)⟩
                case measure => simp [intOf]; omega
            · have q3 : decide ((0 : Int) < (j : Int)) = true := by simp; omega
              have HN := Lib.hid (HON.out.resolve_left (by omega))
              clear hat
              go_wp2_with fail
              refine cN.mono ?_
              rintro e w2 ⟨rfl, hr2, hm2⟩
              have c1 : w2.cell? ⟨w.heap.size + 1 + 1 + 1, 1, none⟩ = some (.int .i64 ((f + j + 1 : Nat) : Int)) := hr2.cell 1
              have hO2 := hO.mv (b := w.heap.size + 1 + 1 + 1) (by omega) hm2
              have hB2 : Below (w.heap.size + 3) W w2 := hB.trans (hm2.below (Nat.le_refl _))
              have hs2 : w.heap.size + 4 ≤ w2.heap.size := Nat.le_trans hsz hm2.size
              have hsb := Lib.hid (show ((fl false c).toNat : Int) = (c.toNat : Int) from rfl)
              go_wp2_with fail
              refine (must_yes _ _).mono ?_
              rintro e w3 ⟨rfl, rfl⟩
              go_wp2_with (at_builtin; refine wpList_append_bytes3 rfl (.tmp 53) (.tmp 55) 111 rfl Tryd.underlying111 Tryd.info5 rfl (hO2.alloc _) _ [fl false c] 1 _ rfl rfl (bv_cells_oneI _ _ _ hsb.out) (by omega) (by simp; omega) ?_; intro v3 w3 hO3 hg3)
              go_roundw
              case rel =>
                exact ⟨j + 1, by omega, by omega, by go_num, by rw [HS.out]; exact hO3, Rd.grown (hr2.alloc _) (hO2.alloc _) (by omega) hg3, app_below hB2 hs2 hO2 hg3, Nat.le_trans (by simp; omega) hg3.size, Lib.hid (.inr HN.out)⟩
              case measure => simp [intOf]; omega
          · by_cases hj0 : j = 0
            · by_cases hz : fl true c = 0
              · have hz0 : c.toNat = 255 := by have := congrArg UInt8.toNat hz; simp only [fl, if_true, sub255n] at this; have h0 : (0 : UInt8).toNat = 0 := rfl; omega
                have q3 : decide ((0 : Int) < (j : Int)) = false := by simp; omega
                have q4 : ((255 - (c.toNat : Int)) != 0) = false := by simp; omega
                have HZ := Lib.hid (magE_zero (l := s.toList) (below := true) (f := f) (k := k) (by omega) (by simpa [hj0] using hat) hz)
                clear hat
                go_wp2_with fail
                refine cN.mono ?_
                rintro e w2 ⟨rfl, hr2, hm2⟩
                have c1 : w2.cell? ⟨w.heap.size + 1 + 1 + 1, 1, none⟩ = some (.int .i64 ((f + j + 1 : Nat) : Int)) := hr2.cell 1
                have hO2 := hO.mv (b := w.heap.size + 1 + 1 + 1) (by omega) hm2
                have hB2 : Below (w.heap.size + 3) W w2 := hB.trans (hm2.below (Nat.le_refl _))
                have hs2 : w.heap.size + 4 ≤ w2.heap.size := Nat.le_trans hsz hm2.size
                have hsb := Lib.hid (show ((fl true c).toNat : Int) = 255 - (c.toNat : Int) from sub255 c)
                go_wp2_with fail
                refine (must_no _ _).mono ?_
                rintro e w3 ⟨rfl, rfl⟩
                exact leaves_bad _ _ _ _ _ rfl rfl rfl hRes hB2 hBel (takeE_mag HE.out (HZ.out)) (by omega)
              · have hz0 : c.toNat ≠ 255 := fun e => hz (UInt8.toNat_inj.1 (by simp only [fl, if_true, sub255n, e]; rfl))
                have q3 : decide ((0 : Int) < (j : Int)) = false := by simp; omega
                have q4 : ((255 - (c.toNat : Int)) != 0) = true := by simp; omega
                have HN := Lib.hid (onE_first (l := s.toList) (below := true) (f := f) (k := k) (by omega) (by simpa [hj0] using hat) hz)
                clear hat
                go_wp2_with fail
                refine cN.mono ?_
                rintro e w2 ⟨rfl, hr2, hm2⟩
                have c1 : w2.cell? ⟨w.heap.size + 1 + 1 + 1, 1, none⟩ = some (.int .i64 ((f + j + 1 : Nat) : Int)) := hr2.cell 1
                have hO2 := hO.mv (b := w.heap.size + 1 + 1 + 1) (by omega) hm2
                have hB2 : Below (w.heap.size + 3) W w2 := hB.trans (hm2.below (Nat.le_refl _))
                have hs2 : w.heap.size + 4 ≤ w2.heap.size := Nat.le_trans hsz hm2.size
                have hsb := Lib.hid (show ((fl true c).toNat : Int) = 255 - (c.toNat : Int) from sub255 c)
                go_wp2_with fail
                refine (must_yes _ _).mono ?_
                rintro e w3 ⟨rfl, rfl⟩
                go_wp2_with (at_builtin; refine wpList_append_bytes3 rfl (.tmp 53) (.tmp 55) 111 rfl Tryd.underlying111 Tryd.info5 rfl (hO2.alloc _) _ [fl true c] 1 _ rfl rfl (bv_cells_oneI _ _ _ hsb.out) (by omega) (by simp; omega) ?_; intro v3 w3 hO3 hg3)
                go_roundw
                case rel =>
                  exact ⟨j + 1, by omega, by omega, by go_num, by rw [HS.out]; exact hO3, Rd.grown (hr2.alloc _) (hO2.alloc _) (by omega) hg3, app_below hB2 hs2 hO2 hg3, Nat.le_trans (by simp; omega) hg3.size, Lib.hid (.inr HN.out)⟩
                case measure => simp [intOf]; omega
            · have q3 : decide ((0 : Int) < (j : Int)) = true := by simp; omega
              have HN := Lib.hid (HON.out.resolve_left (by omega))
              clear hat
              go_wp2_with fail
              refine cN.mono ?_
              rintro e w2 ⟨rfl, hr2, hm2⟩
              have c1 : w2.cell? ⟨w.heap.size + 1 + 1 + 1, 1, none⟩ = some (.int .i64 ((f + j + 1 : Nat) : Int)) := hr2.cell 1
              have hO2 := hO.mv (b := w.heap.size + 1 + 1 + 1) (by omega) hm2
              have hB2 : Below (w.heap.size + 3) W w2 := hB.trans (hm2.below (Nat.le_refl _))
              have hs2 : w.heap.size + 4 ≤ w2.heap.size := Nat.le_trans hsz hm2.size
              have hsb := Lib.hid (show ((fl true c).toNat : Int) = 255 - (c.toNat : Int) from sub255 c)
              go_wp2_with fail
              refine (must_yes _ _).mono ?_
              rintro e w3 ⟨rfl, rfl⟩
              go_wp2_with (at_builtin; refine wpList_append_bytes3 rfl (.tmp 53) (.tmp 55) 111 rfl Tryd.underlying111 Tryd.info5 rfl (hO2.alloc _) _ [fl true c] 1 _ rfl rfl (bv_cells_oneI _ _ _ hsb.out) (by omega) (by simp; omega) ?_; intro v3 w3 hO3 hg3)
              go_roundw
              case rel =>
                exact ⟨j + 1, by omega, by omega, by go_num, by rw [HS.out]; exact hO3, Rd.grown (hr2.alloc _) (hO2.alloc _) (by omega) hg3, app_below hB2 hs2 hO2 hg3, Nat.le_trans (by simp; omega) hg3.size, Lib.hid (.inr HN.out)⟩
              case measure => simp [intOf]; omega
        · have heq : f + j = s.size := by omega
          rw [heq] at hrd
          have HZ := Lib.hid (magE_end (l := s.toList) (below := below) (f := f) hlt (by rw [size_of]; exact heq) HON.out)
          go_wp2_with fail
          refine (next_no _ s _ hrd hs).mono ?_
          rintro e w2 ⟨rfl, hm2⟩
          have hB2 : Below (w.heap.size + 3) W w2 := hB.trans (hm2.below (Nat.le_refl _))
          exact leaves_bad _ _ _ _ _ rfl rfl rfl hRes hB2 hBel (takeE_mag HE.out (HZ.out)) (by rw [size_of])
      · have hjk2 : j = k := by omega
        have HM := Lib.hid (magE_all (l := s.toList) (below := below) (f := f) (k := k) (by rw [size_of]; omega) (hjk2 ▸ HON.out))
        have hres := hRes.below hB
        obtain ⟨r0, r1, r2, r3, r4, r5, r6, r7⟩ := hres
        have c1 : wr.cell? ⟨w.heap.size + 1 + 1 + 1, 1, none⟩ = some (.int .i64 ((f + j : Nat) : Int)) := hrd.cell 1
        have hcv := hO.drew.conv 111 9 Tryd.underlying111 Tryd.underlying5 Tryd.underlying9
        subst hjk2
        have k0 : w.heap.size < wr.heap.size := by omega
        have k1 : w.heap.size + 1 < wr.heap.size := by omega
        have k2 : w.heap.size + 2 < wr.heap.size := by omega
        clear hO hrd hrl
        go_wp2_with fail
        go_region
        go_wp2_with fail
        have hcells : ∀ (x : Int), ((((wr.setCell ⟨w.heap.size, 0, none⟩ (.bool below)).setCell ⟨w.heap.size, 1, none⟩ (.string ⟨(readL s.toList below f j).toArray⟩)).setCell ⟨w.heap.size + 1, 0, none⟩ (.int .i64 x)).setCell ⟨w.heap.size + 1 + 1, 0, none⟩ (.int .i64 0)).cell? ⟨w.heap.size, 0, none⟩ = some (.bool below) ∧
            ((((wr.setCell ⟨w.heap.size, 0, none⟩ (.bool below)).setCell ⟨w.heap.size, 1, none⟩ (.string ⟨(readL s.toList below f j).toArray⟩)).setCell ⟨w.heap.size + 1, 0, none⟩ (.int .i64 x)).setCell ⟨w.heap.size + 1 + 1, 0, none⟩ (.int .i64 0)).cell? ⟨w.heap.size, 1, none⟩ = some (.string ⟨(readL s.toList below f j).toArray⟩) ∧
            ((((wr.setCell ⟨w.heap.size, 0, none⟩ (.bool below)).setCell ⟨w.heap.size, 1, none⟩ (.string ⟨(readL s.toList below f j).toArray⟩)).setCell ⟨w.heap.size + 1, 0, none⟩ (.int .i64 x)).setCell ⟨w.heap.size + 1 + 1, 0, none⟩ (.int .i64 0)).cell? ⟨w.heap.size + 1, 0, none⟩ = some (.int .i64 x) ∧
            ((((wr.setCell ⟨w.heap.size, 0, none⟩ (.bool below)).setCell ⟨w.heap.size, 1, none⟩ (.string ⟨(readL s.toList below f j).toArray⟩)).setCell ⟨w.heap.size + 1, 0, none⟩ (.int .i64 x)).setCell ⟨w.heap.size + 1 + 1, 0, none⟩ (.int .i64 0)).cell? ⟨w.heap.size + 2, 0, none⟩ = some (.int .i64 0) :=
          fun x => ⟨by simp [go_sem, r0], by simp [go_sem, r1], by simp [go_sem, r2], by simp [go_sem, r3]⟩
        exact leaves_good _ _ _ _ _ _ _ rfl rfl rfl (hcells _).1 (hcells _).2.1 (hcells _).2.2.1 (hcells _).2.2.2 (takeE_ok HE.out HM.out) rfl (by omega)
          (((((hBel.trans (hB.mono (by omega))).setCell (Nat.le_refl _) _).setCell (Nat.le_refl _) _).setCell (Nat.le_succ _) _).setCell (by simp; omega) _).drew
end Go.Proofs.YtcgphlilijeifaaDoor
end
section
/-
  The document's examples, walked.
-/
namespace Go.Proofs.YtcgphlilijeifaaDoor
open Go.RowKit

theorem of_list {q : ByteArray} {l : List UInt8} (h : q.toList = l) : q = ⟨l.toArray⟩ := ba_eq (by rw [← Lib.toList_data, h])

theorem l10 : (⟨#[1, 0]⟩ : ByteArray).toList = [1, 0] := by rw [ByteArray.toList_mk]
theorem l256 : (⟨#[45, 50, 53, 54]⟩ : ByteArray).toList = [45, 50, 53, 54] := by rw [ByteArray.toList_mk]
theorem l97 : (⟨#[97, 126, 254, 255]⟩ : ByteArray).toList = [97, 126, 254, 255] := by rw [ByteArray.toList_mk]

theorem parse256 (w : World) : Calls Tryd.prog 26 #[.string ⟨#[45, 50, 53, 54]⟩] w fun e w' => e = .returned (.tuple #[.agg #[.bool true, .string ⟨#[1, 0]⟩], .int .i64 0]) ∧ Below w.heap.size w w' := by
  refine (parse_any ⟨#[45, 50, 53, 54]⟩ w (by decide)).mono ?_
  rintro e w' ⟨q, rfl, hq, hb⟩
  rw [l256] at hq ⊢
  have h1 : parseE [45, 50, 53, 54] = 0 := by kernel_rfl
  have h2 : magN (dv (ds [45, 50, 53, 54])) = [1, 0] := by kernel_rfl
  have hq' := hq.out
  rw [if_pos h1, h2] at hq'
  obtain rfl := of_list hq'
  rw [h1]
  exact ⟨rfl, hb⟩
theorem put256 (w : World) : Calls Tryd.prog 23 #[.agg #[.bool true, .string ⟨#[1, 0]⟩]] w fun e w' => e = .returned (.tuple #[.string ⟨#[126, 254, 255]⟩, .int .i64 0]) ∧ Below w.heap.size w w' := by
  refine (put_ok true ⟨#[1, 0]⟩ w (by rw [l10]; kernel_rfl)).mono ?_
  rintro e w' ⟨q, rfl, hq, hb⟩
  rw [l10] at hq
  have h2 : putBytes true [1, 0] = [126, 254, 255] := by kernel_rfl
  have hq' := hq.out
  rw [h2] at hq'
  obtain rfl := of_list hq'
  exact ⟨rfl, hb⟩
theorem take256 (w : World) : Calls Tryd.prog 25 #[.string ⟨#[97, 126, 254, 255]⟩, .int .i64 1] w fun e w' => e = .returned (.tuple #[.agg #[.bool true, .string ⟨#[1, 0]⟩], .int .i64 4, .int .i64 0]) ∧ Below w.heap.size w w' := by
  refine (take_at ⟨#[97, 126, 254, 255]⟩ 1 w (by decide) (by decide)).mono ?_
  intro e w' h
  unfold TakePost at h
  rw [l97] at h
  have h2 : takeE [97, 126, 254, 255] 1 = .ok (true, [1, 0], 4) := by kernel_rfl
  rw [h2] at h
  obtain ⟨q, rfl, hq, hb⟩ := h
  obtain rfl := of_list hq.out
  exact ⟨rfl, hb⟩
theorem print256 (w : World) : Calls Tryd.prog 24 #[.agg #[.bool false, .string ⟨#[1, 0]⟩]] w fun e w' => e = .returned (.tuple #[.string ⟨#[50, 53, 54]⟩, .int .i64 0]) ∧ Below w.heap.size w w' := by
  refine (print_ok false ⟨#[1, 0]⟩ w (by rw [l10]; kernel_rfl)).mono ?_
  rintro e w' ⟨q, rfl, hq, hb⟩
  rw [l10] at hq
  have h2 : digitsOf false [1, 0] = [50, 53, 54] := by kernel_rfl
  have hq' := hq.out
  rw [h2] at hq'
  obtain rfl := of_list hq'
  exact ⟨rfl, hb⟩
theorem of256 (w : World) : Calls Tryd.prog 31 #[.int .i64 (-256)] w fun e w' => e = .returned (.agg #[.bool true, .string ⟨#[1, 0]⟩]) ∧ Below w.heap.size w w' := by
  refine (of_minus (-256) w (by decide) (by decide)).mono ?_
  rintro e w' ⟨q, rfl, hq, hb⟩
  have h2 : mag8 (Int.natAbs (-256)) = [1, 0] := by kernel_rfl
  have hq' := hq.out
  rw [h2] at hq'
  obtain rfl := of_list hq'
  exact ⟨rfl, hb⟩
theorem small256 (w : World) : Calls Tryd.prog 32 #[.agg #[.bool true, .string ⟨#[1, 0]⟩]] w fun e w' => e = .returned (.tuple #[.int .i64 (-256), .bool true]) ∧ Below w.heap.size w w' := by
  refine (small_any true ⟨#[1, 0]⟩ w (by decide) (-256, true) (by rw [l10]; kernel_rfl)).mono ?_
  rintro e w' ⟨rfl, hb⟩
  exact ⟨rfl, hb⟩

set_option maxRecDepth 100000 in
theorem awake_ok (w : World) : Calls Tryd.prog 21 #[] w fun e w' => e = .returned (.bool true) ∧ Below w.heap.size w w' := by
  have heq : ∀ w : World, (binOp .eql 24 (.agg #[.bool true, .string ⟨#[1, 0]⟩]) (.agg #[.bool true, .string ⟨#[1, 0]⟩])).run Tryd.prog w = .ok (.bool true) w := fun _ => by kernel_rfl
  go_enter Tryd.func21, Tryd.ntmps21
  go_wp2_with fail
  refine (parse256 _).mono ?_
  rintro e w1 ⟨rfl, hb1⟩
  go_wp2_with fail
  refine (put256 _).mono ?_
  rintro e w2 ⟨rfl, hb2⟩
  obtain ⟨c0, c1, hz, hbw⟩ := num_cells hb2
  go_wp2_with fail
  refine (take256 _).mono ?_
  rintro e w3 ⟨rfl, hb3⟩
  have c0' := keep hb3 c0
  have c1' := keep hb3 c1
  clear c0 c1
  have hx : w1.heap.size < w3.heap.size := by have := hb3.size; omega
  go_wp2_with fail
  refine (print256 _).mono ?_
  rintro e w4 ⟨rfl, hb4⟩
  obtain ⟨d0, d1, hz2, hbw2⟩ := num_cells hb4
  have c0 := (hbw2.cell (p := ⟨w1.heap.size, 0, none⟩) hx).trans c0'
  have c1 := (hbw2.cell (p := ⟨w1.heap.size, 1, none⟩) hx).trans c1'
  go_wp2_with fail
  refine (of256 _).mono ?_
  rintro e w5 ⟨rfl, hb5⟩
  go_wp2_with fail
  refine (small256 _).mono ?_
  rintro e w6 ⟨rfl, hb6⟩
  have c0'' := keep hb6 (keep hb5 c0)
  have c1'' := keep hb6 (keep hb5 c1)
  have d0'' := keep hb6 (keep hb5 d0)
  have d1'' := keep hb6 (keep hb5 d1)
  go_wp2
  go_ret
  exact ⟨rfl, two (two (two (two (two hb1 hbw) hb3) hbw2) hb5) hb6⟩
end Go.Proofs.YtcgphlilijeifaaDoor
end
section
/-
  A number among the arguments, opened.
-/
namespace Go.Proofs.YtcgphlilijeifaaDoor
open Go.ChangeShapes Go.WideShapes Go.ChangeAt Go.RowKit Go.Joins

set_option maxRecDepth 100000 in
theorem open_num {H : Type} {enc : TypeId × Value → H} {w : World} {base b0 : Nat} {sp : Nat → Bool} {held : Bool} {r : Reach} {v : Value} {d : DataW H} {ps : List MemPlace}
    (hval : Value.okWide Tryd.prog w r b0 24 v) (h : DataW.Trod enc Tryd.prog w base sp held 24 v d ps) : ∃ (b : Bool) (s : ByteArray), v = .agg #[.bool b, .string s] ∧ s.size ≤ maxLen := by
  obtain ⟨v0, v1, y0, y1, n, rfl, _, _, h0, h1⟩ := open_agg2 Tryd.underlying24 (by kernel_rfl) (by kernel_rfl) hval h
  obtain ⟨b, hb, _⟩ := DataW.trod_bool Tryd.underlying4 h0
  obtain ⟨s, hs, _, hm⟩ := DataW.trod_string Tryd.underlying9 h1
  obtain rfl : v0 = .bool b := by simpa using hb
  obtain rfl : v1 = .string s := by simpa using hs
  exact ⟨b, s, rfl, hm⟩
end Go.Proofs.YtcgphlilijeifaaDoor
end
section
/-
  The walk of the law NatOrder.
-/
namespace Go.Proofs.YtcgphlilijeifaaDoor
open Go.RowKit

/-- The law's own order. -/
theorem order_law (a b : ByteArray) (w : World) (r : Int) (hr : cmp a.toList b.toList = r) :
    Calls Tryd.prog 30 #[.string a, .string b] w fun e w' => e = .returned (.int .i64 r) ∧ w = w' := by
  have l1 : Op.bytesLess a.toList b.toList = decide (r = -1) := by rw [less_iff, hr]
  have l2 : (a.toList == b.toList) = decide (r = 0) := by rw [eq_iff, hr]
  have h3 := cmp_three a.toList b.toList
  rw [hr] at h3
  clear hr
  rcases h3 with h | h | h
  all_goals
    subst h
    simp only [Int.reduceNeg, Int.reduceEq, decide_true, decide_false] at l1 l2
    go_enter Tryd.func30, Tryd.ntmps30
    go_wp2
    go_ret
    exact ⟨rfl, rfl⟩
/-- Two numbers, as Go compares them. -/
theorem eql_num (x y : Bool) (a b : ByteArray) (E : Bool) (h : (x == y && a.toList == b.toList) = E) (w : World) : (binOp .eql 24 (.agg #[.bool x, .string a]) (.agg #[.bool y, .string b])).run Tryd.prog w = .ok (.bool E) w := by
  subst h
  by_cases hx : x = y <;> by_cases ha : a.toList = b.toList <;> simp [go_sem, hx, ha]

/-- Put, of any number. -/
theorem put_any (x : Bool) (a : ByteArray) (w : World) (ha : a.size ≤ 9223372036854775807) (r : Int) (hr : chk x a.toList = r) :
    Calls Tryd.prog 23 #[.agg #[.bool x, .string a]] w fun e w' => ∃ p : ByteArray, e = .returned (.tuple #[.string p, .int .i64 r]) ∧ Hid (if r = 0 then p.toList = putBytes x a.toList else p = ⟨#[]⟩) ∧ Below w.heap.size w w' := by
  by_cases h : r = 0
  · subst h
    exact (put_ok x a w hr).mono fun e w' ⟨p, he, hp, hb⟩ => ⟨p, he, Lib.hid (by rw [if_pos rfl]; exact hp.out), hb⟩
  · exact (put_bad x a w ha r hr (by simpa using h) (by simpa using h)).mono fun e w' ⟨he, hb⟩ => ⟨_, he, Lib.hid (by rw [if_neg h]), hb⟩

/-- What the law's walk hands back. -/
def Yes (w : World) (e : Ending) (w' : World) : Prop := e = .returned (.bool true) ∧ Below w.heap.size w w'
/-- One of the arguments is too long. -/
theorem natOrder_big (xb : Bool) (a : ByteArray) (yb : Bool) (b : ByteArray) (x y : ByteArray) (w : World)
    (h : 255 < a.size ∨ 255 < b.size ∨ 536870911 < x.size ∨ 536870911 < y.size) :
    Calls Tryd.prog 8 #[.agg #[.bool xb, .string a], .agg #[.bool yb, .string b], .string x, .string y] w (Yes w) := by
  have hbel : Below w.heap.size w ((w.alloc (.cells #[.bool xb, .string a] 24)).alloc (.cells #[.bool yb, .string b] 24)) := ((Below.refl _ _).alloc (Nat.le_refl _) _).alloc (by simp) _
  by_cases h1 : 255 < a.size
  · have t1 : decide ((255 : Int) < (a.size : Int)) = true := by simp; omega
    clear h
    go_enter Tryd.func8, Tryd.ntmps8
    go_wp2
    go_ret
    exact ⟨rfl, hbel⟩
  · have t1 : decide ((255 : Int) < (a.size : Int)) = false := by simp; omega
    by_cases h2 : 255 < b.size
    · have t2 : decide ((255 : Int) < (b.size : Int)) = true := by simp; omega
      clear h
      go_enter Tryd.func8, Tryd.ntmps8
      go_wp2
      go_ret
      exact ⟨rfl, hbel⟩
    · have t2 : decide ((255 : Int) < (b.size : Int)) = false := by simp; omega
      by_cases h3 : 536870911 < x.size
      · have t3 : decide ((536870911 : Int) < (x.size : Int)) = true := by simp; omega
        clear h
        go_enter Tryd.func8, Tryd.ntmps8
        go_wp2
        go_ret
        exact ⟨rfl, hbel⟩
      · have t3 : decide ((536870911 : Int) < (x.size : Int)) = false := by simp; omega
        have t4 : decide ((536870911 : Int) < (y.size : Int)) = true := by simp; omega
        clear h
        go_enter Tryd.func8, Tryd.ntmps8
        go_wp2
        go_ret
        exact ⟨rfl, hbel⟩

set_option maxRecDepth 100000 in
set_option maxHeartbeats 1000000 in
/-- One of the numbers may not be. -/
theorem natOrder_bad (xb : Bool) (a : ByteArray) (yb : Bool) (b : ByteArray) (x y : ByteArray) (w : World) (ha : a.size ≤ 255) (hb : b.size ≤ 255) (hx : x.size ≤ 536870911) (hy : y.size ≤ 536870911)
    (ra rb r r2 : Int) (hra : chk xb a.toList = ra) (hrb : chk yb b.toList = rb) (hq : ((ra != 0) = true) ∨ ((ra != 0) = false ∧ (rb != 0) = true))
    (h1 : (chk xb a.toList = r ∧ r ≠ 0) ∨ (chk xb a.toList = 0 ∧ chk yb b.toList = r ∧ r ≠ 0)) (h2 : (chk yb b.toList = r2 ∧ r2 ≠ 0) ∨ (chk yb b.toList = 0 ∧ chk xb a.toList = r2 ∧ r2 ≠ 0)) (q1 : (r != 0) = true) (q2 : (r2 != 0) = true) :
    Calls Tryd.prog 8 #[.agg #[.bool xb, .string a], .agg #[.bool yb, .string b], .string x, .string y] w (Yes w) := by
  have t1 : decide ((255 : Int) < (a.size : Int)) = false := by simp; omega
  have t2 : decide ((255 : Int) < (b.size : Int)) = false := by simp; omega
  have t3 : decide ((536870911 : Int) < (x.size : Int)) = false := by simp; omega
  have t4 : decide ((536870911 : Int) < (y.size : Int)) = false := by simp; omega
  have HA := Lib.hid hra
  have HB := Lib.hid hrb
  have C1 := fun W => compare_bad xb a yb b W (by omega) (by omega) r h1
  have C2 := fun W => compare_bad yb b xb a W (by omega) (by omega) r2 h2
  clear hra hrb h1 h2
  go_enter Tryd.func8, Tryd.ntmps8
  go_wp2_with fail
  refine (put_any xb a _ (by omega) ra HA.out).mono ?_
  rintro e w1 ⟨p, rfl, hp, hb1⟩
  obtain ⟨c0, c1, c2, c3, hz, hbw⟩ := num2_cells hb1
  clear hp
  go_wp2_with fail
  refine (put_any yb b _ (by omega) rb HB.out).mono ?_
  rintro e w2 ⟨q, rfl, hq, hb2⟩
  have c0 := keep hb2 c0
  have c1 := keep hb2 c1
  have c2 := keep hb2 c2
  have c3 := keep hb2 c3
  clear hq
  go_wp2_with fail
  refine (C1 _).mono ?_
  rintro e w3 ⟨rfl, hb3⟩
  have c0 := keep hb3 c0
  have c1 := keep hb3 c1
  have c2 := keep hb3 c2
  have c3 := keep hb3 c3
  go_wp2_with fail
  refine (C2 _).mono ?_
  rintro e w4 ⟨rfl, hb4⟩
  have hbel := two (two (two hbw hb2) hb3) hb4
  clear C1 C2 c0 c1 c2 c3
  rcases hq with q3 | ⟨q3, q4⟩
  all_goals
    go_wp2_with (go_at_call 21; refine (awake_ok _).mono ?_; rintro e w5 ⟨rfl, hb5⟩)
    go_ret
    exact ⟨rfl, two hbel hb5⟩

theorem put_len (b : Bool) (m : List UInt8) : (putBytes b m).length ≤ m.length + 2 := by
  unfold putBytes putHead
  cases b <;> simp only [if_true, if_false, Bool.false_eq_true] <;> split <;> simp
theorem cat_list (a b : ByteArray) : (a ++ b).toList = a.toList ++ b.toList := by
  rw [Lib.toList_data, Lib.toList_data, Lib.toList_data]
  simp
set_option maxRecDepth 100000 in
set_option maxHeartbeats 1000000 in
/-- Two numbers that may be. -/
theorem natOrder_ok (xb : Bool) (a : ByteArray) (yb : Bool) (b : ByteArray) (x y : ByteArray) (w : World) (ha : a.size ≤ 255) (hb : b.size ≤ 255) (hx : x.size ≤ 536870911) (hy : y.size ≤ 536870911)
    (hra : chk xb a.toList = 0) (hrb : chk yb b.toList = 0) :
    Calls Tryd.prog 8 #[.agg #[.bool xb, .string a], .agg #[.bool yb, .string b], .string x, .string y] w (Yes w) := by
  have t1 : decide ((255 : Int) < (a.size : Int)) = false := by simp; omega
  have t2 : decide ((255 : Int) < (b.size : Int)) = false := by simp; omega
  have t3 : decide ((536870911 : Int) < (x.size : Int)) = false := by simp; omega
  have t4 : decide ((536870911 : Int) < (y.size : Int)) = false := by simp; omega
  have HA := Lib.hid hra
  have HB := Lib.hid hrb
  obtain ⟨r, hr⟩ : ∃ r, ncmp xb a.toList yb b.toList = r := ⟨_, rfl⟩
  obtain ⟨r2, hr2⟩ : ∃ r2, ncmp yb b.toList xb a.toList = r2 := ⟨_, rfl⟩
  have h3 := ncmp_three xb yb a.toList b.toList
  have hrr : r2 = -r := by rw [← hr, ← hr2]; exact ncmp_swap _ _ _ _
  have HR := Lib.hid hr
  have HR2 := Lib.hid hr2
  have HO := fun u v hne => Lib.hid (put_order (x := xb) (y := yb) (a := a.toList) (b := b.toList) u v hra hrb hne)
  rw [hr] at h3 HO
  have hz0 : r = 0 ↔ (xb = yb ∧ a.toList = b.toList) := ⟨fun h => ncmp_zero (hr.trans h), fun ⟨h1, h2⟩ => by rw [← hr, h1, h2]; exact ncmp_self _ _⟩
  clear hra hrb hr hr2
  obtain ⟨E, hE⟩ : ∃ E, (xb == yb && a.toList == b.toList) = E := ⟨_, rfl⟩
  have hq24 : ∀ w : World, (binOp .eql 24 (.agg #[.bool xb, .string a]) (.agg #[.bool yb, .string b])).run Tryd.prog w = .ok (.bool E) w := eql_num _ _ _ _ _ hE
  have q1 : (r != -r2) = false := by simp; omega
  have b1 : -1 ≤ r2 := by omega
  have b2 : r2 ≤ 1 := by omega
  clear h3
  go_enter Tryd.func8, Tryd.ntmps8
  go_wp2_with fail
  refine (put_ok xb a _ HA.out).mono ?_
  rintro e w1 ⟨p, rfl, hp, hb1⟩
  obtain ⟨c0, c1, c2, c3, hz, hbw⟩ := num2_cells hb1
  go_wp2_with fail
  refine (put_ok yb b _ HB.out).mono ?_
  rintro e w2 ⟨q, rfl, hq, hb2⟩
  have c0 := keep hb2 c0
  have c1 := keep hb2 c1
  have c2 := keep hb2 c2
  have c3 := keep hb2 c3
  go_wp2_with fail
  refine (compare_ok xb a yb b _ HA.out HB.out r HR.out).mono ?_
  rintro e w3 ⟨rfl, hb3⟩
  have c0 := keep hb3 c0
  have c1 := keep hb3 c1
  have c2 := keep hb3 c2
  have c3 := keep hb3 c3
  go_wp2_with fail
  refine (compare_ok yb b xb a _ HB.out HA.out r2 HR2.out).mono ?_
  rintro e w4 ⟨rfl, hb4⟩
  have c0 := keep hb4 c0
  have c1 := keep hb4 c1
  have c2 := keep hb4 c2
  have c3 := keep hb4 c3
  have hbel := two (two (two hbw hb2) hb3) hb4
  clear HR HR2 hb1 hb2 hb3 hb4 hbw
  cases E
  · have hne : ¬ (xb = yb ∧ a.toList = b.toList) := by rintro ⟨rfl, h2⟩; rw [h2] at hE; simp at hE
    have q2 : (r == 0) = false := by simpa using fun h => hne (hz0.1 h)
    have hlen1 : p.size ≤ 257 := by have h1 := put_len xb a.toList; rw [← hp.out, size_of, size_of] at h1; omega
    have hlen2 : q.size ≤ 257 := by have h1 := put_len yb b.toList; rw [← hq.out, size_of, size_of] at h1; omega
    have o1 : cmp (p ++ x).toList (q ++ y).toList = r := by rw [cat_list, cat_list, hp.out, hq.out]; exact (HO _ _ hne).out
    have o2 : cmp p.toList q.toList = r := by have := (HO [] [] hne).out; rw [List.append_nil, List.append_nil] at this; rw [hp.out, hq.out]; exact this
    have O1 := Lib.hid o1
    have O2 := Lib.hid o2
    have q3 : (p.toList == q.toList) = false := by rw [eq_iff, o2]; simpa using q2
    have q4 : (r == r) = true := by simp
    clear o1 o2 HO hz0 hne
    go_wp2_with fail
    refine (order_law (p ++ x) (q ++ y) _ r O1.out).mono ?_
    rintro e w5 ⟨rfl, rfl⟩
    go_wp2_with fail
    refine (order_law p q _ r O2.out).mono ?_
    rintro e w5 ⟨rfl, rfl⟩
    go_wp2_with fail
    refine (awake_ok _).mono ?_
    rintro e w6 ⟨rfl, hb6⟩
    go_wp2_with fail
    go_ret
    exact ⟨rfl, two hbel hb6⟩
  · have heq : xb = yb ∧ a.toList = b.toList := by simpa using hE
    have q2 : (r == 0) = true := by simpa using hz0.2 heq
    have q3 : (p.toList == q.toList) = true := by rw [hp.out, hq.out, heq.1, heq.2]; simp
    clear HO hz0 heq
    go_wp2_with (go_at_call 21; refine (awake_ok _).mono ?_; rintro e w5 ⟨rfl, hb5⟩)
    go_ret
    exact ⟨rfl, two hbel hb5⟩

theorem natOrder_walk (xb : Bool) (a : ByteArray) (yb : Bool) (b : ByteArray) (x y : ByteArray) (_w0 : a.size ≤ maxLen) (_w1 : b.size ≤ maxLen) (_w2 : x.size ≤ maxLen) (_w3 : y.size ≤ maxLen) (w : World) :
    Calls Tryd.prog 8 #[.agg #[.bool xb, .string a], .agg #[.bool yb, .string b], .string x, .string y] w fun e w' => e = .returned (.bool true) ∧ Below w.heap.size w w' := by
  by_cases h : 255 < a.size ∨ 255 < b.size ∨ 536870911 < x.size ∨ 536870911 < y.size
  · exact natOrder_big xb a yb b x y w h
  · by_cases ha : chk xb a.toList = 0
    · by_cases hb : chk yb b.toList = 0
      · exact natOrder_ok xb a yb b x y w (by omega) (by omega) (by omega) (by omega) ha hb
      · exact natOrder_bad xb a yb b x y w (by omega) (by omega) (by omega) (by omega) 0 (chk yb b.toList) (chk yb b.toList) (chk yb b.toList) ha rfl (.inr ⟨by simp, by simpa using hb⟩) (.inr ⟨ha, rfl, hb⟩) (.inl ⟨rfl, hb⟩) (by simpa using hb) (by simpa using hb)
    · by_cases hb : chk yb b.toList = 0
      · exact natOrder_bad xb a yb b x y w (by omega) (by omega) (by omega) (by omega) (chk xb a.toList) 0 (chk xb a.toList) (chk xb a.toList) rfl hb (.inl (by simpa using ha)) (.inl ⟨rfl, ha⟩) (.inr ⟨hb, rfl, ha⟩) (by simpa using ha) (by simpa using ha)
      · exact natOrder_bad xb a yb b x y w (by omega) (by omega) (by omega) (by omega) (chk xb a.toList) (chk yb b.toList) (chk xb a.toList) (chk yb b.toList) rfl rfl (.inl (by simpa using ha)) (.inl ⟨rfl, ha⟩) (.inl ⟨rfl, hb⟩) (by simpa using ha) (by simpa using hb)
end Go.Proofs.YtcgphlilijeifaaDoor
end
section
/-
  The walk of the law NatBack.
-/
namespace Go.Proofs.YtcgphlilijeifaaDoor
open Go.RowKit

/-- Print, of any number. -/
theorem print_any (x : Bool) (a : ByteArray) (w : World) (ha : a.size ≤ 9223372036854775807) (r : Int) (hr : chk x a.toList = r) :
    Calls Tryd.prog 24 #[.agg #[.bool x, .string a]] w fun e w' => ∃ p : ByteArray, e = .returned (.tuple #[.string p, .int .i64 r]) ∧ Hid (if r = 0 then p.toList = digitsV x a.toList else p = ⟨#[]⟩) ∧ Below w.heap.size w w' := by
  by_cases h : r = 0
  · subst h
    exact (print_ok x a w hr).mono fun e w' ⟨p, he, hp, hb⟩ => ⟨p, he, Lib.hid (by rw [if_pos rfl]; exact hp.out), hb⟩
  · exact (print_bad x a w ha r hr (by simpa using h)).mono fun e w' ⟨he, hb⟩ => ⟨_, he, Lib.hid (by rw [if_neg h]), hb⟩

/-- Parse, of what can be read. -/
theorem parse_yes (s : ByteArray) (w : World) (hs : s.size ≤ 9223372036854775807) (h : parseE s.toList = 0) (b : Bool) (hb : neg s.toList = b) :
    Calls Tryd.prog 26 #[.string s] w fun e w' => ∃ q : ByteArray, e = .returned (.tuple #[.agg #[.bool b, .string q], .int .i64 0]) ∧ Hid (q.toList = magN (dv (ds s.toList))) ∧ Below w.heap.size w w' := by
  refine (parse_any s w hs).mono ?_
  rintro e w' ⟨q, rfl, hq, hb1⟩
  refine ⟨q, ?_, Lib.hid (by rw [hq.out, if_pos h]), hb1⟩
  rw [h, hb]
  rfl
theorem digitsV_len (b : Bool) (m : List UInt8) : (digitsV b m).length ≤ 3 * m.length + 2 := by
  have h := dec_nv_len m
  unfold digitsV
  split
  · simp
  · rw [List.length_append]
    cases b <;> simp <;> omega

/-- One of the arguments is too long. -/
theorem natBack_big (xb : Bool) (a x y : ByteArray) (w : World) (h : 536870911 < a.size ∨ 536870911 < x.size ∨ 536870911 < y.size) :
    Calls Tryd.prog 5 #[.agg #[.bool xb, .string a], .string x, .string y] w (Yes w) := by
  have hbel : Below w.heap.size w (w.alloc (.cells #[.bool xb, .string a] 24)) := (Below.refl _ _).alloc (Nat.le_refl _) _
  by_cases h1 : 536870911 < a.size
  · have t1 : decide ((536870911 : Int) < (a.size : Int)) = true := by simp; omega
    clear h
    go_enter Tryd.func5, Tryd.ntmps5
    go_wp2
    go_ret
    exact ⟨rfl, hbel⟩
  · have t1 : decide ((536870911 : Int) < (a.size : Int)) = false := by simp; omega
    by_cases h2 : 536870911 < x.size
    · have t2 : decide ((536870911 : Int) < (x.size : Int)) = true := by simp; omega
      clear h
      go_enter Tryd.func5, Tryd.ntmps5
      go_wp2
      go_ret
      exact ⟨rfl, hbel⟩
    · have t2 : decide ((536870911 : Int) < (x.size : Int)) = false := by simp; omega
      have t3 : decide ((536870911 : Int) < (y.size : Int)) = true := by simp; omega
      clear h
      go_enter Tryd.func5, Tryd.ntmps5
      go_wp2
      go_ret
      exact ⟨rfl, hbel⟩

set_option maxRecDepth 100000 in
set_option maxHeartbeats 1000000 in
/-- A number that may not be. -/
theorem natBack_bad (xb : Bool) (a x y : ByteArray) (w : World) (ha : a.size ≤ 536870911) (hx : x.size ≤ 536870911) (hy : y.size ≤ 536870911)
    (r : Int) (hr : chk xb a.toList = r) (hr0 : r ≠ 0) :
    Calls Tryd.prog 5 #[.agg #[.bool xb, .string a], .string x, .string y] w (Yes w) := by
  have t1 : decide ((536870911 : Int) < (a.size : Int)) = false := by simp; omega
  have t2 : decide ((536870911 : Int) < (x.size : Int)) = false := by simp; omega
  have t3 : decide ((536870911 : Int) < (y.size : Int)) = false := by simp; omega
  have HR := Lib.hid hr
  have q1 : (r != 0) = true := by simpa using hr0
  have q2 : (r == r) = true := by simp
  obtain ⟨E, hE⟩ : ∃ E, decide ((255 : Int) < (a.size : Int)) = E := ⟨_, rfl⟩
  have q3 : (r == 21) = E := by
    rw [← hE, Bool.eq_iff_iff, beq_iff_eq, decide_eq_true_iff, ← hr, chk_21, size_of]
    omega
  have q4 : ((⟨#[]⟩ : ByteArray).toList == (⟨#[]⟩ : ByteArray).toList) = true := by simp
  clear hr hr0
  go_enter Tryd.func5, Tryd.ntmps5
  go_wp2_with fail
  refine (check_any xb a _ (by omega) r HR.out).mono ?_
  rintro e w1 ⟨rfl, hb1⟩
  obtain ⟨c0, c1, hz, hbw⟩ := num_cells hb1
  go_wp2_with fail
  refine (put_bad xb a _ (by omega) r HR.out (by simpa using q1) q1).mono ?_
  rintro e w2 ⟨rfl, hb2⟩
  have c0 := keep hb2 c0
  have c1 := keep hb2 c1
  go_wp2_with fail
  refine (print_bad xb a _ (by omega) r HR.out q1).mono ?_
  rintro e w3 ⟨rfl, hb3⟩
  have c0 := keep hb3 c0
  have c1 := keep hb3 c1
  have hbel := two (two hbw hb2) hb3
  clear HR hb1 hb2 hb3 hbw
  cases E
  all_goals
    go_wp2_with fail
    refine (awake_ok _).mono ?_
    rintro e w6 ⟨rfl, hb6⟩
    go_wp2_with fail
    go_ret
    exact ⟨rfl, two hbel hb6⟩

set_option maxRecDepth 100000 in
set_option maxHeartbeats 1000000 in
/-- A number that may be. -/
theorem natBack_ok (xb : Bool) (a x y : ByteArray) (w : World) (ha : a.size ≤ 536870911) (hx : x.size ≤ 536870911) (hy : y.size ≤ 536870911) (hr : chk xb a.toList = 0) :
    Calls Tryd.prog 5 #[.agg #[.bool xb, .string a], .string x, .string y] w (Yes w) := by
  have t1 : decide ((536870911 : Int) < (a.size : Int)) = false := by simp; omega
  have t2 : decide ((536870911 : Int) < (x.size : Int)) = false := by simp; omega
  have t3 : decide ((536870911 : Int) < (y.size : Int)) = false := by simp; omega
  have ha2 : a.size ≤ 255 := by have := (chk_zero_iff.1 hr).1; rw [size_of] at this; exact this
  have HR := Lib.hid hr
  have TP := fun u v => Lib.hid (takeE_put hr u v)
  have PP := Lib.hid (parse_print hr)
  have hq24 : ∀ (q : ByteArray), q.toList = a.toList → ∀ w : World, (binOp .eql 24 (.agg #[.bool xb, .string q]) (.agg #[.bool xb, .string a])).run Tryd.prog w = .ok (.bool true) w := fun q h => eql_num _ _ _ _ _ (by rw [h]; simp)
  clear hr
  go_enter Tryd.func5, Tryd.ntmps5
  go_wp2_with fail
  refine (check_any xb a _ (by omega) 0 HR.out).mono ?_
  rintro e w1 ⟨rfl, hb1⟩
  obtain ⟨c0, c1, hz, hbw⟩ := num_cells hb1
  go_wp2_with fail
  refine (put_ok xb a _ HR.out).mono ?_
  rintro e w2 ⟨p, rfl, hp, hb2⟩
  have c0 := keep hb2 c0
  have c1 := keep hb2 c1
  have hpl : p.size ≤ 257 := by have h1 := put_len xb a.toList; rw [← hp.out, size_of, size_of] at h1; omega
  go_wp2_with fail
  refine (print_any xb a _ (by omega) 0 HR.out).mono ?_
  rintro e w3 ⟨d, rfl, hd, hb3⟩
  have c0 := keep hb3 c0
  have c1 := keep hb3 c1
  have hd' := hd.out
  rw [if_pos rfl] at hd'
  have HD := Lib.hid hd'
  have hbel := two (two hbw hb2) hb3
  have hz3 : w.heap.size < w3.heap.size := by have := hb2.size; have := hb3.size; omega
  have hT : takeE (x ++ p ++ y).toList x.size = .ok (xb, a.toList, x.size + p.size) := by
    rw [cat_list, cat_list, hp.out, List.append_assoc, ← size_of x]
    have h := (TP x.toList y.toList).out
    rw [h, ← hp.out, size_of p]
  have HT := Lib.hid hT
  clear hd hd' hb1 hb2 hb3 hbw hT TP
  go_wp2_with fail
  refine (take_at (x ++ p ++ y) x.size _ (by simp; omega) (by simp; omega)).mono ?_
  intro e w4 ht
  unfold TakePost at ht
  rw [HT.out] at ht
  obtain ⟨m, rfl, hm, hb4⟩ := ht
  have c0 := keep hb4 c0
  have c1 := keep hb4 c1
  have hz4 : w.heap.size < w4.heap.size := by have := hb4.size; omega
  go_wp2_with fail
  refine (parse_yes d _ (by have h1 := digitsV_len xb a.toList; rw [← HD.out, size_of, size_of] at h1; omega) (by rw [HD.out]; exact PP.out.1) xb (by rw [HD.out]; exact PP.out.2.1)).mono ?_
  rintro e w5 ⟨k, rfl, hk, hb5⟩
  obtain ⟨d0, d1, hz5, hbw5⟩ := num_cells hb5
  have c0 := (hbw5.cell (p := ⟨w.heap.size, 0, none⟩) hz4).trans c0
  have c1 := (hbw5.cell (p := ⟨w.heap.size, 1, none⟩) hz4).trans c1
  have hz6 : w.heap.size < w5.heap.size := by omega
  have e1 := hq24 m hm.out
  have e2 := hq24 k (by rw [hk.out, HD.out]; exact PP.out.2.2)
  have q5 : ((x.size : Int) + (p.size : Int) == (x.size : Int) + (p.size : Int)) = true := by simp
  have hbel2 := two (two hbel hb4) hbw5
  clear hb4 hb5 hbel hbw5 PP HD HT hq24
  go_wp2_with fail
  refine (awake_ok _).mono ?_
  rintro e w6 ⟨rfl, hb6⟩
  obtain ⟨_, _, _, hbw6⟩ := num_cells hb6
  go_wp2_with fail
  go_ret
  exact ⟨rfl, two hbel2 hbw6⟩

theorem natBack_walk (xb : Bool) (a x y : ByteArray) (_w0 : a.size ≤ maxLen) (_w1 : x.size ≤ maxLen) (_w2 : y.size ≤ maxLen) (w : World) :
    Calls Tryd.prog 5 #[.agg #[.bool xb, .string a], .string x, .string y] w fun e w' => e = .returned (.bool true) ∧ Below w.heap.size w w' := by
  by_cases h : 536870911 < a.size ∨ 536870911 < x.size ∨ 536870911 < y.size
  · exact natBack_big xb a x y w h
  · by_cases hr : chk xb a.toList = 0
    · exact natBack_ok xb a x y w (by omega) (by omega) (by omega) hr
    · exact natBack_bad xb a x y w (by omega) (by omega) (by omega) _ rfl hr
end Go.Proofs.YtcgphlilijeifaaDoor
end
section
/-
  lit.told: its contract.
-/
namespace Go.Proofs.YtcgphlilijeifaaDoor.L
open Go.RowKit
open V (Pt)

def tooLong : Ending := .panicked [{ v := .iface 128 (.agg #[]), recovered := false }]
def ToldPost (B : Nat) (l : List UInt8) (p : Pt) (w : World) (e : Ending) (w' : World) : Prop :=
  Below B w w' ∧ B ≤ w'.heap.size ∧ (((l ++ textP p).length ≤ 65536 ∧ ∃ b', e = .returned b' ∧ OwnB w' B b' (l ++ textP p)) ∨ (65536 < (l ++ textP p).length ∧ e = tooLong))
theorem told_yes {B : Nat} {l : List UInt8} {p : Pt} {w w' : World} {v : Value} (h : (l ++ textP p).length ≤ 65536) (hO : OwnB w' B v (l ++ textP p)) (hB : Below B w w') (hs : B ≤ w'.heap.size) : ToldPost B l p w (.returned v) w' := ⟨hB, hs, .inl ⟨h, v, rfl, hO⟩⟩
theorem told_no {B : Nat} {l : List UInt8} {p : Pt} {w w' : World} (h : 65536 < (l ++ textP p).length) (hB : Below B w w') (hs : B ≤ w'.heap.size) : ToldPost B l p w tooLong w' := ⟨hB, hs, .inr ⟨h, rfl⟩⟩
theorem str_bv (s : ByteArray) : Lib.strCells s = bv s.toList := by
  unfold Lib.strCells bv
  rw [Lib.toList_data]
theorem ownb_form {w : World} {base : Nat} {v : Value} {l : List UInt8} (h : OwnB w base v l) : ∃ (n : Nat) (a : Option Addr) (cap : Nat), v = .slice a n cap ∧ Hid (n = l.length) := by
  unfold OwnB at h
  rcases h.2 with ⟨rfl, hn⟩ | ⟨g, cap, cur, rfl, _⟩
  · exact ⟨0, none, 0, rfl, Lib.hid hn.symm⟩
  · exact ⟨_, _, cap, rfl, Lib.hid rfl⟩
/-- A string appended to bytes of the call's own. -/
theorem wpList_append_str {P : Program} {ops : Array Oper} {rest : List Oper} {o : Oper} {a : Act} {Q : Exit → Act → World → Prop} {W w : World} (hgd : o.guard = none) (s x : Operand) (t u : TypeId)
    (ho : o.op = .call { callee := .builtin .append, args := #[s, x], argTypes := #[t, u] })
    (ht : P.underlying t = some (.slice 5)) (hu : P.underlying u = some .string) (hinfo : (P.info? 5).map (fun i => (i.zero, i.size, i.bytes)) = some (some (.int .u8 0), 1, 1))
    {base : Nat} {v : Value} {l : List UInt8} (hs : a.eval s = v) (hown : OwnB w base v l)
    (m : ByteArray) (hx : a.eval x = .string m)
    (hlen : l.length + m.size ≤ 140737488355328) (hB : Below base W w) (hbase : base ≤ w.heap.size)
    (h : ∀ v' w', OwnB w' base v' (l ++ m.toList) → Below base W w' → base ≤ w'.heap.size → wpList P ops Q rest (a.put o.dst v') w') : wpList P ops Q (o :: rest) a w := by
  obtain ⟨i0, hi, hz0, hz1, hz2⟩ := info_parts hinfo
  refine Lib.wpList_append_own_string w hgd s x t u ho base 5 i0 ht hu hi hz0 hz1 hz2 v l.length (bv l) hs hown m hx (by unfold maxLen; omega) (by omega) hbase ?_
  intro v' w' ho' hg _
  refine h v' w' ?_ (hB.grown hg hbase fun k hk => (World.ownsRow.lt hown k hk).1) (Nat.le_trans hbase hg.size)
  unfold OwnB
  rw [str_bv, bv_append] at ho'
  rw [List.length_append, size_of]
  exact ho'
theorem wpList_len {P : Program} {ops : Array Oper} {rest : List Oper} {o : Oper} {a : Act} {Q : Exit → Act → World → Prop} {w : World} (hgd : o.guard = none) (x : Operand) (t : TypeId)
    (ho : o.op = .call { callee := .builtin .len, args := #[x], argTypes := #[t] }) (ht : P.underlying t = some (.slice (P.elem t))) {ad : Option Addr} {n c : Nat} (hx : a.eval x = .slice ad n c)
    (h : wpList P ops Q rest (a.put o.dst (.int .i64 n)) w) : wpList P ops Q (o :: rest) a w := by
  refine wpList_plain hgd fun K hK => ?_
  have hr := run_len_slice (P := P) w t o.type ad n c ht
  unfold Oper.wp execOp
  simp only [ho, resolve, invoke, builtin, Sem.run_bind, Sem.run_pure, Result.andThen_ok, List.map_toArray, List.map_cons, List.map_nil, hx, hr]
  exact hK _ _ h
theorem slice111 : Tryd.prog.underlying 111 = some (.slice (Tryd.prog.elem 111)) := by kernel_rfl
def nullS : ByteArray := ⟨#[110, 117, 108, 108]⟩
theorem nullS_text : nullS.toList = nullT := by rw [Lib.toList_data]; rfl

theorem last_le {n m : Nat} (h : m ≤ 65536) (hn : n = m) : decide ((65536 : Int) < (n : Int)) = false := by simp only [decide_eq_false_iff_not]; omega
theorem last_gt {n m : Nat} (h : ¬ m ≤ 65536) (hn : n = m) : decide ((65536 : Int) < (n : Int)) = true := by simp only [decide_eq_true_eq]; omega

set_option maxRecDepth 100000 in
set_option maxHeartbeats 1500000 in
theorem told_null (p : Pt) (h0 : p.kind = 0) (B : Nat) (b : Value) (l : List UInt8) (w : World) (hsz : B ≤ w.heap.size) (hO : OwnB w B b l) (hl : l.length ≤ 67000) :
    Calls Tryd.prog 76 #[b, .nilIface] w (ToldPost B l p w) := by
  have HT := Lib.hid (show textP p = nullT by rw [textP_eq, if_pos h0])
  have hB := Below.refl B w
  clear h0
  go_enter Tryd.func76, Tryd.ntmps76
  by_cases hq : (l ++ nullS.toList).length ≤ 65536
  · go_wp2_with (at_builtin; first
      | (refine wpList_append_str rfl (.tmp 22) (.const (.string nullS)) 111 9 rfl Tryd.underlying111 (by kernel_rfl) Tryd.info5 rfl hO nullS rfl (by show _ + 4 ≤ _; omega) hB hsz ?_; intro v2 w2 hO2 hB2 hs2; obtain ⟨n, a2, cap2, rfl, hn⟩ := ownb_form hO2; have q3 := last_le hq hn.out)
      | refine wpList_len rfl (.tmp 70) 111 rfl slice111 rfl ?_)
    go_ret
    rw [nullS_text, ← HT.out] at hO2 hq
    exact told_yes hq hO2 hB2 hs2
  · go_wp2_with (at_builtin; first
      | (refine wpList_append_str rfl (.tmp 22) (.const (.string nullS)) 111 9 rfl Tryd.underlying111 (by kernel_rfl) Tryd.info5 rfl hO nullS rfl (by show _ + 4 ≤ _; omega) hB hsz ?_; intro v2 w2 hO2 hB2 hs2; obtain ⟨n, a2, cap2, rfl, hn⟩ := ownb_form hO2; have q3 := last_gt hq hn.out)
      | refine wpList_len rfl (.tmp 70) 111 rfl slice111 rfl ?_)
    rw [nullS_text, ← HT.out] at hq
    exact ⟨rfl, told_no (Nat.lt_of_not_le hq) hB2 hs2⟩
end Go.Proofs.YtcgphlilijeifaaDoor.L
end
