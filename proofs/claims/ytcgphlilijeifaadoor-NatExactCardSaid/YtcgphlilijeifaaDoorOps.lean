/-
  A list of calls among the arguments, opened.
-/
import Derived.Test.YtcgphlilijeifaaDoorOpen
import Derived.Deep.Slices
namespace Go.Proofs.YtcgphlilijeifaaDoor
open Go.ChangeShapes Go.WideShapes Go.ChangeAt Go.RowKit Go.Joins Go.Deep

structure OpV where
  k : Int
  ab : Bool
  a : ByteArray
  bb : Bool
  b : ByteArray
  s : ByteArray
  i : Int

/-- From place o on block b holds the call x. -/
structure OpCells (w : World) (b o : Nat) (x : OpV) : Prop where
  c0 : w.cell? ⟨b, o, none⟩ = some (.int .i64 x.k)
  c1 : w.cell? ⟨b, o + 1, none⟩ = some (.bool x.ab)
  c2 : w.cell? ⟨b, o + 2, none⟩ = some (.string x.a)
  c3 : w.cell? ⟨b, o + 3, none⟩ = some (.bool x.bb)
  c4 : w.cell? ⟨b, o + 4, none⟩ = some (.string x.b)
  c5 : w.cell? ⟨b, o + 5, none⟩ = some (.string x.s)
  c6 : w.cell? ⟨b, o + 6, none⟩ = some (.int .i64 x.i)
structure OpFits (x : OpV) : Prop where
  a : x.a.size ≤ maxLen
  b : x.b.size ≤ maxLen
  s : x.s.size ≤ maxLen
  lo : -9223372036854775808 ≤ x.i
  hi : x.i ≤ 9223372036854775807

theorem num_trod {H : Type} {enc : TypeId × Value → H} {w : World} {base : Nat} {sp : Nat → Bool} {held : Bool} {fuel : Nat} {v0 v1 : Value} {x : DataW H × List MemPlace}
    (h : DataW.trod enc Tryd.prog w base sp held fuel 24 [v0, v1] = some x) : ∃ (b : Bool) (s : ByteArray), v0 = .bool b ∧ v1 = .string s ∧ s.size ≤ maxLen := by
  obtain ⟨y0, y1, n, _, _, h0, h1⟩ := trod_struct2 Tryd.underlying24 h
  obtain ⟨b, hb, _⟩ := DataW.trod_bool Tryd.underlying4 h0
  obtain ⟨s, hs, _, hm⟩ := DataW.trod_string Tryd.underlying9 h1
  have c4 : Tryd.prog.cellsOf 4 = 1 := by kernel_rfl
  have c9 : Tryd.prog.cellsOf 9 = 1 := by kernel_rfl
  rw [c4] at hb
  rw [c9] at hs
  exact ⟨b, s, by simpa using hb, by simpa using hs, hm⟩

theorem wf_bounds {n : Int} (h : (Lit.int .i64 n).wf = true) : -9223372036854775808 ≤ n ∧ n ≤ 9223372036854775807 := by
  simp only [Lit.wf, Bool.and_eq_true, decide_eq_true_eq] at h
  exact h
set_option maxRecDepth 100000 in
theorem op_trod {H : Type} {enc : TypeId × Value → H} {w : World} {base : Nat} {sp : Nat → Bool} {held : Bool} {fuel b o : Nat} {cs : List Value} {x : DataW H × List MemPlace}
    (hc : w.cells? base ⟨b, o, none⟩ 7 = some cs) (h : DataW.trod enc Tryd.prog w base sp held fuel 63 cs = some x) : ∃ v : OpV, OpCells w b o v ∧ OpFits v := by
  obtain ⟨_, hl, hat⟩ := World.cells?_some hc
  match cs, hl with
  | [v0, v1, v2, v3, v4, v5, v6], _ =>
    obtain ⟨ys, n, _, _, _, hyl, hf⟩ := DataW.trod_struct Tryd.underlying63 h
    match ys, hyl with
    | [y0, y1, y2, y3, y4], _ =>
      have e3 : Tryd.prog.cellsOf 3 = 1 := by kernel_rfl
      have e9 : Tryd.prog.cellsOf 9 = 1 := by kernel_rfl
      have e24 : Tryd.prog.cellsOf 24 = 2 := by kernel_rfl
      have h0 := hf 0 _ rfl
      have h1 := hf 1 _ rfl
      have h2 := hf 2 _ rfl
      have h3 := hf 3 _ rfl
      have h4 := hf 4 _ rfl
      simp [e3, e9, e24] at h0 h1 h2 h3 h4
      obtain ⟨k, hk, _, _⟩ := DataW.trod_int Tryd.underlying3 h0
      obtain ⟨ab, a, ha1, ha2, ha3⟩ := num_trod h1
      obtain ⟨bb, b2, hb1, hb2, hb3⟩ := num_trod h2
      obtain ⟨s, hs, _, hs2⟩ := DataW.trod_string Tryd.underlying9 h3
      obtain ⟨i, hi, _, hi2⟩ := DataW.trod_int Tryd.underlying3 h4
      obtain rfl : v0 = .int .i64 k := by simpa using hk
      obtain rfl : v5 = .string s := by simpa using hs
      obtain rfl : v6 = .int .i64 i := by simpa using hi
      subst ha1 ha2 hb1 hb2
      have at_ : ∀ j, j < 7 → w.cell? ⟨b, o + j, none⟩ = [Value.int .i64 k, .bool ab, .string a, .bool bb, .string b2, .string s, .int .i64 i][j]? := fun j hj => by
        rw [← hat j hj]
        congr 1
        unfold Addr.add
        split <;> simp_all
      exact ⟨⟨k, ab, a, bb, b2, s, i⟩, ⟨at_ 0 (by decide), at_ 1 (by decide), at_ 2 (by decide), at_ 3 (by decide), at_ 4 (by decide), at_ 5 (by decide), at_ 6 (by decide)⟩, ⟨ha3, hb3, hs2, (wf_bounds hi2).1, (wf_bounds hi2).2⟩⟩

set_option maxRecDepth 100000 in
/-- The list: its value; where it lies; what each call is. -/
theorem open_ops {H : Type} {enc : TypeId × Value → H} {w : World} {base b0 : Nat} {sp : Nat → Bool} {held : Bool} {r : Reach} {v : Value} {d : DataW H} {ps : List MemPlace}
    (hval : Value.okWide Tryd.prog w r b0 60 v) (h : DataW.Trod enc Tryd.prog w base sp held 60 v d ps) :
    ∃ (a : Option Addr) (n cap : Nat), v = .slice a n cap ∧ n ≤ maxLen ∧ (0 < n → ∃ (b off : Nat) (F : Nat → OpV), a = some ⟨b, off, none⟩ ∧ ∀ j, j < n → OpCells w b (off + j * 7) (F j) ∧ OpFits (F j)) := by
  obtain ⟨fuel, hf⟩ := h
  have e63 : Tryd.prog.cellsOf 63 = 7 := by kernel_rfl
  obtain ⟨a, n, cap, rfl⟩ := okWide_slice Tryd.underlying60 hval
  refine ⟨a, n, cap, rfl, ?_⟩
  rcases open_slice Tryd.underlying60 (show DataW.trod enc Tryd.prog w base sp held fuel 60 [.slice a n cap] = _ from hf) with ⟨h0, _⟩ | ⟨a', len, cap', m, n', D, Pl, h0, _, hlc, hcm, hm, _, hall⟩
  · obtain ⟨rfl, rfl, rfl⟩ : a = none ∧ n = 0 ∧ cap = 0 := by simpa using h0
    exact ⟨Nat.zero_le _, fun h => absurd h (by decide)⟩
  · obtain ⟨rfl, rfl, rfl⟩ : a = some a' ∧ n = len ∧ cap = cap' := by simpa using h0
    rw [e63] at hall
    have hnm : n ≤ m := by rw [hm]; split <;> omega
    refine ⟨by omega, fun hn => ?_⟩
    obtain ⟨b, off, spot⟩ := a'
    have hsp : spot = none := by
      obtain ⟨cs, h1, h2⟩ := hall 0 (by omega)
      obtain ⟨_, hl, hat⟩ := World.cells?_some h1
      have := hat 0 (by decide)
      rw [List.getElem?_eq_getElem (by omega)] at this
      simpa [Addr.add] using World.cell?_spot this
    subst hsp
    have key : ∀ j, j < n → ∃ x : OpV, OpCells w b (off + j * 7) x ∧ OpFits x := fun j hj => by
      obtain ⟨cs, h1, h2⟩ := hall j (by omega)
      refine op_trod ?_ h2
      rw [← h1]
      congr 1
      unfold Addr.add
      split <;> simp_all
    refine ⟨b, off, fun j => if hj : j < n then (key j hj).choose else ⟨0, false, ⟨#[]⟩, false, ⟨#[]⟩, ⟨#[]⟩, 0⟩, rfl, fun j hj => ?_⟩
    simp only [hj, dif_pos]
    exact (key j hj).choose_spec
end Go.Proofs.YtcgphlilijeifaaDoor
