/-
  Write of a part in memory of its own: what it leaves as it was.
-/
import Derived.Test.YtcgphlilijeifaaVSix
import Derived.Deep.AppendLies
namespace Go.Proofs.Ytcgphlilijeifaa.V
open Go.RowKit

/-- What Write leaves. -/
def WritePost (lo hi : Nat) (w : World) (e : Ending) (w' : World) : Prop := e = .returned (.tuple #[]) ∧ Below lo w w' ∧ Same hi w.heap.size w w'

/-- Such a list, whether nil or a row. -/
theorem OwnI.parts {w : World} {m : Bool} {lo hi : Nat} {l : List Pt} {v : Value} (h : OwnI w m lo hi l v) :
    ∃ (a : Option Addr) (cap : Nat) (F : Nat → Value) (L H : Nat → Nat) (xs : List Value), v = .slice a l.length cap ∧ w.ownsRow lo 27 6 v l.length xs ∧ (∀ g, v.ownBlock = some g → lo ≤ g ∧ g < hi) ∧
      (∀ j (_ : j < l.length), ∃ g, a = some ⟨g, 0, none⟩ ∧ lo ≤ g ∧ g < hi ∧ lo ≤ L j ∧ L j ≤ H j ∧ H j ≤ hi ∧ ¬ (L j ≤ g ∧ g < H j)) ∧ (∀ i j, i < j → j < l.length → H i ≤ L j) ∧
      ∀ j (h : j < l.length), ∃ g, a = some ⟨g, 0, none⟩ ∧ PartCells w g (j * 6) l[j] (F j) ∧ OwnI w m (L j) (H j) l[j].items (F j) := by
  cases h with
  | nil _ _ _ => exact ⟨none, 0, fun _ => .nilIface, fun _ => 0, fun _ => 0, [], rfl, World.ownsRow_nil _ _ _ _, (fun g hg => by cases hg), (fun j hj => by cases hj), (fun i j _ hj => by cases hj), (fun j hj => by cases hj)⟩
  | row _ _ _ g cap cur F L H h1 h2 blk hcap hsz hmax cells fits rng apart room deep =>
    refine ⟨_, cap, F, L, H, _, rfl, row_of blk hsz hcap hmax h1, fun k hk => ?_, fun j hj => ?_, apart, fun j hj => ⟨g, rfl, cells j hj, deep j hj⟩⟩
    · obtain rfl : g = k := Option.some.inj hk
      exact ⟨h1, h2⟩
    · obtain ⟨r1, r2, r3, r4⟩ := rng j hj
      exact ⟨g, rfl, h1, h2, r1, r2, r3, r4⟩

def cells78 : Array Value := #[.int .u8 78, .bool false, .bool false, .string ⟨#[]⟩, .string ⟨#[]⟩, .slice none 0 0]
/-- What the last append and the store behind it leave. -/
theorem write_end {lo hi g o : Nat} {w wr w3 : World} {ob : Obj} {v u : Value} (hB : Below lo w wr) (hS : Same hi w.heap.size w wr) 
    (hsz : w.heap.size < wr.heap.size) (hlo : lo ≤ w.heap.size) (hown : ∀ k, v.ownBlock = some k → lo ≤ k ∧ k < hi) (hg : (wr.alloc ob).grownBy w3 v.ownBlock) (hl : v.ownBlock = some g ∨ g = (wr.alloc ob).heap.size) :
    Below lo w (w3.setCell ⟨g, o, none⟩ u) ∧ Same hi w.heap.size w (w3.setCell ⟨g, o, none⟩ u) := by
  have ha : (wr.alloc ob).heap.size = wr.heap.size + 1 := by simp
  have hlg : lo ≤ g := by
    rcases hl with h | h
    · exact (hown _ h).1
    · omega
  refine ⟨((hB.alloc (by omega) ob).grown hg (by omega) (fun k hk => (hown k hk).1)).setCell hlg u, fun k h1 h2 => ?_⟩
  have hne : ¬ v.ownBlock = some k := fun e => by have := hown k e; omega
  have hkg : k ≠ g := by
    rintro rfl
    rcases hl with h | h
    · exact hne h
    · omega
  rw [Below.heap_setCell _ _ _ _ hkg, hg.block k (by omega) (fun e => hne e.symm), Below.heap_alloc wr ob k (by omega)]
  exact hS k h1 h2

set_option maxRecDepth 100000 in
set_option maxHeartbeats 1000000 in
theorem write_any (p : Pt) : ∀ (v : Value) (w : World) (m : Bool) (lo hi : Nat), Roomy p → OwnI w m lo hi p.items v → lo ≤ hi → hi ≤ w.heap.size →
    Calls Try.prog 25 #[.agg #[.int .u8 p.kind, .bool p.yes, .bool p.neg, .string p.mag, .string p.raw, v]] w (WritePost lo hi w) := by
  induction p using Pt.ind with
  | h p ih =>
  intro v w m lo hi hroom hown hlh hhi
  have hlen := hroom.len
  have HR := Lib.hid hroom
  have IH := Lib.hid ih
  obtain ⟨a, cap, F, L, H, xs0, rfl, hO0, hob, hst, hap, hat⟩ := hown.parts
  have HOB := Lib.hid hob
  have HST := Lib.hid hst
  have HAP := Lib.hid hap
  have HAT := Lib.hid hat
  have hbx := Lib.hid (Box.new w p (.slice a p.items.length cap) 27)
  clear ih hroom hown hob hst hap hat
  go_enter Try.func25, Try.ntmps25
  go_wp2_with fail
  go_loopw [2] (fun i wr => ∃ (k : Nat) (xs : List Value), k ≤ p.items.length ∧ i = .int .i64 k ∧ RowKit.Hid (Box wr w.heap.size p (.slice a p.items.length cap)) ∧ wr.ownsRow lo 27 6 (.slice a p.items.length cap) p.items.length xs ∧
    RowKit.Hid (∀ j, k ≤ j → ∀ (h : j < p.items.length), ∃ g, a = some ⟨g, 0, none⟩ ∧ PartCells wr g (j * 6) p.items[j] (F j) ∧ OwnI wr m (L j) (H j) p.items[j].items (F j)) ∧ Below lo w wr ∧ Same hi w.heap.size w wr ∧ w.heap.size < wr.heap.size) (fun i _ => p.items.length - (intOf i).toNat)
  case atStart =>
    have hA := (Below.refl w.heap.size w).alloc (Nat.le_refl _) (.cells #[.int .u8 p.kind, .bool p.yes, .bool p.neg, .string p.mag, .string p.raw, .slice a p.items.length cap] 27)
    refine ⟨0, xs0, Nat.zero_le _, rfl, hbx, hO0.alloc _, Lib.hid fun j _ hj => ?_, hA.mono (by omega), Same.of_below hA (Nat.le_refl _), by simp⟩
    obtain ⟨g, hg, h1, h2⟩ := HAT.out j hj
    obtain ⟨g', hg', b1, b2, b3, b4, b5, b6⟩ := HST.out j hj
    obtain rfl : g = g' := by rw [hg] at hg'; simpa using hg'
    exact ⟨g, hg, h1.same (Same.of_below hA (Nat.le_refl _)) (Nat.zero_le g) (by omega), h2.same (Same.of_below hA (by omega))⟩
  case round =>
    clear hbx
    obtain ⟨k, xs, hkl, rfl, HX, hO, HK, hB, hS, hsz⟩ := hrel
    obtain ⟨_, ⟨c0, c1, c2, c3, c4, c5⟩⟩ := HX.out
    by_cases hlt : k < p.items.length
    · have q3 : decide (k < p.items.length) = true := by simpa using hlt
      obtain ⟨g, rfl, hpc, hok⟩ := HK.out k (Nat.le_refl _) hlt
      obtain ⟨g', hg', b1, b2, b3, b4, b5, b6⟩ := HST.out k hlt
      obtain rfl : g = g' := by simpa using hg'
      have hmem : p.items[k] ∈ p.items := List.getElem_mem _
      obtain ⟨q, hq⟩ : ∃ q, p.items[k] = q := ⟨_, rfl⟩
      obtain ⟨u, hu⟩ : ∃ u, F k = u := ⟨_, rfl⟩
      rw [hq, hu] at hpc hok
      rw [hq] at hmem
      obtain ⟨a2, cap2, rfl⟩ := hok.form
      have HOK := Lib.hid hok
      have HPC := Lib.hid hpc
      obtain ⟨d0, d1, d2, d3, d4, d5⟩ := hpc
      have B6 := Lib.hid b6
      clear hq hu hok hg' b6
      go_wp2_with fail
      refine (IH.out q hmem _ wr m (L k) (H k) (HR.out.item hmem) HOK.out b4 (by omega)).mono ?_
      rintro e w2 ⟨rfl, hb2, hs2⟩
      clear c0 c1 c2 c3 c4 c5 d0 d1 d2 d3 d4 d5
      have hgs : w2.heap[g]? = wr.heap[g]? := by
        have := B6.out
        by_cases hgl : g < L k
        · exact hb2.block g hgl
        · exact hs2 g (by omega) (by omega)
      have hx2 := Lib.hid (HX.out.same (hs2 w.heap.size (by omega) hsz))
      have hpc2 := Lib.hid (HPC.out.block hgs)
      have hO2 := row_same hO hgs
      obtain ⟨_, ⟨c0, c1, c2, c3, c4, c5⟩⟩ := hx2.out
      obtain ⟨d0, d1, d2, d3, d4, d5⟩ := hpc2.out
      have z0 := hO2.frozenAt (k * 6)
      have z1 := hO2.frozenAt (k * 6 + 1)
      have z2 := hO2.frozenAt (k * 6 + 2)
      have z3 := hO2.frozenAt (k * 6 + 3)
      have z4 := hO2.frozenAt (k * 6 + 4)
      have z5 := hO2.frozenAt (k * 6 + 5)
      have hgl2 : g < w2.heap.size := World.block_lt_of_cell? w2 _ d0
      go_wp2_with fail
      obtain ⟨xs2, hO3⟩ := set6_row (o := k * 6) (k := 77) (y := false) (b := false) (m := ⟨#[]⟩) (r := ⟨#[119, 114, 105, 116, 116, 101, 110]⟩) (v := .slice none 0 0) hO2
      refine ⟨⟨k + 1, xs2, by omega, rfl, Lib.hid (hx2.out.same (set6_block _ _ _ _ _ _ _ _ _ (by omega))), hO3, Lib.hid fun j hj hjl => ?_, (hB.trans (hb2.mono (by omega))).trans (set6_below _ _ _ _ _ _ _ _ _ (by omega)), (hS.trans (hs2.mono (by omega) (by omega))).trans (fun x h1 _ => set6_block _ _ _ _ _ _ _ _ _ (by omega)), ?_⟩, by simp [intOf]; omega⟩
      · obtain ⟨g5, hg5, k1, k2⟩ := HK.out j (by omega) hjl
        obtain ⟨g6, hg6, r1, r2, r3, r4, r5, r6⟩ := HST.out j hjl
        obtain rfl : g = g5 := by simpa using hg5
        obtain rfl : g = g6 := by simpa using hg6
        have hap := HAP.out k j (by omega) hjl
        refine ⟨g, rfl, set6_farP (k1.block hgs) (by omega), (k2.same (hs2.mono hap (by omega))).same (fun x h1 h2 => set6_block _ _ _ _ _ _ _ _ _ (by rintro rfl; exact r6 ⟨h1, h2⟩))⟩
      · exact Nat.lt_of_lt_of_le hx2.out.lt (Nat.le_of_eq (set6_size w2 g (k * 6) 77 false false ⟨#[]⟩ ⟨#[119, 114, 105, 116, 116, 101, 110]⟩ (.slice none 0 0)).symm)
    · have q3 : decide (k < p.items.length) = false := by simpa using hlt
      have hkl2 : k = p.items.length := by omega
      obtain ⟨i0, hinf, hz0, hz1, hz2⟩ := info_parts infoP
      subst hkl2
      go_wp2_with (at_builtin; refine wpList_append_lies _ rfl (.tmp 23) (.tmp 25) 25 rfl lo 27 i0 _ 6 72 Try.underlying25 hinf hz0 hz1 hz2 rfl (by decide) (.slice a p.items.length cap) p.items.length xs (by simp [Act.eval, Act.put]) (hO.alloc _) ⟨wr.heap.size, 0, none⟩ 1 1 cells78.toList (by simp [Act.eval, Act.put]) rfl (six_cells wr _ _ rfl) (by intro y hy; simp [cells78] at hy; rcases hy with rfl | rfl | rfl | rfl | rfl | rfl <;> rfl) (by decide) (by unfold maxLen; omega) (by omega) (by simp; omega) _ rfl ?_; intro g3 cap3 w3 hO3 hg3 hlies hgl; have f3 := hO3.frozenAt (p.items.length * 6 + 4); have s3 : w3.cell? ⟨g3, p.items.length * 6 + 4, none⟩ = some (.string ⟨#[]⟩) := by (rw [hO3.cellAt _ (by omega), List.getElem?_append_right (by have := hO.1; omega), hO.1, Nat.add_sub_cancel_left]; rfl))
      go_end0
      exact ⟨rfl, write_end (g := g3) (v := .slice a p.items.length cap) hB hS hsz (by omega) HOB.out hg3 hlies⟩
end Go.Proofs.Ytcgphlilijeifaa.V
