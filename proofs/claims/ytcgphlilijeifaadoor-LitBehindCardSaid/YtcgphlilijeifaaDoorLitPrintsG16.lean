import Derived.ProofKit
import Derived.OpenShut
import Derived.ShutString
import Derived.WalkKit
import Derived.SizedLaws
import Derived.Deep.Slices
import Derived.Test.YtcgphlilijeifaaDoorLitPrintsG11
/-
  A part among the arguments, opened.
-/
namespace Go.Proofs.YtcgphlilijeifaaDoor.V
open Go.ChangeShapes Go.WideShapes Go.ChangeAt Go.RowKit Go.Deep

theorem wAll {H : Type} {P : Program} {e : TypeId} {ds : List (DataW H)} {d : DataW H} (hd : d ∈ ds) : ∀ n ∈ d.weights P e, n ∈ DataW.weightsAll P e ds := by
  induction ds with
  | nil => cases hd
  | cons a r ih =>
    intro n hn
    rw [DataW.weightsAll, List.mem_append]
    rcases List.mem_cons.1 hd with h | h
    · exact .inl (h ▸ hn)
    · exact .inr (ih h n hn)

def ListOpens (H : Type) (enc : TypeId × Value → H) (w : World) (base : Nat) (sp : Nat → Bool) (held : Bool) (fuel : Nat) : Prop :=
  ∀ (v : Value) (x : DataW H × List MemPlace), DataW.trod enc Tryd.prog w base sp held fuel 25 [v] = some x → (∀ n ∈ x.1.weights Tryd.prog 25, n ≤ reachBytes) → ∃ l, PI w 0 w.heap.size l v ∧ l.length ≤ reachBytes

set_option maxRecDepth 100000 in
theorem part_trod {H : Type} {enc : TypeId × Value → H} {w : World} {base : Nat} {sp : Nat → Bool} {held : Bool} {fuel : Nat} {cs : List Value} {x : DataW H × List MemPlace}
    (ih : ∀ m, m < fuel → ListOpens H enc w base sp held m) (h : DataW.trod enc Tryd.prog w base sp held fuel 27 cs = some x) (hw : ∀ n ∈ x.1.weights Tryd.prog 27, n ≤ reachBytes) :
    ∃ (p : Pt) (u : Value), cs = [.int .u8 p.kind, .bool p.yes, .bool p.neg, .string p.mag, .string p.raw, u] ∧ Fit p ∧ PI w 0 w.heap.size p.items u := by
  obtain ⟨ys, n, hn, rfl, hcl, hyl, hf⟩ := DataW.trod_struct Tryd.underlying27 h
  have e27 : Tryd.prog.cellsOf 27 = 6 := by kernel_rfl
  rw [e27] at hcl
  match cs, hcl with
  | [v0, v1, v2, v3, v4, v5], _ =>
    match ys, hyl with
    | [y0, y1, y2, y3, y4], _ =>
      have e22 : Tryd.prog.cellsOf 22 = 1 := by kernel_rfl
      have e4 : Tryd.prog.cellsOf 4 = 1 := by kernel_rfl
      have e24 : Tryd.prog.cellsOf 24 = 2 := by kernel_rfl
      have e9 : Tryd.prog.cellsOf 9 = 1 := by kernel_rfl
      have e25 : Tryd.prog.cellsOf 25 = 1 := by kernel_rfl
      have h0 := hf 0 _ rfl
      have h1 := hf 1 _ rfl
      have h2 := hf 2 _ rfl
      have h3 := hf 3 _ rfl
      have h4 := hf 4 _ rfl
      simp [e22, e4, e24, e9, e25] at h0 h1 h2 h3 h4
      have hw' : ∀ n ∈ DataW.weightsEach Tryd.prog [22, 4, 24, 9, 25] [y0.1, y1.1, y2.1, y3.1, y4.1], n ≤ reachBytes := by
        simpa [DataW.weights, Tryd.underlying27] using hw
      have q2 : ∀ n ∈ y2.1.weights Tryd.prog 24, n ≤ reachBytes := fun n hn => hw' n (DataW.weights_mem_each (j := 2) rfl rfl n hn)
      have q3 : ∀ n ∈ y3.1.weights Tryd.prog 9, n ≤ reachBytes := fun n hn => hw' n (DataW.weights_mem_each (j := 3) rfl rfl n hn)
      have q4 : ∀ n ∈ y4.1.weights Tryd.prog 25, n ≤ reachBytes := fun n hn => hw' n (DataW.weights_mem_each (j := 4) rfl rfl n hn)
      obtain ⟨k, hk, _, hkw⟩ := DataW.trod_int Tryd.underlying22 h0
      obtain ⟨yes, hy, _⟩ := DataW.trod_bool Tryd.underlying4 h1
      obtain ⟨z0, z1, m, hz, _, g0, g1⟩ := trod_struct2 Tryd.underlying24 h2
      obtain ⟨neg, hng, _⟩ := DataW.trod_bool Tryd.underlying4 g0
      obtain ⟨mag, hmg, hmz, _⟩ := DataW.trod_string Tryd.underlying9 g1
      obtain ⟨raw, hrw, hrz, _⟩ := DataW.trod_string Tryd.underlying9 h3
      rw [e4] at hng
      rw [e9] at hmg
      obtain rfl : v0 = .int .u8 k := by simpa using hk
      obtain rfl : v1 = .bool yes := by simpa using hy
      obtain rfl : v2 = .bool neg := by simpa using hng
      obtain rfl : v3 = .string mag := by simpa using hmg
      obtain rfl : v4 = .string raw := by simpa using hrw
      have hkb : 0 ≤ k ∧ k ≤ 255 := by
        simp only [Lit.wf, Bool.and_eq_true, decide_eq_true_eq] at hkw
        exact hkw
      obtain ⟨l, hl, hll⟩ := ih n (by omega) v5 y4 h4 q4
      have hms : mag.size ≤ reachBytes := by
        refine q2 _ ?_
        rw [hz]
        simp [DataW.weights, Tryd.underlying24, DataW.weightsEach, hmz]
      have hrs : raw.size ≤ reachBytes := by
        refine q3 _ ?_
        rw [hrz]
        simp [DataW.weights]
      have hr : reachBytes = 140737488351232 := by decide
      rw [hr] at hms hrs hll
      refine ⟨.mk k.toNat yes neg mag raw l, v5, ?_, ⟨?_, hms, hrs, hll⟩, hl⟩
      · show [Value.int .u8 k, _, _, _, _, _] = [.int .u8 (k.toNat : Int), _, _, _, _, _]
        rw [Int.toNat_of_nonneg hkb.1]
        rfl
      · show k.toNat < 256
        omega

set_option maxRecDepth 100000 in
theorem list_trod {H : Type} {enc : TypeId × Value → H} {w : World} {base : Nat} {sp : Nat → Bool} {held : Bool} (fuel : Nat) : ListOpens H enc w base sp held fuel := by
  induction fuel using Nat.strongRecOn with
  | _ fuel ih =>
  intro v x h hw
  rcases DataW.trod_slice Tryd.underlying25 h with ⟨hc, rfl⟩ | ⟨a, len, cap, elems, rest, n, rfl, hc, rfl, _, hlc, _, hel, hall, _⟩
  · obtain rfl : v = .slice none 0 0 := by simpa using hc
    exact ⟨[], PI.nil _ _ _, Nat.zero_le _⟩
  obtain rfl : v = .slice (some a) len cap := by simpa using hc
  have e27 : Tryd.prog.cellsOf 27 = 6 := by kernel_rfl
  have b27 : 1 ≤ Tryd.prog.bytesOf 27 := by decide +kernel
  rw [e27] at hall
  have hw' : (elems.length + rest.length) * Tryd.prog.bytesOf 27 ≤ reachBytes ∧ ∀ n ∈ DataW.weightsAll Tryd.prog 27 (elems.map (·.1)), n ≤ reachBytes := by
    simp only [DataW.weights, Tryd.underlying25, List.length_map, List.mem_cons, List.mem_append] at hw
    exact ⟨hw _ (.inl rfl), fun n hn => hw n (.inr (.inl hn))⟩
  have hlen : len ≤ reachBytes := by
    have h1 : (elems.length + rest.length) * 1 ≤ (elems.length + rest.length) * Tryd.prog.bytesOf 27 := Nat.mul_le_mul_left _ b27
    omega
  obtain ⟨b, off, spot⟩ := a
  by_cases h0 : len = 0
  · subst h0
    exact ⟨[], PI.mk [] (some ⟨b, off, spot⟩) cap (fun _ => .nilIface) (Nat.zero_le _) (fun j hj => by cases hj) (fun j hj => by cases hj) (fun j hj => by cases hj), Nat.zero_le _⟩
  obtain rfl : spot = none := by
    have h1 := hall 0 (by omega)
    rw [List.getElem?_eq_getElem (by omega)] at h1
    obtain ⟨cs, h2, h3⟩ := Option.bind_eq_some_iff.1 h1
    obtain ⟨_, hcl, hat⟩ := World.cells?_some h2
    have := hat 0 (by decide)
    rw [List.getElem?_eq_getElem (by omega)] at this
    simpa [Addr.add] using World.cell?_spot this
  have hadd : ∀ o k, (⟨b, o, none⟩ : Addr).add k = ⟨b, o + k, none⟩ := fun o k => by
    simp only [Addr.add]
    split <;> simp_all
  have key : ∀ j, j < len → b < w.heap.size ∧ ∃ (p : Pt) (u : Value), PartCells w b (off + j * 6) p u ∧ Fit p ∧ PI w 0 w.heap.size p.items u := fun j hj => by
    have h1 := hall j hj
    rw [List.getElem?_eq_getElem (by omega)] at h1
    obtain ⟨cs, h2, h3⟩ := Option.bind_eq_some_iff.1 h1
    obtain ⟨p, u, rfl, hf, hp⟩ := part_trod (fun m hm => ih m (by omega)) h3 (fun m hm => hw'.2 m (wAll (List.mem_map.2 ⟨_, List.getElem_mem _, rfl⟩) m hm))
    obtain ⟨_, _, hat⟩ := World.cells?_some h2
    have at_ : ∀ i, i < 6 → w.cell? ⟨b, off + j * 6 + i, none⟩ = [Value.int .u8 p.kind, .bool p.yes, .bool p.neg, .string p.mag, .string p.raw, u][i]? := fun i hi => by
      rw [← hat i hi, hadd, hadd]
    exact ⟨World.block_lt_of_cell? w _ (at_ 0 (by decide)), p, u, ⟨at_ 0 (by decide), at_ 1 (by decide), at_ 2 (by decide), at_ 3 (by decide), at_ 4 (by decide), at_ 5 (by decide)⟩, hf, hp⟩
  let G : Nat → Pt := fun j => if hj : j < len then (key j hj).2.choose else .mk 0 false false ⟨#[]⟩ ⟨#[]⟩ []
  let F : Nat → Value := fun j => if hj : j < len then (key j hj).2.choose_spec.choose else .nilIface
  have hG : ∀ j, j < len → PartCells w b (off + j * 6) (G j) (F j) ∧ Fit (G j) ∧ PI w 0 w.heap.size (G j).items (F j) := fun j hj => by
    simp only [G, F, hj, dif_pos]
    exact (key j hj).2.choose_spec.choose_spec
  have hl : ((List.range len).map G).length = len := by simp
  have hg : ∀ j (h : j < ((List.range len).map G).length), ((List.range len).map G)[j] = G j := fun j h => by simp
  refine ⟨(List.range len).map G, ?_, by rw [hl]; exact hlen⟩
  have := PI.mk (w := w) (lo := 0) (hi := w.heap.size) ((List.range len).map G) (some ⟨b, off, none⟩) cap F (by rw [hl]; exact hlc)
    (fun j h => ⟨b, off, rfl, Nat.zero_le _, (key j (by omega)).1, by rw [hg]; exact (hG j (by omega)).1⟩) (fun j h => by rw [hg]; exact (hG j (by omega)).2.1) (fun j h => by rw [hg]; exact (hG j (by omega)).2.2)
  rw [hl] at this
  exact this

set_option maxRecDepth 100000 in
/-- A part handed in: its fields, its items. -/
theorem open_part {H : Type} {enc : TypeId × Value → H} {w : World} {base b0 : Nat} {sp : Nat → Bool} {held : Bool} {r : Reach} {v : Value} {d : DataW H} {ps : List MemPlace}
    (hval : Value.okWide Tryd.prog w r b0 27 v) (h : DataW.Trod enc Tryd.prog w base sp held 27 v d ps) (hw : ∀ n ∈ d.weights Tryd.prog 27, n ≤ reachBytes) :
    ∃ (p : Pt) (u : Value), v = .agg #[.int .u8 p.kind, .bool p.yes, .bool p.neg, .string p.mag, .string p.raw, u] ∧ FitA p ∧ PI w 0 w.heap.size p.items u := by
  obtain ⟨fuel, hf⟩ := h
  obtain ⟨p, u, hc, hfp, hp⟩ := part_trod (fun m _ => list_trod m) hf hw
  obtain ⟨cs, rfl, _⟩ := okWide_struct Tryd.underlying27 hval
  refine ⟨p, u, ?_, .mk p hfp hp.fitA, hp⟩
  have hc' : cs.toList = [.int .u8 p.kind, .bool p.yes, .bool p.neg, .string p.mag, .string p.raw, u] := hc
  cases cs
  simp_all
end Go.Proofs.YtcgphlilijeifaaDoor.V
