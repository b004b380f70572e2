import Derived.StillTailTactics
import Derived.Deep.RegionHeld3
import Derived.Test.YtcgphlilijeifaaDoorLitPrintsQ16
import Derived.Test.YtcgphlilijeifaaDoorLitPrintsQ17
import Derived.Test.YtcgphlilijeifaaDoorLitPrintsQ9
import Derived.Test.YtcgphlilijeifaaDoorLitPrintsQ8
section
/-
  The reader of a text: any part.
-/
namespace Go.Proofs.YtcgphlilijeifaaDoor.L
open Go.RowKit
open V (Pt)

theorem noHead_end {s : ByteArray} {a : Nat} (d : Int) (h : ¬ a < s.size) : NoHead (nx s a : Int) d := by
  rw [nx_ge h]
  exact ⟨by decide, .inl (by decide), by decide, by decide, by decide, by decide, .inl (by decide)⟩
theorem noHead_at {s : ByteArray} {a : Nat} (d : Int) (h : a < s.size) {c : UInt8} (hc : s[a] = c) (h1 : ¬ (c = 45 ∨ isDigit c = true)) (h2 : ¬ (c = 120 ∨ c = 35)) (h3 : ¬ (c = 39 ∨ c = 34)) (h4 : c ≠ 40 ∨ ¬ d < 16) : NoHead (nx s a : Int) d := by
  rw [nx_lt h, hc]
  simp only [not_or] at h1 h2 h3
  refine ⟨u8_nat (d := 45) rfl h1.1, ?_, u8_nat (d := 120) rfl h2.1, u8_nat (d := 35) rfl h2.2, u8_nat (d := 39) rfl h3.1, u8_nat (d := 34) rfl h3.2, ?_⟩
  · have := h1.2
    simp [isDigit] at this
    by_cases h48 : 48 ≤ c.toNat
    · exact .inr ⟨by simp; omega, by simp; have := this (by simpa using h48); omega⟩
    · exact .inl (by simp; omega)
  · by_cases h40 : c = 40
    · exact .inr ⟨by subst h40; decide, by have := h4.resolve_left (fun e => e h40); simpa using this⟩
    · exact .inl (u8_nat (d := 40) rfl h40)
theorem rpart_any (s : ByteArray) (hs : s.size ≤ 65536) : ∀ (m : Nat), m ≤ 16 → ∀ (b a : Nat) (w : World), Lr w b s a → a ≤ s.size →
    Calls Tryd.prog 80 #[.pointer (some ⟨b, 0, none⟩), .int .i64 (16 - (m : Int))] w (PPost b s (partF m (s.toList.drop a)) w) := by
  intro m
  induction m with
  | zero =>
    intro hm b a w hr ha
    by_cases hlt : a < s.size
    · obtain ⟨c, hc⟩ : ∃ c, s[a] = c := ⟨_, rfl⟩
      have hd := drop2 hlt hc
      by_cases h1 : c = 45 ∨ isDigit c = true
      · have := rpart_num (16 - ((0 : Nat) : Int)) b s a w hr hlt hs c hc h1
        rw [hd, partF_num _ _ h1, ← hd]; exact this
      by_cases h2 : c = 120 ∨ c = 35
      · have := rpart_dig (16 - ((0 : Nat) : Int)) b s a w hr hlt hs c hc h2
        rw [hd, partF_dig _ _ h2, ← hd]; exact this
      by_cases h3 : c = 39 ∨ c = 34
      · have := rpart_quo (16 - ((0 : Nat) : Int)) b s a w hr hlt hs c hc h3
        rw [hd, partF_quo _ _ h3, ← hd]; exact this
      have := rpart_word (16 - ((0 : Nat) : Int)) b s a w hr ha hs (noHead_at _ hlt hc h1 h2 h3 (.inr (by decide)))
      by_cases h4 : c = 40
      · subst h4; rw [hd, partF_shut, ← hd]; exact this
      · rw [hd, partF_word _ _ h1 h2 h3 h4, ← hd]; exact this
    · have := rpart_word (16 - ((0 : Nat) : Int)) b s a w hr ha hs (noHead_end _ hlt)
      rw [drop_end s hlt] at this ⊢
      rw [partF_nil]; exact this
  | succ m ih =>
    intro hm b a w hr ha
    by_cases hlt : a < s.size
    · obtain ⟨c, hc⟩ : ∃ c, s[a] = c := ⟨_, rfl⟩
      have hd := drop2 hlt hc
      by_cases h1 : c = 45 ∨ isDigit c = true
      · have := rpart_num (16 - ((m + 1 : Nat) : Int)) b s a w hr hlt hs c hc h1
        rw [hd, partF_num _ _ h1, ← hd]; exact this
      by_cases h2 : c = 120 ∨ c = 35
      · have := rpart_dig (16 - ((m + 1 : Nat) : Int)) b s a w hr hlt hs c hc h2
        rw [hd, partF_dig _ _ h2, ← hd]; exact this
      by_cases h3 : c = 39 ∨ c = 34
      · have := rpart_quo (16 - ((m + 1 : Nat) : Int)) b s a w hr hlt hs c hc h3
        rw [hd, partF_quo _ _ h3, ← hd]; exact this
      by_cases h4 : c = 40
      · subst h4
        have := rpart_open (16 - ((m + 1 : Nat) : Int)) (by omega) (by omega) (openF (partF m) (s.toList.drop (a + 1))) b s a w hr hlt hs hc (fun w hr => by
          rw [show (16 - ((m + 1 : Nat) : Int)) + 1 = 16 - (m : Int) by omega]
          exact rtuple_any m (16 - (m : Int)) s hs (ih (by omega)) b a w hr hlt)
        rw [hd, partF_open]; exact this
      · have := rpart_word (16 - ((m + 1 : Nat) : Int)) b s a w hr ha hs (noHead_at _ hlt hc h1 h2 h3 (.inl h4))
        rw [hd, partF_word _ _ h1 h2 h3 h4, ← hd]; exact this
    · have := rpart_word (16 - ((m + 1 : Nat) : Int)) b s a w hr ha hs (noHead_end _ hlt)
      rw [drop_end s hlt] at this ⊢
      rw [partF_nil]; exact this
end Go.Proofs.YtcgphlilijeifaaDoor.L
end
section
/-
  lit.Parse's deferred closure: idle, and behind a panic at a place.
-/
namespace Go.Proofs.YtcgphlilijeifaaDoor.L
open Go.RowKit
open V (Pt)

set_option maxRecDepth 100000 in
theorem rcatch_idle (p q r : Addr) (w : World) :
    CallsD Tryd.prog 79 #[.pointer (some p), .pointer (some q), .pointer (some r)] .returning w fun e u' w' => e = .returned (.tuple #[]) ∧ u' = .returning ∧ Below w.heap.size w w' := by
  have hta : ∀ (w : World), (Instr.typeAssert .nilIface 20 133 true).run Tryd.prog w = .ok (.tuple #[.agg #[.int .i64 0], .bool false]) w := fun _ => by kernel_rfl
  refine callsD_of_wpS Tryd.func79 rfl fun c₀ cs hu => ?_
  apply wpS_seq
  apply wpS_region
  simp [wpOpsS, go_sem, recoverD, hu, Tryd.ntmps79, Exit.thenS, hta]
  rw [show Array.replicate 10 undef = #[undef, undef, undef, undef, undef, undef, undef, undef, undef, undef] from rfl]
  simp
  refine wpS_of_wp (Code.wp_mono (fun e a' w' (h : Ends (fun w' => Below w.heap.size w w') e a' w') => ?_) ?_)
  · obtain ⟨rfl, hd, h⟩ := h
    simp [bodyPostS, results, Tryd.results79, hd, h]
    cases c₀
    simp_all
  go_wp2_with fail
  exact ⟨rfl, rfl, (Below.refl _ w).alloc (Nat.le_refl _) _⟩

set_option maxRecDepth 100000 in
theorem rcatch_bad (g : Nat) (x z u : Int) (y : Value) (w : World) (c0 : w.cell? ⟨g, 0, none⟩ = some y) (c1 : w.cell? ⟨g + 1, 0, none⟩ = some (.int .i64 z)) (c2 : w.cell? ⟨g + 2, 0, none⟩ = some (.int .i64 u))
    (z0 : w.frozen? ⟨g, 0, none⟩ = false) (z1 : w.frozen? ⟨g + 1, 0, none⟩ = false) (z2 : w.frozen? ⟨g + 2, 0, none⟩ = false) :
    CallsD Tryd.prog 79 #[.pointer (some ⟨g, 0, none⟩), .pointer (some ⟨g + 1, 0, none⟩), .pointer (some ⟨g + 2, 0, none⟩)] (.panicking [{ v := .iface 133 (.agg #[.int .i64 x]), recovered := false }]) w fun e u' w' =>
      e = .returned (.tuple #[]) ∧ u' = .panicking [{ v := .iface 133 (.agg #[.int .i64 x]), recovered := true }] ∧
        w'.cell? ⟨g, 0, none⟩ = some .nilIface ∧ w'.cell? ⟨g + 1, 0, none⟩ = some (.int .i64 100) ∧ w'.cell? ⟨g + 2, 0, none⟩ = some (.int .i64 x) ∧ Below g w w' := by
  have hta : ∀ (v : Value) (w : World), (Instr.typeAssert (.iface 133 v) 20 133 true).run Tryd.prog w = .ok (.tuple #[v, .bool true]) w := fun _ _ => by kernel_rfl
  refine callsD_of_wpS Tryd.func79 rfl fun c₀ cs hu => ?_
  apply wpS_seq
  apply wpS_region
  simp [wpOpsS, go_sem, recoverD, hu, Tryd.ntmps79, Exit.thenS, hta]
  rw [show Array.replicate 10 undef = #[undef, undef, undef, undef, undef, undef, undef, undef, undef, undef] from rfl]
  simp
  refine wpS_of_wp (Code.wp_mono (fun e a' w' (h : Ends (fun w' => w'.cell? ⟨g, 0, none⟩ = some .nilIface ∧ w'.cell? ⟨g + 1, 0, none⟩ = some (.int .i64 100) ∧ w'.cell? ⟨g + 2, 0, none⟩ = some (.int .i64 x) ∧ Below g w w') e a' w') => ?_) ?_)
  · obtain ⟨rfl, hd, h⟩ := h
    simp [bodyPostS, results, Tryd.results79, hd, h]
  have k2 : g + 2 < w.heap.size := World.block_lt_of_cell? w _ c2
  obtain ⟨W, hW⟩ : ∃ W, W = w.alloc (.cells #[.int .i64 x] 133) := ⟨_, rfl⟩
  have d0 : W.cell? ⟨g, 0, none⟩ = some y := by rw [hW]; exact (World.cell?_of_block (Below.heap_alloc w _ g (by omega))).trans c0
  have d1 : W.cell? ⟨g + 1, 0, none⟩ = some (.int .i64 z) := by rw [hW]; exact (World.cell?_of_block (Below.heap_alloc w _ (g + 1) (by omega))).trans c1
  have d2 : W.cell? ⟨g + 2, 0, none⟩ = some (.int .i64 u) := by rw [hW]; exact (World.cell?_of_block (Below.heap_alloc w _ (g + 2) k2)).trans c2
  have y0 : W.frozen? ⟨g, 0, none⟩ = false := by rw [hW]; exact (World.frozen?_of_block (Below.heap_alloc w _ g (by omega))).trans z0
  have y1 : W.frozen? ⟨g + 1, 0, none⟩ = false := by rw [hW]; exact (World.frozen?_of_block (Below.heap_alloc w _ (g + 1) (by omega))).trans z1
  have y2 : W.frozen? ⟨g + 2, 0, none⟩ = false := by rw [hW]; exact (World.frozen?_of_block (Below.heap_alloc w _ (g + 2) k2)).trans z2
  have x0 : W.cell? ⟨w.heap.size, 0, none⟩ = some (.int .i64 x) := by rw [hW]; simp [go_sem]
  have hb : Below g w W := by rw [hW]; exact (Below.refl g w).alloc (by omega) _
  have kW : g + 2 < W.heap.size := World.block_lt_of_cell? W _ d2
  rw [← hW]
  clear hW c0 c1 c2 z0 z1 z2
  go_wp2_with fail
  go_region
  all_goals
    exact ⟨rfl, rfl, by simp [go_sem, d0], by simp [go_sem, d1], by simp [go_sem, d2], by first | exact ((((hb.setCell (Nat.le_refl g) _).setCell (Nat.le_succ g) _).setCell (by simp) _).drew) | exact (((hb.drew.setCell (Nat.le_refl g) _).setCell (Nat.le_succ g) _).setCell (by simp) _)⟩
end Go.Proofs.YtcgphlilijeifaaDoor.L
end
section
/-
  What Parse comes to, in plain words; what the laws ask of it.
-/
namespace Go.Proofs.YtcgphlilijeifaaDoor.L
open Go.RowKit
open V (Pt)

/-- The place at which reading ends wrong. -/
def Fails (s : ByteArray) (n : Nat) : Prop := (∃ k, partF 16 s.toList = .bad k ∧ n = s.size - k) ∨ ∃ p c r, partF 16 s.toList = .ok p (c :: r) ∧ n + (r.length + 1) = s.size
def ParsePost (s : ByteArray) (w : World) (e : Ending) (w' : World) : Prop :=
  Below w.heap.size w w' ∧ ((65536 < s.size ∧ e = .returned (.tuple #[.nilIface, .int .i64 2, .int .i64 0])) ∨
    (∃ n : Nat, s.size ≤ 65536 ∧ n ≤ s.size ∧ Fails s n ∧ e = .returned (.tuple #[.nilIface, .int .i64 100, .int .i64 n])) ∨
    ∃ p v, s.size ≤ 65536 ∧ partF 16 s.toList = .ok p [] ∧ V.VI w' w.heap.size w'.heap.size p v ∧ e = .returned (.tuple #[v, .int .i64 0, .int .i64 0]))
theorem ParsePost.yes {s : ByteArray} {w w' : World} {e : Ending} (h : ParsePost s w e w') {p : Pt} (hs : s.size ≤ 65536) (hp : partF 16 s.toList = .ok p []) :
    Below w.heap.size w w' ∧ ∃ v, V.VI w' w.heap.size w'.heap.size p v ∧ e = .returned (.tuple #[v, .int .i64 0, .int .i64 0]) := by
  obtain ⟨hb, h | ⟨n, _, _, hf, _⟩ | ⟨q, v, _, hq, hv, he⟩⟩ := h
  · omega
  · rcases hf with ⟨k, hk, _⟩ | ⟨q, c, r, hk, _⟩
    · rw [hp] at hk; cases hk
    · rw [hp] at hk; cases hk
  · rw [hp] at hq
    cases hq
    exact ⟨hb, v, hv, he⟩
theorem ParsePost.no {s : ByteArray} {w w' : World} {e : Ending} (h : ParsePost s w e w') {n : Nat} (hs : s.size ≤ 65536) (hn : ∀ m, Fails s m → m = n) (hp : ∀ p, partF 16 s.toList ≠ .ok p []) :
    Below w.heap.size w w' ∧ e = .returned (.tuple #[.nilIface, .int .i64 100, .int .i64 n]) := by
  obtain ⟨hb, h | ⟨m, _, _, hf, he⟩ | ⟨q, v, _, hq, hv, he⟩⟩ := h
  · omega
  · rw [hn m hf] at he; exact ⟨hb, he⟩
  · exact absurd hq (hp q)
/-- Wrong, no matter where. -/
theorem ParsePost.bad {s : ByteArray} {w w' : World} {e : Ending} (h : ParsePost s w e w') (hs : s.size ≤ 65536) (hp : ∀ p, partF 16 s.toList ≠ .ok p []) :
    Below w.heap.size w w' ∧ ∃ n : Nat, e = .returned (.tuple #[.nilIface, .int .i64 100, .int .i64 n]) := by
  obtain ⟨hb, h | ⟨m, _, _, hf, he⟩ | ⟨q, v, _, hq, hv, he⟩⟩ := h
  · omega
  · exact ⟨hb, m, he⟩
  · exact absurd hq (hp q)

theorem whole_text {s : ByteArray} {p : Pt} (h : partF 16 s.toList = .ok p []) : s.toList = textP p ∧ V.depthP p ≤ 16 ∧ (s.size ≤ 65536 → V.mayB p = true) := by
  obtain ⟨h1, h2, h3⟩ := part_back 16 _ _ _ h
  rw [List.append_nil] at h1
  exact ⟨h1, h2, fun hs => h3 (by rw [size_of]; exact hs)⟩
theorem text_whole {s : ByteArray} {p : Pt} (hm : V.mayB p = true) (hd : V.depthP p ≤ 16) (h : s.toList = textP p) : partF 16 s.toList = .ok p [] := by
  have := part_read p 16 hm hd [] Stop.nil
  rw [List.append_nil] at this
  rw [h, this]
/-- Something behind. -/
theorem behind_ok {s t : ByteArray} {p : Pt} {c : UInt8} {r : List UInt8} (h : partF 16 s.toList = .ok p []) (hs : s.size ≤ 65536) (ht : t.toList = s.toList ++ c :: r) (hc : c = 32 ∨ c = 41) : partF 16 t.toList = .ok p (c :: r) := by
  obtain ⟨h1, h2, h3⟩ := whole_text h
  rw [ht, h1]
  exact part_read p 16 (h3 hs) h2 _ (by rcases hc with rfl | rfl; exact Stop.blank r; exact Stop.shut r)
theorem behind_fails {s t : ByteArray} {p : Pt} {c : UInt8} {r : List UInt8} (h : partF 16 s.toList = .ok p []) (hs : s.size ≤ 65536) (ht : t.toList = s.toList ++ c :: r) (hc : c = 32 ∨ c = 41) :
    (∀ m, Fails t m → m = s.size) ∧ ∀ q, partF 16 t.toList ≠ .ok q [] := by
  have hk := behind_ok h hs ht hc
  have hl := congrArg List.length ht
  rw [List.length_append, List.length_cons, size_of, size_of] at hl
  refine ⟨fun m hm => ?_, fun q hq => ?_⟩
  · rcases hm with ⟨k, hb, _⟩ | ⟨q, d, u, hb, hu⟩
    · rw [hk] at hb; cases hb
    · rw [hk] at hb
      cases hb
      omega
  · rw [hk] at hq; cases hq
/-- Within brackets. -/
theorem within_ok {s t : ByteArray} {p : Pt} (h : partF 16 s.toList = .ok p []) (hs : s.size ≤ 65536) (ht : t.toList = 40 :: (s.toList ++ [41])) (hd : V.depthP p ≤ 15) : partF 16 t.toList = .ok (.mk 7 false false ⟨#[]⟩ ⟨#[]⟩ [p]) [] := by
  obtain ⟨h1, h2, h3⟩ := whole_text h
  have hm := h3 hs
  have := tuple_read 15 [p] (fun q hq r hr => by rw [List.mem_singleton] at hq; subst hq; exact part_read q 15 hm hd r hr) (fun q hq => by rw [List.mem_singleton] at hq; subst hq; exact hm) (by simp) []
  rw [textI_one] at this
  rw [ht, h1]
  exact this
theorem within_no {s t : ByteArray} {p : Pt} (h : partF 16 s.toList = .ok p []) (hs : s.size ≤ 65536) (ht : t.toList = 40 :: (s.toList ++ [41])) (hd : V.depthP p = 16) (hts : t.size ≤ 65536) : ∀ q, partF 16 t.toList ≠ .ok q [] := by
  intro q hq
  obtain ⟨h1, h2, h3⟩ := whole_text h
  obtain ⟨k1, k2, k3⟩ := whole_text hq
  have hm := h3 hs
  have e1 := tuple_read 16 [p] (fun q hq r hr => by rw [List.mem_singleton] at hq; subst hq; exact part_read q 16 hm h2 r hr) (fun q hq => by rw [List.mem_singleton] at hq; subst hq; exact hm) (by simp) []
  rw [textI_one] at e1
  have e2 := part_read q 17 (k3 hts) (by omega) [] Stop.nil
  rw [List.append_nil, ← k1, ht, h1] at e2
  have e3 : (Res.ok (V.Pt.mk 7 false false ⟨#[]⟩ ⟨#[]⟩ [p]) [] : Res Pt) = .ok q [] := e1.symm.trans e2
  cases e3
  rw [V.depthP_eq] at k2
  simp only [Pt.kind, Pt.items, if_true] at k2
  have := (V.depthL_le [p] 15).1 (by omega) p (List.mem_singleton.2 rfl)
  omega

theorem sameL_self {l : List Pt} (h : ∀ q ∈ l, V.sameP q q = true) : V.sameL l l = true := by
  induction l with
  | nil => exact V.sameL_nil
  | cons p r ih => rw [V.sameL_cons, h p (List.mem_cons_self ..), ih (fun q hq => h q (List.mem_cons_of_mem _ hq))]; rfl
theorem sameP_self (p : Pt) : V.sameP p p = true := by
  induction p using Pt.ind with
  | h p ih => rw [V.sameP_eq, sameL_self ih]; simp [V.oneB]
/-- Two parts of one text are one. -/
theorem text_inj {p q : Pt} (hp : V.mayB p = true) (hq : V.mayB q = true) (hd : V.depthP p ≤ 16) (hd2 : V.depthP q ≤ 16) (h : textP p = textP q) : p = q := by
  have e1 := part_read p 16 hp hd [] Stop.nil
  have e2 := part_read q 16 hq hd2 [] Stop.nil
  rw [h] at e1
  have e3 := e1.symm.trans e2
  cases e3
  rfl
theorem same_eq (p : Pt) : ∀ q, V.sameP p q = true → p = q := by
  induction p using Pt.ind with
  | h p ih =>
  intro q h
  rw [V.sameP_eq] at h
  simp only [Bool.and_eq_true] at h
  obtain ⟨h1, h2⟩ := h
  unfold V.oneB at h1
  simp only [Bool.and_eq_true, beq_iff_eq] at h1
  have key : ∀ (l m : List Pt), (∀ x ∈ l, ∀ y, V.sameP x y = true → x = y) → V.sameL l m = true → l = m := by
    intro l
    induction l with
    | nil =>
      intro m _ hl
      cases m with
      | nil => rfl
      | cons y m => have := V.sameL_length hl; simp at this
    | cons x l ih2 =>
      intro m hx hl
      cases m with
      | nil => have := V.sameL_length hl; simp at this
      | cons y m =>
        rw [V.sameL_cons, Bool.and_eq_true] at hl
        rw [hx x (List.mem_cons_self ..) y hl.1, ih2 m (fun z hz => hx z (List.mem_cons_of_mem _ hz)) hl.2]
  have hi := key p.items q.items ih h2
  cases p
  cases q
  simp only [Pt.kind, Pt.yes, Pt.neg, Pt.mag, Pt.raw, Pt.items] at h1 hi
  obtain ⟨⟨⟨⟨a1, a2⟩, a3⟩, a4⟩, a5⟩ := h1
  rw [a1, a2, a3, hi, V.ba_same a4, V.ba_same a5]
theorem texts_same {p q : Pt} (hp : V.mayB p = true) (hq : V.mayB q = true) (hd : V.depthP p ≤ 16) (hd2 : V.depthP q ≤ 16) : (textP p == textP q) = V.sameP p q := by
  by_cases h : textP p = textP q
  · rw [text_inj hp hq hd hd2 h, sameP_self]
    simp
  · cases hs : V.sameP p q with
    | true => exact absurd (by rw [same_eq p q hs]) h
    | false => simpa using h

/-- What is read may be made. -/
theorem whole_make {s : ByteArray} {p : Pt} {r : List UInt8} (h : partF 16 s.toList = .ok p r) (hs : s.size ≤ 65536) : V.makeE p = 0 := by
  obtain ⟨_, h2, h3⟩ := part_back 16 _ _ _ h
  have hd : V.deepB 16 p = false := by
    cases hb : V.deepB 16 p with
    | true => have := (V.deepB_iff 16 p).1 hb; omega
    | false => rfl
  unfold V.makeE
  rw [hd, h3 (by rw [size_of]; exact hs)]
  rfl
end Go.Proofs.YtcgphlilijeifaaDoor.L
end
section
/-
  lit.Parse: its contract.
-/
namespace Go.Proofs.YtcgphlilijeifaaDoor.L
open Go.RowKit
open V (Pt)

/-- The results' places, as they were made. -/
structure Rs (g : Nat) (w : World) : Prop where
  c0 : w.cell? ⟨g, 0, none⟩ = some .nilIface
  c1 : w.cell? ⟨g + 1, 0, none⟩ = some (.int .i64 0)
  c2 : w.cell? ⟨g + 2, 0, none⟩ = some (.int .i64 0)
  z0 : w.frozen? ⟨g, 0, none⟩ = false
  z1 : w.frozen? ⟨g + 1, 0, none⟩ = false
  z2 : w.frozen? ⟨g + 2, 0, none⟩ = false
theorem Rs.below {g : Nat} {w w' : World} (h : Rs g w) (hb : Below (g + 3) w w') : Rs g w' where
  c0 := (hb.cell (p := ⟨g, 0, none⟩) (by simp)).trans h.c0
  c1 := (hb.cell (p := ⟨g + 1, 0, none⟩) (by simp)).trans h.c1
  c2 := (hb.cell (p := ⟨g + 2, 0, none⟩) (by simp)).trans h.c2
  z0 := (hb.frozen (p := ⟨g, 0, none⟩) (by simp)).trans h.z0
  z1 := (hb.frozen (p := ⟨g + 1, 0, none⟩) (by simp)).trans h.z1
  z2 := (hb.frozen (p := ⟨g + 2, 0, none⟩) (by simp)).trans h.z2

/-- Out by the panic at a place: the closure catches it. -/
theorem lleaves_bad (s : ByteArray) (w : World) (tmps : Array Value) (x : Nat) {w1 : World} (h2 : tmps.getD 2 undef = .pointer (some ⟨w.heap.size, 0, none⟩)) (h3 : tmps.getD 3 undef = .pointer (some ⟨w.heap.size + 1, 0, none⟩))
    (h4 : tmps.getD 4 undef = .pointer (some ⟨w.heap.size + 2, 0, none⟩)) (hRs : Rs w.heap.size w1) (hB : Below w.heap.size w w1) (hs : s.size ≤ 65536) (hx : x ≤ s.size) (hF : Fails s x) :
    Leaves Tryd.prog Tryd.f40 tmps (ParsePost s w) [{ target := .fn (.func 79) #[.pointer (some ⟨w.heap.size, 0, none⟩), .pointer (some ⟨w.heap.size + 1, 0, none⟩), .pointer (some ⟨w.heap.size + 2, 0, none⟩)], args := #[] }] (.panicking [{ v := .iface 133 (.agg #[.int .i64 (x : Int)]), recovered := false }]) w1 := by
  refine leaves_cons (f := 79) (args := #[.pointer (some ⟨w.heap.size, 0, none⟩), .pointer (some ⟨w.heap.size + 1, 0, none⟩), .pointer (some ⟨w.heap.size + 2, 0, none⟩)]) (by simp) (by simp [go_sem]) ?_
  refine (rcatch_bad w.heap.size x _ _ _ w1 hRs.c0 hRs.c1 hRs.c2 hRs.z0 hRs.z1 hRs.z2).mono ?_
  rintro e u' w2 ⟨rfl, rfl, d0, d1, d2, hb2⟩
  refine ⟨.tuple #[.nilIface, .int .i64 100, .int .i64 x], ?_, hB.trans hb2, .inr (.inl ⟨x, hs, hx, hF, rfl⟩)⟩
  simp only [Array.getD_eq_getD_getElem?] at h2 h3 h4
  simp [results, Tryd.results40, go_sem, h2, h3, h4, d0, d1, d2]

/-- Out with a value: the closure is idle. -/
theorem lleaves_good (s : ByteArray) (w : World) (tmps : Array Value) (p : Pt) (v : Value) {w1 : World} (h2 : tmps.getD 2 undef = .pointer (some ⟨w.heap.size, 0, none⟩)) (h3 : tmps.getD 3 undef = .pointer (some ⟨w.heap.size + 1, 0, none⟩))
    (h4 : tmps.getD 4 undef = .pointer (some ⟨w.heap.size + 2, 0, none⟩)) (d0 : w1.cell? ⟨w.heap.size, 0, none⟩ = some v) (d1 : w1.cell? ⟨w.heap.size + 1, 0, none⟩ = some (.int .i64 0)) (d2 : w1.cell? ⟨w.heap.size + 2, 0, none⟩ = some (.int .i64 0))
    (hB : Below w.heap.size w w1) (hs : s.size ≤ 65536) (hp : partF 16 s.toList = .ok p []) (hv : V.VI w1 w.heap.size w1.heap.size p v) :
    Leaves Tryd.prog Tryd.f40 tmps (ParsePost s w) [{ target := .fn (.func 79) #[.pointer (some ⟨w.heap.size, 0, none⟩), .pointer (some ⟨w.heap.size + 1, 0, none⟩), .pointer (some ⟨w.heap.size + 2, 0, none⟩)], args := #[] }] .returning w1 := by
  refine leaves_cons (f := 79) (args := #[.pointer (some ⟨w.heap.size, 0, none⟩), .pointer (some ⟨w.heap.size + 1, 0, none⟩), .pointer (some ⟨w.heap.size + 2, 0, none⟩)]) (by simp) (by simp [go_sem]) ?_
  refine (rcatch_idle _ _ _ w1).mono ?_
  rintro e u' w2 ⟨rfl, rfl, hb2⟩
  have e0 := V.keeps hb2 d0
  have e1 := V.keeps hb2 d1
  have e2 := V.keeps hb2 d2
  refine ⟨.tuple #[v, .int .i64 0, .int .i64 0], ?_, V.two hB hb2, .inr (.inr ⟨p, v, hs, hp, (hv.same (V.Same.of_below hb2 (Nat.le_refl _))).wide (Nat.le_refl _) hb2.size, rfl⟩)⟩
  simp only [Array.getD_eq_getD_getElem?] at h2 h3 h4
  simp [results, Tryd.results40, go_sem, h2, h3, h4, e0, e1, e2]

set_option maxRecDepth 100000 in
set_option maxHeartbeats 4000000 in
theorem lparse_any (s : ByteArray) (w : World) : Calls Tryd.prog 40 #[.string s] w (ParsePost s w) := by
  have hmf : ∀ (fn : Fn) (first cap : Array Value) (w : World), (Instr.makeFunc fn first cap).run Tryd.prog w = .ok (.func fn first cap) w := fun _ _ _ _ => rfl
  obtain ⟨W, hW⟩ : ∃ W : World, W = ((w.alloc (.cells #[.nilIface] 33)).alloc (.cells #[.int .i64 0] 30)).alloc (.cells #[.int .i64 0] 3) := ⟨_, rfl⟩
  have hB0 : Below w.heap.size w W := by
    subst hW
    exact (((Below.refl _ w).alloc (Nat.le_refl _) _).alloc (by simp) _).alloc (by simp; omega) _
  by_cases hl : 65536 < s.size
  · have q : decide (65536 < s.size) = true := by simpa using hl
    have q2 : decide ((65536 : Int) < (s.size : Int)) = true := by simp; omega
    have HL := Lib.hid hl
    subst hW
    clear hl
    go_enter_defers Tryd.func40, Tryd.ntmps40
    go_wp2
    exact ⟨.tuple #[.nilIface, .int .i64 2, .int .i64 0], by simp [results, Tryd.results40, go_sem], by first | exact hB0 | exact (((Below.refl _ w).alloc (Nat.le_refl _) _).alloc (by simp) _).alloc (by simp; omega) _, .inl ⟨HL.out, rfl⟩⟩
  have q : decide (65536 < s.size) = false := by simpa using hl
  have q2 : decide ((65536 : Int) < (s.size : Int)) = false := by simp; omega
  have hs : s.size ≤ 65536 := by omega
  clear hl
  have hWs : W.heap.size = w.heap.size + 3 := by subst hW; simp
  have hRs : Rs w.heap.size W := by
    subst hW
    exact ⟨by simp [go_sem], by simp [go_sem], by simp [go_sem], by simp [go_sem], by simp [go_sem], by simp [go_sem]⟩
  obtain ⟨W2, hW2⟩ : ∃ W2 : World, W2 = W.alloc (.cells #[.string s, .int .i64 0] 137) := ⟨_, rfl⟩
  have hB2 : Below (w.heap.size + 3) W W2 := by
    subst hW2
    exact (Below.refl _ W).alloc (by omega) _
  have hLr : Lr W2 (w.heap.size + 3) s 0 := by
    subst hW2
    have := Blk.new W 137 #[.string s, .int .i64 0]
    rw [hWs] at this
    exact this
  have hW2s : W2.heap.size = w.heap.size + 4 := by subst hW2; simp; omega
  have hR2 := hRs.below hB2
  have hBw := hB0.trans (hB2.mono (by omega))
  have HS := Lib.hid hs
  clear hRs hB2 hB0
  go_enter_defers Tryd.func40, Tryd.ntmps40
  go_wp2_with fail
  rw [← hW, ← hW2]
  clear hW hW2
  have hP := rpart_any s hs 16 (Nat.le_refl _) (w.heap.size + 3) 0 W2 hLr (Nat.zero_le _)
  rw [show (16 - ((16 : Nat) : Int)) = 0 by decide] at hP
  refine hP.mono ?_
  clear hP
  rintro e w1 ⟨hg1, ⟨n, hR, he⟩ | ⟨p, r, v, k, hR, rfl, hO, hk, hrk, hL⟩⟩
  · rw [List.drop_zero] at hR
    unfold wrongAt at he
    subst he
    have hb1 : Below (w.heap.size + 3) W2 w1 := hg1.below (Nat.le_refl _) (by omega)
    exact lleaves_bad s w _ (s.size - n) rfl rfl rfl (hR2.below hb1) (hBw.trans (hb1.mono (by omega))) hs (Nat.sub_le _ _) (.inl ⟨n, hR, rfl⟩)
  · rw [List.drop_zero] at hR
    have hb1 : Below (w.heap.size + 3) W2 w1 := hg1.below (Nat.le_refl _) (by omega)
    have hR1 := hR2.below hb1
    have hB1 := hBw.trans (hb1.mono (by omega))
    have hs1 : W2.heap.size ≤ w1.heap.size := hg1.size
    obtain ⟨ad, cap, rfl⟩ := hO.form
    have hm := whole_make hR hs
    have hmay := (V.makeE_ok hm).2
    have c1 := hL.c1
    have HR := Lib.hid hR
    have HM := Lib.hid hm
    have hf := fit_may hmay
    have HO := Lib.hid hO
    have HK := Lib.hid hrk
    have hbl := Blk.lt hL
    clear hR hm hO hrk hb1 hg1 hLr hR2 hBw hmay
    by_cases hlt : k < s.size
    · have e1 : decide (k < s.size) = true := by simpa using hlt
      have e2 : decide ((k : Int) < (s.size : Int)) = true := by simpa using hlt
      have HF := Lib.hid (show Fails s k from .inr ⟨p, s[k], s.toList.drop (k + 1), by rw [HR.out, HK.out, drop_cons s hlt], by rw [List.length_drop, size_of]; omega⟩)
      clear hlt
      go_wp2_with fail
      have hA : Below w1.heap.size w1 (w1.alloc (.cells #[.int .u8 p.kind, .bool p.yes, .bool p.neg, .string p.mag, .string p.raw, .slice ad p.items.length cap] 27)) := (Below.refl _ _).alloc (Nat.le_refl _) _
      exact lleaves_bad s w _ k rfl rfl rfl (hR1.below (hA.mono (by omega))) (hB1.trans (hA.mono (by omega))) hs hk HF.out
    · have e1 : decide (k < s.size) = false := by simpa using hlt
      have e2 : decide ((k : Int) < (s.size : Int)) = false := by simpa using hlt
      have HF := Lib.hid (show partF 16 s.toList = .ok p [] by rw [HR.out, HK.out, drop_end s hlt])
      clear hlt
      go_wp2_with fail
      have hA : Below w1.heap.size w1 (w1.alloc (.cells #[.int .u8 p.kind, .bool p.yes, .bool p.neg, .string p.mag, .string p.raw, .slice ad p.items.length cap] 27)) := (Below.refl _ _).alloc (Nat.le_refl _) _
      refine (V.make_any p _ _ hf ((HO.out.reads.wide (Nat.zero_le _) (Nat.le_refl _)).later hA)).mono ?_
      rintro e w3 ⟨u, rfl, _, hv, hb3⟩
      rw [HM.out]
      have hv3 := hv HM.out
      have hb4 : Below w1.heap.size w1 w3 := V.two hA hb3
      have hR3 := hR1.below (hb4.mono (by omega))
      have hB3 := hB1.trans (hb4.mono (by omega))
      have hs3 : w1.heap.size ≤ w3.heap.size := hb4.size
      have HV := Lib.hid (hv3.wide (lo' := w.heap.size + 3) (by simp; omega) (Nat.le_refl _))
      have h33 : w.heap.size + 3 ≤ w3.heap.size := by omega
      have hu : u = .nilIface ∨ ∃ T V, u = .iface T V := by
        by_cases h0 : p.kind = 0
        · exact .inl (hv3.nilOf h0)
        · exact .inr (hv3.ifaceOf h0)
      obtain ⟨c0, c1', c2, z0, z1, z2⟩ := hR3
      clear hv hv3 hb3 hb4 hA hR1 hB1 hs1 HO hf hL c1 hbl
      have k0 : w.heap.size < w3.heap.size := by omega
      have k1 : w.heap.size + 1 < w3.heap.size := by omega
      have k2 : w.heap.size + 2 < w3.heap.size := by omega
      rcases hu with rfl | ⟨T, x, rfl⟩
      · go_wp2_with fail
        have hSm : V.Same (w.heap.size + 3) w3.heap.size w3 (((((w3.setCell ⟨w.heap.size, 0, none⟩ (.nilIface)).setCell ⟨w.heap.size + 1, 0, none⟩ (.int .i64 0)).setCell ⟨w.heap.size, 0, none⟩ (.nilIface)).setCell ⟨w.heap.size + 1, 0, none⟩ (.int .i64 0)).setCell ⟨w.heap.size + 2, 0, none⟩ (.int .i64 0)) :=
          ((((V.Same.setCell (by omega)).trans (V.Same.setCell (by omega))).trans (V.Same.setCell (by omega))).trans (V.Same.setCell (by omega))).trans (V.Same.setCell (by omega))
        have y1 : (((w3.setCell ⟨w.heap.size, 0, none⟩ (.nilIface)).setCell ⟨w.heap.size + 1, 0, none⟩ (.int .i64 0)).setCell ⟨w.heap.size, 0, none⟩ (.nilIface)).cell? ⟨w.heap.size + 1, 0, none⟩ = some (.int .i64 0) := by simp [go_sem, c1', k1]
        exact lleaves_good s w _ p (.nilIface) rfl rfl rfl (by simp [go_sem, c0, c1', c2, k0, k1, k2]) ((World.cell?_setCell_other _ ⟨w.heap.size + 2, 0, none⟩ ⟨w.heap.size + 1, 0, none⟩ _ (by simp)).trans (World.cell?_setCell_same _ _ _ y1)) (by simp [go_sem, c0, c1', c2, k0, k1, k2])
          (((((hB3.setCell (by simp) _).setCell (by simp) _).setCell (by simp) _).setCell (by simp) _).setCell (by simp; omega) _) hs HF.out ((HV.out.same hSm).wide (by omega) (by simp [World.setCell]))
      · go_wp2_with fail
        have hSm : V.Same (w.heap.size + 3) w3.heap.size w3 (((((w3.setCell ⟨w.heap.size, 0, none⟩ (.iface T x)).setCell ⟨w.heap.size + 1, 0, none⟩ (.int .i64 0)).setCell ⟨w.heap.size, 0, none⟩ (.iface T x)).setCell ⟨w.heap.size + 1, 0, none⟩ (.int .i64 0)).setCell ⟨w.heap.size + 2, 0, none⟩ (.int .i64 0)) :=
          ((((V.Same.setCell (by omega)).trans (V.Same.setCell (by omega))).trans (V.Same.setCell (by omega))).trans (V.Same.setCell (by omega))).trans (V.Same.setCell (by omega))
        have y1 : (((w3.setCell ⟨w.heap.size, 0, none⟩ (.iface T x)).setCell ⟨w.heap.size + 1, 0, none⟩ (.int .i64 0)).setCell ⟨w.heap.size, 0, none⟩ (.iface T x)).cell? ⟨w.heap.size + 1, 0, none⟩ = some (.int .i64 0) := by simp [go_sem, c1', k1]
        exact lleaves_good s w _ p (.iface T x) rfl rfl rfl (by simp [go_sem, c0, c1', c2, k0, k1, k2]) ((World.cell?_setCell_other _ ⟨w.heap.size + 2, 0, none⟩ ⟨w.heap.size + 1, 0, none⟩ _ (by simp)).trans (World.cell?_setCell_same _ _ _ y1)) (by simp [go_sem, c0, c1', c2, k0, k1, k2])
          (((((hB3.setCell (by simp) _).setCell (by simp) _).setCell (by simp) _).setCell (by simp) _).setCell (by simp; omega) _) hs HF.out ((HV.out.same hSm).wide (by omega) (by simp [World.setCell]))
end Go.Proofs.YtcgphlilijeifaaDoor.L
end
section
/-
  The law's awake: its contract.
-/
namespace Go.Proofs.YtcgphlilijeifaaDoor.L
open Go.RowKit
open V (Pt)

def S0 : ByteArray := ⟨#[40, 49, 32, 40, 110, 117, 108, 108, 41, 32, 39, 97, 34, 39, 32, 34, 98, 92, 120, 48, 97, 34, 32, 120, 102, 102, 32, 110, 111, 41]⟩
def S1 : ByteArray := ⟨#[40, 49, 32, 32, 50, 41]⟩
def P0 : Pt := .mk 7 false false ⟨#[]⟩ ⟨#[]⟩ [.mk 2 false false ⟨#[1]⟩ ⟨#[]⟩ [], .mk 7 false false ⟨#[]⟩ ⟨#[]⟩ [.mk 0 false false ⟨#[]⟩ ⟨#[]⟩ []], .mk 5 false false ⟨#[]⟩ ⟨#[97, 34]⟩ [], .mk 6 false false ⟨#[]⟩ ⟨#[98, 10]⟩ [], .mk 3 false false ⟨#[]⟩ ⟨#[255]⟩ [], .mk 1 false false ⟨#[]⟩ ⟨#[]⟩ []]
theorem P0_may : V.mayB P0 = true := by decide +kernel
theorem P0_depth : V.depthP P0 = 2 := by decide +kernel
theorem S0_text : S0.toList = textP P0 := by decide +kernel
theorem S0_whole : partF 16 S0.toList = .ok P0 [] := text_whole P0_may (by rw [P0_depth]; decide) S0_text
theorem S1_bad : partF 16 S1.toList = .bad 3 := by
  have h : (match partF 16 S1.toList with | .bad n => n == 3 | .ok _ _ => false) = true := by decide +kernel
  cases hp : partF 16 S1.toList with
  | ok p r => rw [hp] at h; cases h
  | bad n =>
    rw [hp] at h
    have : n = 3 := by simpa using h
    rw [this]
theorem S1_fails : (∀ m, Fails S1 m → m = 3) ∧ ∀ q, partF 16 S1.toList ≠ .ok q [] := by
  refine ⟨fun m hm => ?_, fun q hq => by rw [S1_bad] at hq; cases hq⟩
  rcases hm with ⟨k, hk, he⟩ | ⟨p, c, r, hk, _⟩
  · rw [S1_bad] at hk
    cases hk
    rw [he]; decide
  · rw [S1_bad] at hk; cases hk

set_option maxRecDepth 100000 in
set_option maxHeartbeats 2000000 in
theorem awake10_any (w : World) : Calls Tryd.prog 33 #[] w fun e w' => e = .returned (.bool true) ∧ Below w.heap.size w w' := by
  have hneq : ∀ (T : TypeId) (v : Value) (w : World), (binOp BinOp.neq 33 (.iface T v) .nilIface).run Tryd.prog w = .ok (.bool true) w := fun _ _ _ => by kernel_rfl
  have heq : ∀ (w : World), (binOp BinOp.eql 33 .nilIface .nilIface).run Tryd.prog w = .ok (.bool true) w := fun _ => by kernel_rfl
  go_enter Tryd.func33, Tryd.ntmps33
  go_wp2_with fail
  refine (lparse_any S0 _).mono ?_
  rintro e w1 hx1
  obtain ⟨hb1, v, hv, rfl⟩ := hx1.yes (by decide) S0_whole
  have HV := Lib.hid (hv.wide (Nat.zero_le _) (Nat.le_refl _))
  obtain ⟨T, u, rfl⟩ := hv.ifaceOf (by decide)
  clear hx1 hv
  go_wp2_with fail
  refine (lprint_any P0 _ _ P0_may (by rw [P0_depth]; decide) HV.out).mono ?_
  rintro e w2 ⟨hb2, ⟨hle, t, rfl, ht⟩ | ⟨hgt, _⟩⟩
  rotate_left
  · exact absurd hgt (by rw [← S0_text]; decide +kernel)
  obtain rfl : t = ⟨#[40, 49, 32, 40, 110, 117, 108, 108, 41, 32, 39, 97, 34, 39, 32, 34, 98, 92, 120, 48, 97, 34, 32, 120, 102, 102, 32, 110, 111, 41]⟩ := V.ba_same (ht.out.trans S0_text.symm)
  have hB2 := V.two hb1 hb2
  clear ht hle hb1 hb2 HV
  go_wp2_with fail
  refine (lparse_any S1 _).mono ?_
  rintro e w3 hx3
  obtain ⟨hb3, rfl⟩ := hx3.no (by decide) S1_fails.1 S1_fails.2
  have hB3 := V.two hB2 hb3
  clear hb3 hB2 hx3
  go_wp2_with fail
  go_ret
  exact ⟨rfl, hB3⟩
end Go.Proofs.YtcgphlilijeifaaDoor.L
end
section
/-
  The program's Depth: its contract.
-/
namespace Go.Proofs.YtcgphlilijeifaaDoor.V
open Go.RowKit

set_option maxRecDepth 100000 in
set_option maxHeartbeats 2000000 in
theorem depth_any (p : Pt) : ∀ (v : Value) (w : World), mayB p = true → depthP p ≤ 1000 → VI w 0 w.heap.size p v →
    Calls Tryd.prog 81 #[v] w fun e w' => e = .returned (.int .i64 (depthP p)) ∧ Below w.heap.size w w' := by
  induction p using Pt.ind with
  | h p ih =>
  intro v w hmay hdp hv
  have f1 := has_List_truth
  have f2 := has_List_whole
  have f3 := has_List_row
  have f4 := has_List_tuple
  have f5 := has_List_nil
  by_cases h7 : p.kind = 7
  · have hlen := may_len hmay h7
    have hD : depthP p = depthL p.items + 1 := by rw [depthP_eq, if_pos h7]
    have hdl : depthL p.items ≤ 999 := by omega
    have HD := Lib.hid hD
    obtain ⟨a, cap, F, rfl, hcells, hdeep⟩ : ∃ (a : Option Addr) (cap : Nat) (F : Nat → Value), v = .iface 145 (.agg #[.slice a p.items.length cap]) ∧ (∀ j, j < p.items.length → ∃ g, a = some ⟨g, 0, none⟩ ∧ 0 ≤ g ∧ g < w.heap.size ∧ w.cell? ⟨g, j, none⟩ = some (F j)) ∧ ∀ j (h : j < p.items.length), VI w 0 w.heap.size p.items[j] (F j) := by
      cases hv with
      | null _ h => omega
      | truth _ h => omega
      | whole _ h => omega
      | row _ _ _ _ h => omega
      | tuple _ _ a cap F hc cells deep => exact ⟨a, cap, F, rfl, cells, deep⟩
    have m1 : ∀ w : World, (method 338 145 (.agg #[.slice a p.items.length cap]) "Len").run Tryd.prog w = .ok (163, .agg #[.slice a p.items.length cap]) w := fun _ => by kernel_rfl
    have m2 : ∀ w : World, (method 338 145 (.agg #[.slice a p.items.length cap]) "At").run Tryd.prog w = .ok (161, .agg #[.slice a p.items.length cap]) w := fun _ => by kernel_rfl
    have HC := Lib.hid hcells
    have HDp := Lib.hid hdeep
    have IH := Lib.hid ih
    have HM := Lib.hid hmay
    clear hv hcells hdeep ih hmay h7 hD hdp
    go_enter Tryd.func81, Tryd.ntmps81
    go_wp2_with fail
    refine (len_tuple _ _ _ _).mono ?_
    rintro e w1 ⟨rfl, hb1⟩
    go_wp2_with fail
    go_loopw [5, 16] (fun m i wr => ∃ k : Nat, k ≤ p.items.length ∧ i = .int .i64 k ∧ m = .int .i64 (depthL (p.items.take k)) ∧ Below w.heap.size w wr) (fun _ i _ => p.items.length - (intOf i).toNat)
    case atStart => exact ⟨0, Nat.zero_le _, rfl, by rw [List.take_zero, depthL_nil]; rfl, hb1⟩
    case round =>
      clear hb1
      obtain ⟨k, hkl, rfl, rfl, hB⟩ := hrel
      have hdk := depthL_take_le p.items k
      by_cases hlt : k < p.items.length
      · have q3 : decide (k < p.items.length) = true := by simpa using hlt
        obtain ⟨g0, rfl, _, hg0, hcell⟩ := HC.out k hlt
        have HE := Lib.hid (depthL_take hlt)
        have hmem : p.items[k] ∈ p.items := List.getElem_mem _
        have hdq := depthL_mem hmem
        have hvi := Lib.hid (HDp.out k hlt)
        obtain ⟨q, hq⟩ : ∃ q, p.items[k] = q := ⟨_, rfl⟩
        rw [hq] at HE hmem hdq hvi
        have hmq := Lib.hid (mayB_item HM.out hmem)
        have hcell2 := Lib.hid (keep hB hg0 hcell)
        obtain ⟨M, hM⟩ : ∃ M, depthL (p.items.take k) = M := ⟨_, rfl⟩
        rw [hM] at hdk HE ⊢
        clear hM hq hcell
        go_wp2_with fail
        refine (at_in g0 _ cap k (F k) _ (by omega) hlt hcell2.out).mono ?_
        rintro e w2 ⟨rfl, hb2⟩
        have hB2 := hB.trans (hb2.mono hB.size)
        go_wp2_with fail
        refine (IH.out q hmem (F k) _ hmq.out (by omega) (hvi.out.later hB2)).mono ?_
        rintro e w3 ⟨rfl, hb3⟩
        have hB3 := hB2.trans (hb3.mono hB2.size)
        clear hB hB2 hb2 hb3
        go_wp2_with fail
        refine ⟨⟨k + 1, by omega, rfl, ?_, hB3⟩, by simp [intOf]; omega⟩
        rw [HE.out]
        exact congrArg (Value.int .i64) (by split <;> omega)
      · have q3 : decide (k < p.items.length) = false := by simpa using hlt
        have HT := Lib.hid (show p.items.take k = p.items from List.take_of_length_le (by omega))
        go_wp2_with fail
        go_ret
        exact ⟨by rw [HD.out, HT.out]; rfl, hB⟩
  · have HD := Lib.hid (show depthP p = 0 by rw [depthP_eq, if_neg h7])
    clear hmay hdp ih
    cases hv with
    | null _ h =>
      clear h h7
      go_enter Tryd.func81, Tryd.ntmps81
      go_wp2_with fail
      go_ret
      exact ⟨by rw [HD.out]; rfl, Below.refl _ _⟩
    | truth _ h =>
      clear h h7
      go_enter Tryd.func81, Tryd.ntmps81
      go_wp2_with fail
      go_ret
      exact ⟨by rw [HD.out]; rfl, Below.refl _ _⟩
    | whole _ h =>
      clear h h7
      go_enter Tryd.func81, Tryd.ntmps81
      go_wp2_with fail
      go_ret
      exact ⟨by rw [HD.out]; rfl, Below.refl _ _⟩
    | row _ h0 h1 h2 h =>
      clear h0 h1 h2 h h7
      go_enter Tryd.func81, Tryd.ntmps81
      go_wp2_with fail
      go_ret
      exact ⟨by rw [HD.out]; rfl, Below.refl _ _⟩
    | tuple _ h a cap F hc cells deep => exact absurd h h7
theorem Depth_any (p : Pt) (v : Value) (w : World) (hmay : mayB p = true) (hdp : depthP p ≤ 1000) (hv : VI w 0 w.heap.size p v) :
    Calls Tryd.prog 41 #[v] w fun e w' => e = .returned (.int .i64 (depthP p)) ∧ Below w.heap.size w w' := by
  have HM := Lib.hid hmay
  have HV := Lib.hid hv
  clear hmay hv
  go_enter Tryd.func41, Tryd.ntmps41
  go_wp2_with fail
  refine (depth_any p v _ HM.out hdp HV.out).mono ?_
  rintro e w1 ⟨rfl, hb1⟩
  go_wp2_with fail
  go_ret
  exact ⟨rfl, hb1⟩
end Go.Proofs.YtcgphlilijeifaaDoor.V
end
section
/-
  The document's Same: its contract.
-/
namespace Go.Proofs.YtcgphlilijeifaaDoor.V
open Go.RowKit

theorem sameL_drop {l m : List Pt} {k : Nat} (hl : l.length = m.length) (h : k < l.length) : sameL (l.drop k) (m.drop k) = (sameP l[k] (m[k]'(by omega)) && sameL (l.drop (k + 1)) (m.drop (k + 1))) := by
  rw [List.drop_eq_getElem_cons h, List.drop_eq_getElem_cons (show k < m.length by omega), sameL_cons]

set_option maxRecDepth 100000 in
set_option maxHeartbeats 4000000 in
theorem same_any (p : Pt) : ∀ (q : Pt) (v u : Value) (w : World), Fit p → Fit q → PI w 0 w.heap.size p.items v → PI w 0 w.heap.size q.items u →
    Calls Tryd.prog 38 #[.agg #[.int .u8 p.kind, .bool p.yes, .bool p.neg, .string p.mag, .string p.raw, v], .agg #[.int .u8 q.kind, .bool q.yes, .bool q.neg, .string q.mag, .string q.raw, u]] w
      fun e w' => e = .returned (.bool (sameP p q)) ∧ Below w.heap.size w w' := by
  induction p using Pt.ind with
  | h p ih =>
  intro q v u w hf hfq hp hq
  obtain ⟨a, cap, rfl, _, hat⟩ := hp.open
  obtain ⟨b, capb, rfl, _, hbt⟩ := hq.open
  have HA := Lib.hid hat
  have HB := Lib.hid hbt
  have IH := Lib.hid ih
  have hl := hf.l
  have hlq := hfq.l
  have hne := sameP_eq p q
  clear hp hq hat hbt ih
  have hbel : ∀ x y : Obj, Below w.heap.size w ((w.alloc x).alloc y) := fun x y => ((Below.refl _ _).alloc (Nat.le_refl _) _).alloc (by simp) _
  by_cases h1 : p.kind = q.kind
  · have g1 : ((q.kind : Int) != (q.kind : Int)) = false := by simp
    by_cases h2 : p.yes = q.yes
    · have g2 : (q.yes != q.yes) = false := by simp
      obtain ⟨E, hE⟩ : ∃ E, (p.neg == q.neg && p.mag.toList == q.mag.toList) = E := ⟨_, rfl⟩
      have g3 := neq_num p.neg q.neg p.mag q.mag E hE
      obtain ⟨R, hR⟩ : ∃ R, (p.raw.toList == q.raw.toList) = R := ⟨_, rfl⟩
      have hone : oneB p q = (E && R) := by
        unfold oneB
        rw [h1, h2, hR, ← hE]
        simp
      rw [h1, h2]
      cases E with
      | false =>
        have HN := Lib.hid (show sameP p q = false by rw [hne, hone]; rfl)
        clear hne hone hE h1 h2
        go_enter Tryd.func38, Tryd.ntmps38
        go_wp2_with fail
        go_ret
        exact ⟨by rw [HN.out]; rfl, hbel _ _⟩
      | true =>
        cases R with
        | false =>
          have HN := Lib.hid (show sameP p q = false by rw [hne, hone]; rfl)
          clear hne hone hE h1 h2
          go_enter Tryd.func38, Tryd.ntmps38
          go_wp2_with fail
          go_ret
          exact ⟨by rw [HN.out]; rfl, hbel _ _⟩
        | true =>
          by_cases h5 : p.items.length = q.items.length
          · have g5 : ((p.items.length : Int) != (q.items.length : Int)) = false := by simp; omega
            have HN := Lib.hid (show sameP p q = sameL (p.items.drop 0) (q.items.drop 0) by rw [hne, hone]; rfl)
            have H5 := Lib.hid h5
            have h5a := Nat.le_of_eq h5
            have h5b := Nat.le_of_eq h5.symm
            clear hne hone hE h1 h2 h5
            go_enter Tryd.func38, Tryd.ntmps38
            go_wp2_with fail
            go_loopw [5] (fun i wr => ∃ k : Nat, k ≤ p.items.length ∧ i = .int .i64 k ∧ RowKit.Hid (sameP p q = sameL (p.items.drop k) (q.items.drop k)) ∧ Below w.heap.size w wr ∧ w.heap.size + 1 < wr.heap.size ∧
              wr.cell? ⟨w.heap.size, 5, none⟩ = some (.slice a p.items.length cap) ∧ wr.cell? ⟨w.heap.size + 1, 5, none⟩ = some (.slice b q.items.length capb)) (fun i _ => p.items.length - (intOf i).toNat)
            case atStart => exact ⟨0, Nat.zero_le _, rfl, HN, hbel _ _, by simp, by simp [go_sem], by simp [go_sem]⟩
            case round =>
              obtain ⟨k, hkl, rfl, HK, hB, hsz, f5, f6⟩ := hrel
              by_cases hlt : k < p.items.length
              · have q3 : decide (k < p.items.length) = true := by simpa using hlt
                have hltq : k < q.items.length := by omega
                obtain ⟨g, off, x, rfl, _, hg, hc, hfit, hpi⟩ := HA.out k hlt
                obtain ⟨g', off', x', rfl, _, hg', hc', hfit', hpi'⟩ := HB.out k hltq
                obtain ⟨d0, d1, d2, d3, d4, d5⟩ := hc.same (Same.of_below hB (Nat.le_refl _)) (Nat.zero_le _) hg
                obtain ⟨e0, e1, e2, e3, e4, e5⟩ := hc'.same (Same.of_below hB (Nat.le_refl _)) (Nat.zero_le _) hg'
                have HE := Lib.hid (sameL_drop H5.out hlt)
                have hmem : p.items[k] ∈ p.items := List.getElem_mem _
                obtain ⟨y, hy⟩ : ∃ y, p.items[k] = y := ⟨_, rfl⟩
                obtain ⟨z, hz⟩ : ∃ z, q.items[k] = z := ⟨_, rfl⟩
                rw [hy] at d0 d1 d2 d3 d4 hfit hpi HE hmem
                rw [hz] at e0 e1 e2 e3 e4 hfit' hpi' HE
                obtain ⟨a2, cap2, rfl, _, _⟩ := hpi.open
                obtain ⟨b2, capb2, rfl, _, _⟩ := hpi'.open
                have hpi2 := Lib.hid hpi
                have hpi2' := Lib.hid hpi'
                clear hc hc' hpi hpi' hy hz
                go_wp2_with fail
                go_still_tail 10, (by kernel_rfl)
                go_wp2_with fail
                refine (IH.out y hmem z _ _ _ hfit hfit' (hpi2.out.later hB.drew) (hpi2'.out.later hB.drew)).mono ?_
                rintro e w1 ⟨rfl, hb0⟩
                have hb1 := undrew hb0
                have hB1 : Below w.heap.size w w1 := hB.trans (hb1.mono (by omega))
                have hz1 : w.heap.size + 1 < w1.heap.size := by have := hb1.size; omega
                have F5 := Lib.hid (keep hb1 (by omega) f5)
                have F6 := Lib.hid (keep hb1 hsz f6)
                clear d0 d1 d2 d3 d4 d5 e0 e1 e2 e3 e4 e5 f5 f6 hB hb1 hb0 hsz
                cases hd : sameP y z with
                | true =>
                  have HD := Lib.hid (show sameP p q = sameL (p.items.drop (k + 1)) (q.items.drop (k + 1)) by rw [HK.out, HE.out, hd]; rfl)
                  clear hd
                  go_wp2_with fail
                  refine ⟨?_, by simp [intOf]; omega⟩
                  first
                    | exact ⟨k + 1, by omega, rfl, HD, hB1, hz1, F5.out, F6.out⟩
                    | ((repeat apply Exists.intro); exact ⟨⟨k + 1, by omega, rfl, HD, hB1, hz1, F5.out, F6.out⟩, rfl⟩)
                | false =>
                  have HD := Lib.hid (show sameP p q = false by rw [HK.out, HE.out, hd]; rfl)
                  clear hd
                  go_wp2_with fail
                  go_ret
                  exact ⟨by rw [HD.out]; rfl, hB1⟩
              · have q3 : decide (k < p.items.length) = false := by simpa using hlt
                have HD := Lib.hid (show sameP p q = true by rw [HK.out, List.drop_of_length_le (by omega), List.drop_of_length_le (by omega), sameL_nil])
                go_wp2_with fail
                go_ret
                exact ⟨by rw [HD.out]; rfl, hB⟩
          · have g5 : ((p.items.length : Int) != (q.items.length : Int)) = true := by simp; omega
            have HN := Lib.hid (show sameP p q = false by rw [hne, hone, sameL_false h5]; rfl)
            clear hne hone hE h1 h2 h5
            go_enter Tryd.func38, Tryd.ntmps38
            go_wp2_with fail
            go_ret
            exact ⟨by rw [HN.out]; rfl, hbel _ _⟩
    · have HN := Lib.hid (show sameP p q = false by rw [hne]; unfold oneB; rw [show (p.yes == q.yes) = false by simpa using h2]; simp)
      rw [h1]
      clear hne h1
      have g1 : ((q.kind : Int) != (q.kind : Int)) = false := by simp
      obtain ⟨y1, hy1⟩ : ∃ y, p.yes = y := ⟨_, rfl⟩
      obtain ⟨y2, hy2⟩ : ∃ y, q.yes = y := ⟨_, rfl⟩
      rw [hy1, hy2] at h2 ⊢
      have h3 : y2 = !y1 := by cases y1 <;> cases y2 <;> simp_all
      clear h2 hy1 hy2
      subst h3
      cases y1 with
      | true =>
        go_enter Tryd.func38, Tryd.ntmps38
        go_wp2_with fail
        go_ret
        exact ⟨by rw [HN.out]; rfl, hbel _ _⟩
      | false =>
        go_enter Tryd.func38, Tryd.ntmps38
        go_wp2_with fail
        go_ret
        exact ⟨by rw [HN.out]; rfl, hbel _ _⟩
  · have HN := Lib.hid (show sameP p q = false by rw [hne]; unfold oneB; rw [show (p.kind == q.kind) = false by simpa using h1]; simp)
    have g1 : ((p.kind : Int) != (q.kind : Int)) = true := by simp; omega
    clear hne h1
    go_enter Tryd.func38, Tryd.ntmps38
    go_wp2_with fail
    go_ret
    exact ⟨by rw [HN.out]; rfl, hbel _ _⟩
end Go.Proofs.YtcgphlilijeifaaDoor.V
end
section
/-
  The program's Same, of two values: its contract.
-/
namespace Go.Proofs.YtcgphlilijeifaaDoor.V
open Go.RowKit

/-- The value's own Kind. -/
theorem VI.kindOf {w : World} {lo hi : Nat} {p : Pt} {v : Value} (h : VI w lo hi p v) (h0 : p.kind ≠ 0) :
    ∃ (T : TypeId) (V : Value) (f : FuncId), v = .iface T V ∧ (∀ w : World, (method 338 T V "Kind").run Tryd.prog w = .ok (f, V) w) ∧ (∀ (args : Array Value) (w : World), (callFunc f args).run Tryd.prog w = .ok (.enter f args) w) ∧ ∀ w : World, Calls Tryd.prog f #[V] w fun e w' => e = .returned (.int .u8 p.kind) ∧ Below w.heap.size w w' := by
  cases h with
  | null _ h => exact absurd h h0
  | truth _ h => exact ⟨_, _, 156, rfl, fun _ => by kernel_rfl, fun _ _ => by kernel_rfl, fun w => by rw [h]; exact kind_truth _ w⟩
  | whole _ h => exact ⟨_, _, 158, rfl, fun _ => by kernel_rfl, fun _ _ => by kernel_rfl, fun w => by rw [h]; exact kind_whole _ _ w⟩
  | row _ _ _ _ _ => exact ⟨_, _, 166, rfl, fun _ => by kernel_rfl, fun _ _ => by kernel_rfl, fun w => kind_row _ _ w⟩
  | tuple _ h a cap _ _ _ _ => exact ⟨_, _, 162, rfl, fun _ => by kernel_rfl, fun _ _ => by kernel_rfl, fun w => by rw [h]; exact kind_tuple _ _ _ w⟩

theorem oneB_kind {p q : Pt} (h : p.kind ≠ q.kind) : sameP p q = false := by
  rw [sameP_eq]; unfold oneB; rw [show (p.kind == q.kind) = false by simpa using h]; simp
theorem same_one {p q : Pt} (hp : mayB p = true) (hq : mayB q = true) (h : p.kind = q.kind) :
    (p.kind = 0 → sameP p q = true) ∧ (p.kind = 1 → sameP p q = (p.yes == q.yes)) ∧ (p.kind = 2 → sameP p q = (p.neg == q.neg && p.mag.toList == q.mag.toList)) ∧
      (p.kind ≠ 0 → p.kind ≠ 1 → p.kind ≠ 2 → p.kind ≠ 7 → sameP p q = (p.raw.toList == q.raw.toList)) ∧ (p.kind = 7 → sameP p q = sameL p.items q.items) := by
  obtain ⟨a1, a2, a3, a4⟩ := canon hp
  obtain ⟨b1, b2, b3, b4⟩ := canon hq
  refine ⟨fun k => ?_, fun k => ?_, fun k => ?_, fun k0 k1 k2 k7 => ?_, fun k => ?_⟩
  · rw [sameP_eq]; unfold oneB
    rw [h, a1 (by omega), b1 (by omega), (a2 (by omega)).1, (b2 (by omega)).1, (a2 (by omega)).2, (b2 (by omega)).2, a3 (by omega), b3 (by omega), a4 (by omega), b4 (by omega)]; simp [sameL_nil]
  · rw [sameP_eq]; unfold oneB
    rw [h, (a2 (by omega)).1, (b2 (by omega)).1, (a2 (by omega)).2, (b2 (by omega)).2, a3 (by omega), b3 (by omega), a4 (by omega), b4 (by omega)]; simp [sameL_nil]
  · rw [sameP_eq]; unfold oneB
    rw [h, a1 (by omega), b1 (by omega), a3 (by omega), b3 (by omega), a4 (by omega), b4 (by omega)]; simp [sameL_nil]
  · rw [sameP_eq]; unfold oneB
    rw [h, a1 (by omega), b1 (by omega), (a2 (by omega)).1, (b2 (by omega)).1, (a2 (by omega)).2, (b2 (by omega)).2, a3 (by omega), b3 (by omega)]; simp [sameL_nil]
  · rw [sameP_eq]; unfold oneB
    rw [h, a1 (by omega), b1 (by omega), (a2 (by omega)).1, (b2 (by omega)).1, (a2 (by omega)).2, (b2 (by omega)).2, a4 (by omega), b4 (by omega)]; simp

set_option maxHeartbeats 1000000 in
/-- One of them is null. -/
theorem samev_null (p q : Pt) (v u : Value) (w : World) {W : World} {lo hi lo' hi' : Nat} (hp : mayB p = true) (hq : mayB q = true) (hv : VI W lo hi p v) (hu : VI W lo' hi' q u) (h : p.kind = 0 ∨ q.kind = 0) :
    Calls Tryd.prog 78 #[v, u] w fun e w' => e = .returned (.bool (sameP p q)) ∧ Below w.heap.size w w' := by
  by_cases h1 : p.kind = 0
  · obtain rfl := hv.nilOf h1
    by_cases h2 : q.kind = 0
    · obtain rfl := hu.nilOf h2
      have HN := Lib.hid ((same_one hp hq (by omega)).1 h1)
      clear h h1 h2 hv hu hp hq
      go_enter Tryd.func78, Tryd.ntmps78
      go_wp2_with fail
      go_ret
      exact ⟨by rw [HN.out]; rfl, Below.refl _ _⟩
    · obtain ⟨T, V, rfl⟩ := hu.ifaceOf h2
      have HN := Lib.hid (oneB_kind (p := p) (q := q) (by omega))
      clear h h1 h2 hv hu hp hq
      go_enter Tryd.func78, Tryd.ntmps78
      go_wp2_with fail
      go_ret
      exact ⟨by rw [HN.out]; rfl, Below.refl _ _⟩
  · have h2 : q.kind = 0 := h.resolve_left h1
    obtain rfl := hu.nilOf h2
    obtain ⟨T, V, rfl⟩ := hv.ifaceOf h1
    have HN := Lib.hid (oneB_kind (p := p) (q := q) (by omega))
    clear h h1 h2 hv hu hp hq
    go_enter Tryd.func78, Tryd.ntmps78
    go_wp2_with fail
    go_ret
    exact ⟨by rw [HN.out]; rfl, Below.refl _ _⟩
set_option maxHeartbeats 1000000 in
/-- Two kinds. -/
theorem samev_kinds (p q : Pt) (v u : Value) (w : World) {W : World} {lo hi lo' hi' : Nat} (hv : VI W lo hi p v) (hu : VI W lo' hi' q u) (h0 : p.kind ≠ 0) (h1 : q.kind ≠ 0) (h : p.kind ≠ q.kind) :
    Calls Tryd.prog 78 #[v, u] w fun e w' => e = .returned (.bool (sameP p q)) ∧ Below w.heap.size w w' := by
  obtain ⟨T, V, f, rfl, m1, r1, c1⟩ := hv.kindOf h0
  obtain ⟨T', V', f', rfl, m2, r2, c2⟩ := hu.kindOf h1
  have HN := Lib.hid (oneB_kind (p := p) (q := q) h)
  have q1 : ((p.kind : Int) != (q.kind : Int)) = true := by simp; omega
  have C1 := Lib.hid c1
  have C2 := Lib.hid c2
  clear h h0 h1 hv hu c1 c2
  go_enter Tryd.func78, Tryd.ntmps78
  go_wp2_with fail
  refine (C1.out _).mono ?_
  rintro e w1 ⟨rfl, hb1⟩
  go_wp2_with fail
  refine (C2.out _).mono ?_
  rintro e w2 ⟨rfl, hb2⟩
  go_wp2_with fail
  go_ret
  exact ⟨by rw [HN.out]; rfl, two hb1 hb2⟩
end Go.Proofs.YtcgphlilijeifaaDoor.V
end
section
/-
  The program's Same, of two values of one kind; of any two.
-/
namespace Go.Proofs.YtcgphlilijeifaaDoor.V
open Go.RowKit

theorem is_truth_truth (V : Value) (w : World) : (Instr.typeAssert (.iface 140 V) 33 140 true).run Tryd.prog w = .ok (.tuple #[V, .bool true]) w := by kernel_rfl
theorem is_truth_whole (V : Value) (w : World) : (Instr.typeAssert (.iface 142 V) 33 140 true).run Tryd.prog w = .ok (.tuple #[.agg #[.bool false], .bool false]) w := by kernel_rfl
theorem is_truth_row (V : Value) (w : World) : (Instr.typeAssert (.iface 147 V) 33 140 true).run Tryd.prog w = .ok (.tuple #[.agg #[.bool false], .bool false]) w := by kernel_rfl
theorem is_truth_tuple (V : Value) (w : World) : (Instr.typeAssert (.iface 145 V) 33 140 true).run Tryd.prog w = .ok (.tuple #[.agg #[.bool false], .bool false]) w := by kernel_rfl

set_option maxRecDepth 100000 in
set_option maxHeartbeats 2000000 in
theorem samev_truth (x y : Bool) (w : World) :
    Calls Tryd.prog 78 #[.iface 140 (.agg #[.bool x]), .iface 140 (.agg #[.bool y])] w fun e w' => e = .returned (.bool (x == y)) ∧ Below w.heap.size w w' := by
  have f1 := is_truth_truth
  have m1 : ∀ w : World, (method 338 140 (.agg #[.bool x]) "Kind").run Tryd.prog w = .ok (156, .agg #[.bool x]) w := fun _ => by kernel_rfl
  have m2 : ∀ w : World, (method 338 140 (.agg #[.bool y]) "Kind").run Tryd.prog w = .ok (156, .agg #[.bool y]) w := fun _ => by kernel_rfl
  have m3 : ∀ w : World, (method 338 140 (.agg #[.bool y]) "Part").run Tryd.prog w = .ok (157, .agg #[.bool y]) w := fun _ => by kernel_rfl
  have fd : ∀ w : World, (Instr.field 27 (.agg #[.int .u8 1, .bool y, .bool false, .string ⟨#[]⟩, .string ⟨#[]⟩, .slice none 0 0]) 1).run Tryd.prog w = .ok (.bool y) w := fun _ => by kernel_rfl
  go_enter Tryd.func78, Tryd.ntmps78
  go_wp2_with fail
  refine (kind_truth _ _).mono ?_
  rintro e w1 ⟨rfl, hb1⟩
  go_wp2_with fail
  refine (kind_truth _ _).mono ?_
  rintro e w2 ⟨rfl, hb2⟩
  go_wp2_with fail
  have hB : Below w.heap.size w w2 := two hb1 hb2
  have hBa := hB.alloc hB.size (.cells #[.bool x] 140)
  have hc : (w2.alloc (.cells #[.bool x] 140)).cell? ⟨w2.heap.size, 0, none⟩ = some (.bool x) := by simp
  obtain ⟨W3, hW3⟩ : ∃ W3, W3 = w2.alloc (.cells #[.bool x] 140) := ⟨_, rfl⟩
  rw [← hW3] at hBa hc ⊢
  have hBd := hBa.drew
  clear hW3
  go_region_held3 (fun w' => w'.cell? ⟨w2.heap.size, 0, none⟩ = some (.bool x) ∧ Below w.heap.size w w') (go_keep) (first
    | (go_at_call 157; refine (part_truth y _).mono ?_; rintro e w4 ⟨rfl, hb4⟩; have k1 := keeps hb4 (p := ⟨w2.heap.size, 0, none⟩) (v := .bool x) (by assumption); have k2 := two (by assumption) hb4))
  go_wp2_with fail
  go_ret
  exact ⟨rfl, by assumption⟩
set_option maxRecDepth 100000 in
set_option maxHeartbeats 2000000 in
theorem samev_whole (x y : Bool) (a b : ByteArray) (w : World) (E : Bool) (hE : (x == y && a.toList == b.toList) = E) :
    Calls Tryd.prog 78 #[.iface 142 (.agg #[.bool x, .string a]), .iface 142 (.agg #[.bool y, .string b])] w fun e w' => e = .returned (.bool E) ∧ Below w.heap.size w w' := by
  have f1 := is_truth_whole
  have f2 := has_Number_whole
  have m1 : ∀ w : World, (method 338 142 (.agg #[.bool x, .string a]) "Kind").run Tryd.prog w = .ok (158, .agg #[.bool x, .string a]) w := fun _ => by kernel_rfl
  have m2 : ∀ w : World, (method 338 142 (.agg #[.bool y, .string b]) "Kind").run Tryd.prog w = .ok (158, .agg #[.bool y, .string b]) w := fun _ => by kernel_rfl
  have m3 : ∀ w : World, (method 338 142 (.agg #[.bool x, .string a]) "Num").run Tryd.prog w = .ok (159, .agg #[.bool x, .string a]) w := fun _ => by kernel_rfl
  have m4 : ∀ w : World, (method 338 142 (.agg #[.bool y, .string b]) "Num").run Tryd.prog w = .ok (159, .agg #[.bool y, .string b]) w := fun _ => by kernel_rfl
  have h24 := eql_num x y a b E hE
  clear hE
  go_enter Tryd.func78, Tryd.ntmps78
  go_wp2_with fail
  refine (kind_whole _ _ _).mono ?_
  rintro e w1 ⟨rfl, hb1⟩
  go_wp2_with fail
  refine (kind_whole _ _ _).mono ?_
  rintro e w2 ⟨rfl, hb2⟩
  go_wp2_with fail
  refine (num_whole _ _ _).mono ?_
  rintro e w3 ⟨rfl, hb3⟩
  go_wp2_with fail
  refine (num_whole _ _ _).mono ?_
  rintro e w4 ⟨rfl, hb4⟩
  go_wp2_with fail
  go_ret
  exact ⟨rfl, two (two (two hb1 hb2) hb3) hb4⟩
set_option maxRecDepth 100000 in
set_option maxHeartbeats 2000000 in
theorem samev_row (k : Nat) (a b : ByteArray) (w : World) (E : Bool) (hE : (a.toList == b.toList) = E) :
    Calls Tryd.prog 78 #[.iface 147 (.agg #[.int .u8 k, .string a]), .iface 147 (.agg #[.int .u8 k, .string b])] w fun e w' => e = .returned (.bool E) ∧ Below w.heap.size w w' := by
  have f1 := is_truth_row
  have f2 := has_Number_row
  have f3 := has_Raw_row
  have q0 : ((k : Int) != (k : Int)) = false := by simp
  have m1 : ∀ w : World, (method 338 147 (.agg #[.int .u8 k, .string a]) "Kind").run Tryd.prog w = .ok (166, .agg #[.int .u8 k, .string a]) w := fun _ => by kernel_rfl
  have m2 : ∀ w : World, (method 338 147 (.agg #[.int .u8 k, .string b]) "Kind").run Tryd.prog w = .ok (166, .agg #[.int .u8 k, .string b]) w := fun _ => by kernel_rfl
  have m3 : ∀ w : World, (method 338 147 (.agg #[.int .u8 k, .string a]) "Bytes").run Tryd.prog w = .ok (165, .agg #[.int .u8 k, .string a]) w := fun _ => by kernel_rfl
  have m4 : ∀ w : World, (method 338 147 (.agg #[.int .u8 k, .string b]) "Bytes").run Tryd.prog w = .ok (165, .agg #[.int .u8 k, .string b]) w := fun _ => by kernel_rfl
  go_enter Tryd.func78, Tryd.ntmps78
  go_wp2_with fail
  refine (kind_row _ _ _).mono ?_
  rintro e w1 ⟨rfl, hb1⟩
  go_wp2_with fail
  refine (kind_row _ _ _).mono ?_
  rintro e w2 ⟨rfl, hb2⟩
  go_wp2_with fail
  refine (bytes_row _ _ _).mono ?_
  rintro e w3 ⟨rfl, hb3⟩
  go_wp2_with fail
  refine (bytes_row _ _ _).mono ?_
  rintro e w4 ⟨rfl, hb4⟩
  go_wp2_with fail
  go_ret
  exact ⟨rfl, two (two (two hb1 hb2) hb3) hb4⟩
end Go.Proofs.YtcgphlilijeifaaDoor.V
end
