import Derived.Deep.RegionHeld3
import Derived.BigQuiet
import Derived.BigRegion
import Derived.Test.YtcgphlilijeifaaDoorLitPrintsQ10
import Derived.Test.YtcgphlilijeifaaDoorLitPrintsQ2
import Derived.Test.YtcgphlilijeifaaDoorLitPrintsQ3
import Derived.Test.YtcgphlilijeifaaDoorLitPrintsQ0
section
/-
  lit.told: numbers, bytes, truths (printed by wip/tools/mk-litc.py).
-/
namespace Go.Proofs.YtcgphlilijeifaaDoor.L
open Go.RowKit
open V (Pt)

set_option maxRecDepth 100000 in
set_option maxHeartbeats 1500000 in
theorem told_num (p : Pt) (h2 : p.kind = 2) (hc : chk p.neg p.mag.toList = 0) (B : Nat) (b : Value) (l : List UInt8) (w : World) (hsz : B ≤ w.heap.size) (hO : OwnB w B b l) (hl : l.length ≤ 67000) :
    Calls Tryd.prog 76 #[b, .iface 142 (.agg #[.bool p.neg, .string p.mag])] w (ToldPost B l p w) := by
  have HT := Lib.hid (show textP p = digitsV p.neg p.mag.toList by rw [textP_eq, h2]; rfl)
  have hml : p.mag.size ≤ 255 := by
    have := (chk_zero_iff.1 hc).1
    rw [size_of] at this
    exact this
  have HC := Lib.hid hc
  have hB := Below.refl B w
  have f1 := V.has_Number_whole
  have m1 : ∀ w : World, (method 338 142 (.agg #[.bool p.neg, .string p.mag]) "Num").run Tryd.prog w = .ok (159, .agg #[.bool p.neg, .string p.mag]) w := fun _ => by kernel_rfl
  clear h2 hc
  go_enter Tryd.func76, Tryd.ntmps76
  go_wp2_with fail
  refine (V.num_whole _ _ _).mono ?_
  rintro e w1 ⟨rfl, hb1⟩
  go_wp2_with fail
  refine (print_any p.neg p.mag w1 (by omega) 0 HC.out).mono ?_
  rintro e wk ⟨q, rfl, hqe, hbk⟩
  have HE := Lib.hid (show q.toList = textP p by have := hqe.out; rw [if_pos rfl] at this; rw [this, HT.out])
  have hdl := digitsV_len p.neg p.mag.toList
  rw [← HT.out, ← HE.out, size_of, size_of] at hdl
  replace hB := (hB.trans (hb1.mono hsz)).trans (hbk.mono (Nat.le_trans hsz hb1.size))
  replace hO := (hO.below hb1).below hbk
  replace hsz := Nat.le_trans (Nat.le_trans hsz hb1.size) hbk.size
  clear hb1 hbk hqe
  by_cases hq : (l ++ q.toList).length ≤ 65536
  · go_wp2_with (at_builtin; first
      | (refine wpList_append_str rfl (.tmp 33) (.tmp 34) 111 9 rfl Tryd.underlying111 (by kernel_rfl) Tryd.info5 rfl hO q rfl (by omega) hB hsz ?_; intro v2 w2 hO2 hB2 hs2; obtain ⟨n, a2, cap2, rfl, hn⟩ := ownb_form hO2; have q3 := last_le hq hn.out)
      | refine wpList_len rfl (.tmp 70) 111 rfl slice111 rfl ?_)
    go_ret
    rw [HE.out] at hO2 hq
    exact told_yes hq hO2 hB2 hs2
  · go_wp2_with (at_builtin; first
      | (refine wpList_append_str rfl (.tmp 33) (.tmp 34) 111 9 rfl Tryd.underlying111 (by kernel_rfl) Tryd.info5 rfl hO q rfl (by omega) hB hsz ?_; intro v2 w2 hO2 hB2 hs2; obtain ⟨n, a2, cap2, rfl, hn⟩ := ownb_form hO2; have q3 := last_gt hq hn.out)
      | refine wpList_len rfl (.tmp 70) 111 rfl slice111 rfl ?_)
    rw [HE.out] at hq
    exact ⟨rfl, told_no (Nat.lt_of_not_le hq) hB2 hs2⟩

theorem lbytes_any (k : Nat) (hk : k = 3 ∨ k = 4 ∨ k = 5 ∨ k = 6) (v : Value) (s : ByteArray) (l : List UInt8) (w : World) (base : Nat) (hb : base ≤ w.heap.size) (hO : OwnB w base v l) (hl : l.length ≤ 70000) (hs : s.size ≤ 65536) :
    Calls Tryd.prog 104 #[v, .int .u8 (k : Nat), .string s] w fun e w' => ∃ v', e = .returned v' ∧ OwnB w' base v' (l ++ rawL k s.toList) ∧ Below base w w' ∧ base ≤ w'.heap.size := by
  rcases hk with rfl | rfl | rfl | rfl
  · exact lbytes_3 v s l w base hb hO hl hs
  · exact lbytes_4 v s l w base hb hO hl hs
  · exact lbytes_5 v s l w base hb hO hl hs
  · exact lbytes_6 v s l w base hb hO hl hs

set_option maxRecDepth 100000 in
set_option maxHeartbeats 1500000 in
theorem told_row (p : Pt) (hk : p.kind = 3 ∨ p.kind = 4 ∨ p.kind = 5 ∨ p.kind = 6) (hr : p.raw.size ≤ 65536) (B : Nat) (b : Value) (l : List UInt8) (w : World) (hsz : B ≤ w.heap.size) (hO : OwnB w B b l) (hl : l.length ≤ 67000) :
    Calls Tryd.prog 76 #[b, .iface 147 (.agg #[.int .u8 p.kind, .string p.raw])] w (ToldPost B l p w) := by
  have HT := Lib.hid (show rawL p.kind p.raw.toList = textP p by rw [textP_eq, if_neg (by omega), if_neg (by omega), if_neg (by omega), if_neg (by omega)])
  have HK := Lib.hid hk
  have hB := Below.refl B w
  have f1 := V.has_Number_row
  have f2 := V.has_Raw_row
  obtain ⟨k, hke⟩ : ∃ k, p.kind = k := ⟨_, rfl⟩
  rw [hke] at HT HK ⊢
  have m1 : ∀ w : World, (method 338 147 (.agg #[.int .u8 k, .string p.raw]) "Kind").run Tryd.prog w = .ok (166, .agg #[.int .u8 k, .string p.raw]) w := fun _ => by kernel_rfl
  have m2 : ∀ w : World, (method 338 147 (.agg #[.int .u8 k, .string p.raw]) "Bytes").run Tryd.prog w = .ok (165, .agg #[.int .u8 k, .string p.raw]) w := fun _ => by kernel_rfl
  clear hk hke
  go_enter Tryd.func76, Tryd.ntmps76
  go_wp2_with fail
  refine (V.kind_row _ _ _).mono ?_
  rintro e w1 ⟨rfl, hb1⟩
  go_wp2_with fail
  refine (V.bytes_row _ _ _).mono ?_
  rintro e wk ⟨rfl, hbk⟩
  replace hB := (hB.trans (hb1.mono hsz)).trans (hbk.mono (Nat.le_trans hsz hb1.size))
  replace hO := (hO.below hb1).below hbk
  replace hsz := Nat.le_trans (Nat.le_trans hsz hb1.size) hbk.size
  clear hb1 hbk
  go_wp2_with fail
  refine (lbytes_any k HK.out b p.raw l wk B hsz hO (by omega) hr).mono ?_
  rintro e w2 ⟨v2, rfl, hO2, hb2, hs2⟩
  have hB2 := hB.trans hb2
  rw [HT.out] at hO2
  obtain ⟨n, a2, cap2, rfl, hn⟩ := ownb_form hO2
  by_cases hq : (l ++ textP p).length ≤ 65536
  · have q3 := last_le hq hn.out
    go_wp2_with (at_builtin; refine wpList_len rfl (.tmp 70) 111 rfl slice111 rfl ?_)
    go_ret
    exact told_yes hq hO2 hB2 hs2
  · have q3 := last_gt hq hn.out
    go_wp2_with (at_builtin; refine wpList_len rfl (.tmp 70) 111 rfl slice111 rfl ?_)
    exact ⟨rfl, told_no (Nat.lt_of_not_le hq) hB2 hs2⟩

def yesS : ByteArray := ⟨#[121, 101, 115]⟩
def noS : ByteArray := ⟨#[110, 111]⟩
theorem yesS_text : yesS.toList = yesT := by rw [Lib.toList_data]; rfl
theorem noS_text : noS.toList = noT := by rw [Lib.toList_data]; rfl

set_option maxRecDepth 100000 in
set_option maxHeartbeats 1500000 in
theorem told_true (p : Pt) (h1 : p.kind = 1) (hy : p.yes = true) (B : Nat) (b : Value) (l : List UInt8) (w : World) (hsz : B ≤ w.heap.size) (hO : OwnB w B b l) (hl : l.length ≤ 67000) :
    Calls Tryd.prog 76 #[b, .iface 140 (.agg #[.bool true])] w (ToldPost B l p w) := by
  have HT := Lib.hid (show yesS.toList = textP p by rw [textP_eq, if_neg (by omega), if_pos h1, hy, yesS_text]; rfl)
  have hB := Below.refl B w
  have f1 := V.has_Number_truth
  have f2 := V.has_Raw_truth
  have f3 := V.has_List_truth
  have m1 : ∀ w : World, (method 338 140 (.agg #[.bool true]) "Part").run Tryd.prog w = .ok (157, .agg #[.bool true]) w := fun _ => by kernel_rfl
  have fd : ∀ w : World, (Instr.field 27 (.agg #[.int .u8 1, .bool true, .bool false, .string ⟨#[]⟩, .string ⟨#[]⟩, .slice none 0 0]) 1).run Tryd.prog w = .ok (.bool true) w := fun _ => by kernel_rfl
  clear h1 hy
  go_enter Tryd.func76, Tryd.ntmps76
  go_wp2_with fail
  refine (V.part_truth _ _).mono ?_
  rintro e w1 ⟨rfl, hb1⟩
  replace hB := hB.trans (hb1.mono hsz)
  replace hO := hO.below hb1
  replace hsz := Nat.le_trans hsz hb1.size
  clear hb1
  by_cases hq : (l ++ yesS.toList).length ≤ 65536
  · go_wp2_with (at_builtin; first
      | (refine wpList_append_str rfl (.tmp 18) (.tmp 19) 111 9 rfl Tryd.underlying111 (by kernel_rfl) Tryd.info5 rfl hO yesS rfl (by show _ + 3 ≤ _; omega) hB hsz ?_; intro v2 w2 hO2 hB2 hs2; obtain ⟨n, a2, cap2, rfl, hn⟩ := ownb_form hO2; have q3 := last_le hq hn.out)
      | refine wpList_len rfl (.tmp 70) 111 rfl slice111 rfl ?_)
    go_ret
    rw [HT.out] at hO2 hq
    exact told_yes hq hO2 hB2 hs2
  · go_wp2_with (at_builtin; first
      | (refine wpList_append_str rfl (.tmp 18) (.tmp 19) 111 9 rfl Tryd.underlying111 (by kernel_rfl) Tryd.info5 rfl hO yesS rfl (by show _ + 3 ≤ _; omega) hB hsz ?_; intro v2 w2 hO2 hB2 hs2; obtain ⟨n, a2, cap2, rfl, hn⟩ := ownb_form hO2; have q3 := last_gt hq hn.out)
      | refine wpList_len rfl (.tmp 70) 111 rfl slice111 rfl ?_)
    rw [HT.out] at hq
    exact ⟨rfl, told_no (Nat.lt_of_not_le hq) hB2 hs2⟩
set_option maxRecDepth 100000 in
set_option maxHeartbeats 1500000 in
theorem told_false (p : Pt) (h1 : p.kind = 1) (hy : p.yes = false) (B : Nat) (b : Value) (l : List UInt8) (w : World) (hsz : B ≤ w.heap.size) (hO : OwnB w B b l) (hl : l.length ≤ 67000) :
    Calls Tryd.prog 76 #[b, .iface 140 (.agg #[.bool false])] w (ToldPost B l p w) := by
  have HT := Lib.hid (show noS.toList = textP p by rw [textP_eq, if_neg (by omega), if_pos h1, hy, noS_text]; rfl)
  have hB := Below.refl B w
  have f1 := V.has_Number_truth
  have f2 := V.has_Raw_truth
  have f3 := V.has_List_truth
  have m1 : ∀ w : World, (method 338 140 (.agg #[.bool false]) "Part").run Tryd.prog w = .ok (157, .agg #[.bool false]) w := fun _ => by kernel_rfl
  have fd : ∀ w : World, (Instr.field 27 (.agg #[.int .u8 1, .bool false, .bool false, .string ⟨#[]⟩, .string ⟨#[]⟩, .slice none 0 0]) 1).run Tryd.prog w = .ok (.bool false) w := fun _ => by kernel_rfl
  clear h1 hy
  go_enter Tryd.func76, Tryd.ntmps76
  go_wp2_with fail
  refine (V.part_truth _ _).mono ?_
  rintro e w1 ⟨rfl, hb1⟩
  replace hB := hB.trans (hb1.mono hsz)
  replace hO := hO.below hb1
  replace hsz := Nat.le_trans hsz hb1.size
  clear hb1
  by_cases hq : (l ++ noS.toList).length ≤ 65536
  · go_wp2_with (at_builtin; first
      | (refine wpList_append_str rfl (.tmp 18) (.tmp 19) 111 9 rfl Tryd.underlying111 (by kernel_rfl) Tryd.info5 rfl hO noS rfl (by show _ + 2 ≤ _; omega) hB hsz ?_; intro v2 w2 hO2 hB2 hs2; obtain ⟨n, a2, cap2, rfl, hn⟩ := ownb_form hO2; have q3 := last_le hq hn.out)
      | refine wpList_len rfl (.tmp 70) 111 rfl slice111 rfl ?_)
    go_ret
    rw [HT.out] at hO2 hq
    exact told_yes hq hO2 hB2 hs2
  · go_wp2_with (at_builtin; first
      | (refine wpList_append_str rfl (.tmp 18) (.tmp 19) 111 9 rfl Tryd.underlying111 (by kernel_rfl) Tryd.info5 rfl hO noS rfl (by show _ + 2 ≤ _; omega) hB hsz ?_; intro v2 w2 hO2 hB2 hs2; obtain ⟨n, a2, cap2, rfl, hn⟩ := ownb_form hO2; have q3 := last_gt hq hn.out)
      | refine wpList_len rfl (.tmp 70) 111 rfl slice111 rfl ?_)
    rw [HT.out] at hq
    exact ⟨rfl, told_no (Nat.lt_of_not_le hq) hB2 hs2⟩
end Go.Proofs.YtcgphlilijeifaaDoor.L
end
section
/-
  lit.told: tuples; any part.
-/
namespace Go.Proofs.YtcgphlilijeifaaDoor.L
open Go.RowKit
open V (Pt)

/-- The text so far: some items behind a bracket. -/
def soFar (l : List UInt8) (ps : List Pt) : List UInt8 := l ++ 40 :: textI ps
theorem soFar_nil (l : List UInt8) : soFar l [] = l ++ [40] := by simp [soFar, textI_nil]
theorem soFar_one (l : List UInt8) (p : Pt) : soFar l [] ++ textP p = soFar l [p] := by simp [soFar, textI_nil, textI_one]
theorem soFar_snoc (l : List UInt8) {ps : List Pt} (h : ps ≠ []) (p : Pt) : (soFar l ps ++ [32]) ++ textP p = soFar l (ps ++ [p]) := by simp [soFar, textI_snoc h]
theorem soFar_all (l : List UInt8) {p : Pt} (h : p.kind = 7) : soFar l p.items ++ [41] = l ++ textP p := by rw [textP_tuple h]; simp [soFar]
theorem textI_take_len (ps : List Pt) (k : Nat) : (textI (ps.take k)).length ≤ (textI ps).length := by
  unfold textI
  have := textI_take_le ps k
  simp only [List.length_drop]
  omega
theorem soFar_le (l : List UInt8) {p : Pt} (h : p.kind = 7) (k : Nat) : (soFar l (p.items.take k)).length ≤ (l ++ textP p).length := by
  rw [← soFar_all l h]
  have := textI_take_len p.items k
  simp only [soFar, List.length_append, List.length_cons]
  omega
theorem soFar_len (l : List UInt8) : (soFar l []).length = l.length + 1 := by simp [soFar_nil]
theorem take_snoc {ps : List Pt} {k : Nat} (h : k < ps.length) : ps.take (k + 1) = ps.take k ++ [ps[k]] := List.take_succ_eq_append_getElem h

set_option maxRecDepth 100000 in
set_option maxHeartbeats 1500000 in
theorem told_tuple (p : Pt) (h7 : p.kind = 7) (hmay : V.mayB p = true) (hdp : V.depthP p ≤ 1000)
    (ih : ∀ q ∈ p.items, ∀ (B : Nat) (b v : Value) (l : List UInt8) (w : World), V.mayB q = true → V.depthP q ≤ 1000 → l.length + V.depthP q ≤ 66600 → V.VI w 0 B q v → B ≤ w.heap.size → OwnB w B b l → Calls Tryd.prog 76 #[b, v] w (ToldPost B l q w))
    (B : Nat) (b v : Value) (l : List UInt8) (w : World) (hl : l.length + V.depthP p ≤ 66600) (hv : V.VI w 0 B p v) (hsz : B ≤ w.heap.size) (hO : OwnB w B b l) : Calls Tryd.prog 76 #[b, v] w (ToldPost B l p w) := by
  have hlen := V.may_len hmay h7
  have hD : V.depthP p = V.depthL p.items + 1 := by rw [V.depthP_eq, if_pos h7]
  have HD := Lib.hid hD
  obtain ⟨a, cap, F, rfl, hcells, hdeep⟩ : ∃ (a : Option Addr) (cap : Nat) (F : Nat → Value), v = .iface 145 (.agg #[.slice a p.items.length cap]) ∧ (∀ j, j < p.items.length → ∃ g, a = some ⟨g, 0, none⟩ ∧ 0 ≤ g ∧ g < B ∧ w.cell? ⟨g, j, none⟩ = some (F j)) ∧ ∀ j (h : j < p.items.length), V.VI w 0 B p.items[j] (F j) := by
    cases hv with
    | null _ h => omega
    | truth _ h => omega
    | whole _ h => omega
    | row _ _ _ _ h => omega
    | tuple _ _ a cap F hc cells deep => exact ⟨a, cap, F, rfl, cells, deep⟩
  have m1 : ∀ w : World, (method 338 145 (.agg #[.slice a p.items.length cap]) "Len").run Tryd.prog w = .ok (163, .agg #[.slice a p.items.length cap]) w := fun _ => by kernel_rfl
  have m2 : ∀ w : World, (method 338 145 (.agg #[.slice a p.items.length cap]) "At").run Tryd.prog w = .ok (161, .agg #[.slice a p.items.length cap]) w := fun _ => by kernel_rfl
  have f1 := V.has_Number_tuple
  have f2 := V.has_Raw_tuple
  have f3 := V.has_List_tuple
  have HC := Lib.hid hcells
  have HDp := Lib.hid hdeep
  have IH := Lib.hid ih
  have HM := Lib.hid hmay
  have HK := Lib.hid h7
  have hB := Below.refl B w
  clear hv hcells hdeep ih hmay h7 hD
  go_enter Tryd.func76, Tryd.ntmps76
  go_wp2_with (at_builtin; refine wpList_append_bytes rfl (.tmp 48) (.tmp 49) 111 rfl Tryd.underlying111 Tryd.info5 rfl (hO.alloc _) _ [40] 1 _ rfl rfl (bv_cells_one _ 40 _) (by omega) (hB.alloc hsz _) (by simp; omega) ?_; intro v2 w2 hO2 hB2 hs2)
  refine (V.len_tuple _ _ _ _).mono ?_
  rintro e w3 ⟨rfl, hb3⟩
  replace hO2 := hO2.below hb3
  replace hB2 := hB2.trans (hb3.mono hs2)
  replace hs2 := Nat.le_trans hs2 hb3.size
  clear hb3 hB hsz
  go_wp2_with fail
  go_loopw [0, 53] (fun b i wr => ∃ k : Nat, k ≤ p.items.length ∧ i = .int .i64 k ∧ OwnB wr B b (soFar l (p.items.take k)) ∧ Below B w wr ∧ B ≤ wr.heap.size ∧ RowKit.Hid (k = 0 ∨ (soFar l (p.items.take k)).length ≤ 65536)) (fun _ i _ => p.items.length - (intOf i).toNat)
  case atStart => exact ⟨0, Nat.zero_le _, rfl, by rw [List.take_zero, soFar_nil]; exact hO2, hB2, hs2, Lib.hid (.inl rfl)⟩
  case round =>
    clear hO2 hB2 hs2
    obtain ⟨k, hkl, rfl, hO, hB, hsz, HL⟩ := hrel
    by_cases hlt : k < p.items.length
    · have q3 : decide (k < p.items.length) = true := by simpa using hlt
      obtain ⟨g0, rfl, _, hg0, hcell⟩ := HC.out k hlt
      have HE := Lib.hid (take_snoc hlt)
      have hmem : p.items[k] ∈ p.items := List.getElem_mem _
      have hdq := V.depthL_mem hmem
      have hvi := Lib.hid (HDp.out k hlt)
      obtain ⟨q, hq⟩ : ∃ q, p.items[k] = q := ⟨_, rfl⟩
      rw [hq] at HE hmem hdq hvi
      have hmq := Lib.hid (V.mayB_item HM.out hmem)
      have hdq2 : V.depthP q + 1 ≤ V.depthP p := by rw [HD.out]; omega
      have hle := Lib.hid (soFar_le l HK.out (k + 1))
      clear hq hdq
      by_cases hk0 : k = 0
      · have q4 : decide (0 < k) = false := by simp; omega
        have HS := Lib.hid (show soFar l (p.items.take k) ++ textP q = soFar l (p.items.take (k + 1)) by rw [HE.out, hk0, List.take_zero, soFar_one]; rfl)
        have hln : (soFar l (p.items.take k)).length = l.length + 1 := by rw [hk0, List.take_zero, soFar_len]
        have hcell2 := Lib.hid (V.keep hB hg0 hcell)
        clear hk0 hcell
        obtain ⟨M, hM⟩ : ∃ M, soFar l (p.items.take k) = M := ⟨_, rfl⟩
        rw [hM] at HS hln hO
        clear hM HL
        go_wp2_with fail
        refine (V.at_in g0 _ cap k (F k) _ (by omega) hlt hcell2.out).mono ?_
        rintro e w2 ⟨rfl, hb2⟩
        have hB2 := hB.trans (hb2.mono hsz)
        have hs2 := Nat.le_trans hsz hb2.size
        go_wp2_with fail
        refine (IH.out q hmem B _ (F k) M w2 hmq.out (by omega) (by omega) (hvi.out.same (V.Same.of_below hB2 (Nat.le_refl _))) hs2 (hO.below hb2)).mono ?_
        rintro e w3 ⟨hB3, hs3, h3⟩
        have hB3 := hB2.trans hB3
        rw [HS.out] at h3
        unfold tooLong at h3
        rcases h3 with ⟨hfit, b3, rfl, hO3⟩ | ⟨hlong, rfl⟩
        · have HF := Lib.hid hfit
          clear hfit hB hB2 hs2 hb2 hO
          go_wp2_with fail
          refine ⟨⟨k + 1, by omega, rfl, hO3, hB3, hs3, Lib.hid (.inr HF.out)⟩, by simp [intOf]; omega⟩
        · go_wp2_with fail
          exact ⟨rfl, told_no (Nat.lt_of_lt_of_le hlong hle.out) hB3 hs3⟩
      · have q4 : decide (0 < k) = true := by simp; omega
        have hln := HL.out.resolve_left hk0
        have HS := Lib.hid (show (soFar l (p.items.take k) ++ [32]) ++ textP q = soFar l (p.items.take (k + 1)) by rw [HE.out]; exact soFar_snoc l (fun e => by have := congrArg List.length e; rw [List.length_take, List.length_nil] at this; omega) q)
        clear hk0
        obtain ⟨M, hM⟩ : ∃ M, soFar l (p.items.take k) = M := ⟨_, rfl⟩
        rw [hM] at HS hln hO
        clear hM HL
        go_wp2_with (at_builtin; refine wpList_append_bytes rfl (.tmp 58) (.tmp 59) 111 rfl Tryd.underlying111 Tryd.info5 rfl (hO.alloc _) _ [32] 1 _ rfl rfl (bv_cells_one _ 32 _) (by omega) (hB.alloc hsz _) (by simp; omega) ?_; intro v2 w2 hO2 hB2 hs2)
        have hcell2 := Lib.hid (V.keep hB2 hg0 hcell)
        refine (V.at_in g0 _ cap k (F k) _ (by omega) hlt hcell2.out).mono ?_
        rintro e w4 ⟨rfl, hb4⟩
        have hB4 := hB2.trans (hb4.mono hs2)
        have hs4 := Nat.le_trans hs2 hb4.size
        go_wp2_with fail
        refine (IH.out q hmem B _ (F k) (M ++ [32]) w4 hmq.out (by omega) (by rw [List.length_append]; simp; omega) (hvi.out.same (V.Same.of_below hB4 (Nat.le_refl _))) hs4 (hO2.below hb4)).mono ?_
        rintro e w3 ⟨hB3, hs3, h3⟩
        have hB3 := hB4.trans hB3
        rw [HS.out] at h3
        unfold tooLong at h3
        rcases h3 with ⟨hfit, b3, rfl, hO3⟩ | ⟨hlong, rfl⟩
        · have HF := Lib.hid hfit
          clear hfit hB hB2 hs2 hb4 hO hO2 hB4 hs4 hcell
          go_wp2_with fail
          refine ⟨⟨k + 1, by omega, rfl, hO3, hB3, hs3, Lib.hid (.inr HF.out)⟩, by simp [intOf]; omega⟩
        · go_wp2_with fail
          exact ⟨rfl, told_no (Nat.lt_of_lt_of_le hlong hle.out) hB3 hs3⟩
    · have q3 : decide (k < p.items.length) = false := by simpa using hlt
      have hT : p.items.take k = p.items := List.take_of_length_le (by omega)
      rw [hT] at hO HL
      have hln : (soFar l p.items).length ≤ 70000 := by
        rcases HL.out with h | h
        · have : p.items = [] := by rw [← hT, h]; rfl
          rw [this, soFar_len]; omega
        · omega
      have HA := Lib.hid (soFar_all l HK.out)
      clear hT HL
      obtain ⟨M, hM⟩ : ∃ M, soFar l p.items = M := ⟨_, rfl⟩
      rw [hM] at HA hln hO
      clear hM
      by_cases hq : (M ++ [41]).length ≤ 65536
      · go_wp2_with (at_builtin; first
          | (refine wpList_append_bytes rfl (.tmp 67) (.tmp 68) 111 rfl Tryd.underlying111 Tryd.info5 rfl (hO.alloc _) _ [41] 1 _ rfl rfl (bv_cells_one _ 41 _) (by omega) (hB.alloc hsz _) (by simp; omega) ?_; intro v2 w2 hO2 hB2 hs2; obtain ⟨n, a2, cap2, rfl, hn⟩ := ownb_form hO2; have q5 := last_le hq hn.out)
          | refine wpList_len rfl (.tmp 70) 111 rfl slice111 rfl ?_)
        go_ret
        rw [HA.out] at hO2 hq
        exact told_yes hq hO2 hB2 hs2
      · go_wp2_with (at_builtin; first
          | (refine wpList_append_bytes rfl (.tmp 67) (.tmp 68) 111 rfl Tryd.underlying111 Tryd.info5 rfl (hO.alloc _) _ [41] 1 _ rfl rfl (bv_cells_one _ 41 _) (by omega) (hB.alloc hsz _) (by simp; omega) ?_; intro v2 w2 hO2 hB2 hs2; obtain ⟨n, a2, cap2, rfl, hn⟩ := ownb_form hO2; have q5 := last_gt hq hn.out)
          | refine wpList_len rfl (.tmp 70) 111 rfl slice111 rfl ?_)
        rw [HA.out] at hq
        exact ⟨rfl, told_no (Nat.lt_of_not_le hq) hB2 hs2⟩

theorem raw_le {p : Pt} (h : V.mayB p = true) : p.raw.size ≤ 65536 := by
  obtain ⟨c0, c1, c2, c3, c4, c5, c6, c7⟩ := canonP h
  by_cases k : p.kind = 0 ∨ p.kind = 1 ∨ p.kind = 2 ∨ p.kind = 7
  · rw [c4 k]; decide
  by_cases k4 : p.kind = 4
  · rw [c6 k4]; omega
  have h1 := V.mayB_ok h
  unfold V.okOne at h1
  simp only [Bool.and_eq_true, Bool.or_eq_true, decide_eq_true_eq] at h1
  obtain ⟨_, h5⟩ := h1
  rw [if_neg (by omega), if_neg k4, if_pos (by omega)] at h5
  simpa using h5
theorem told_any (p : Pt) : ∀ (B : Nat) (b v : Value) (l : List UInt8) (w : World), V.mayB p = true → V.depthP p ≤ 1000 → l.length + V.depthP p ≤ 66600 → V.VI w 0 B p v → B ≤ w.heap.size → OwnB w B b l → Calls Tryd.prog 76 #[b, v] w (ToldPost B l p w) := by
  induction p using Pt.ind with
  | h p ih =>
  intro B b v l w hmay hdp hl hv hsz hO
  obtain ⟨h0, h1, h2, h3, h4, h5, h6, h8⟩ := canonP hmay
  by_cases h7 : p.kind = 7
  · exact told_tuple p h7 hmay hdp ih B b v l w hl hv hsz hO
  · cases hv with
    | null _ h => exact told_null p h B b l w hsz hO (by omega)
    | truth _ h =>
      cases hy : p.yes with
      | true => exact told_true p h hy B b l w hsz hO (by omega)
      | false => exact told_false p h hy B b l w hsz hO (by omega)
    | whole _ h => exact told_num p h (h5 h) B b l w hsz hO (by omega)
    | row _ k0 k1 k2 k7 => exact told_row p (by omega) (raw_le hmay) B b l w hsz hO (by omega)
    | tuple _ h => exact absurd h h7
end Go.Proofs.YtcgphlilijeifaaDoor.L
end
section
/-
  lit.Print: its contract.
-/
namespace Go.Proofs.YtcgphlilijeifaaDoor.L
open Go.RowKit
open V (Pt)

set_option maxRecDepth 100000 in
theorem pcatch_idle (p q : Addr) (w : World) :
    CallsD Tryd.prog 75 #[.pointer (some p), .pointer (some q)] .returning w fun e u' w' => e = .returned (.tuple #[]) ∧ u' = .returning ∧ Below w.heap.size w w' := by
  have hta : ∀ (w : World), (Instr.typeAssert .nilIface 20 128 true).run Tryd.prog w = .ok (.tuple #[.agg #[], .bool false]) w := fun _ => by kernel_rfl
  refine callsD_of_wpS Tryd.func75 rfl fun c₀ cs hu => ?_
  apply wpS_seq
  apply wpS_region
  simp [wpOpsS, go_sem, recoverD, hu, Tryd.ntmps75, Exit.thenS, hta]
  rw [show Array.replicate 8 undef = #[undef, undef, undef, undef, undef, undef, undef, undef] from rfl]
  simp
  refine wpS_of_wp (Code.wp_mono (fun e a' w' (h : Ends (fun w' => Below w.heap.size w w') e a' w') => ?_) ?_)
  · obtain ⟨rfl, hd, h⟩ := h
    simp [bodyPostS, results, Tryd.results75, hd, h]
    cases c₀
    simp_all
  go_wp2_with fail
  exact ⟨rfl, rfl, (Below.refl _ w).alloc (Nat.le_refl _) _⟩

set_option maxRecDepth 100000 in
theorem pcatch_bad (g : Nat) (x : ByteArray) (z : Int) (w : World) (c0 : w.cell? ⟨g, 0, none⟩ = some (.string x)) (c1 : w.cell? ⟨g + 1, 0, none⟩ = some (.int .i64 z))
    (z0 : w.frozen? ⟨g, 0, none⟩ = false) (z1 : w.frozen? ⟨g + 1, 0, none⟩ = false) :
    CallsD Tryd.prog 75 #[.pointer (some ⟨g, 0, none⟩), .pointer (some ⟨g + 1, 0, none⟩)] (.panicking [{ v := .iface 128 (.agg #[]), recovered := false }]) w fun e u' w' =>
      e = .returned (.tuple #[]) ∧ u' = .panicking [{ v := .iface 128 (.agg #[]), recovered := true }] ∧
        w'.cell? ⟨g, 0, none⟩ = some (.string ⟨#[]⟩) ∧ w'.cell? ⟨g + 1, 0, none⟩ = some (.int .i64 2) ∧ Below g w w' := by
  have hta : ∀ (w : World), (Instr.typeAssert (.iface 128 (.agg #[])) 20 128 true).run Tryd.prog w = .ok (.tuple #[.agg #[], .bool true]) w := fun _ => by kernel_rfl
  refine callsD_of_wpS Tryd.func75 rfl fun c₀ cs hu => ?_
  apply wpS_seq
  apply wpS_region
  simp [wpOpsS, go_sem, recoverD, hu, Tryd.ntmps75, Exit.thenS, hta]
  rw [show Array.replicate 8 undef = #[undef, undef, undef, undef, undef, undef, undef, undef] from rfl]
  simp
  refine wpS_of_wp (Code.wp_mono (fun e a' w' (h : Ends (fun w' => w'.cell? ⟨g, 0, none⟩ = some (.string ⟨#[]⟩) ∧ w'.cell? ⟨g + 1, 0, none⟩ = some (.int .i64 2) ∧ Below g w w') e a' w') => ?_) ?_)
  · obtain ⟨rfl, hd, h⟩ := h
    simp [bodyPostS, results, Tryd.results75, hd, h]
  have k1 : g + 1 < w.heap.size := World.block_lt_of_cell? w _ c1
  obtain ⟨W, hW⟩ : ∃ W, W = w.alloc (.cells #[] 128) := ⟨_, rfl⟩
  have d0 : W.cell? ⟨g, 0, none⟩ = some (.string x) := by rw [hW]; exact (World.cell?_of_block (Below.heap_alloc w _ g (by omega))).trans c0
  have d1 : W.cell? ⟨g + 1, 0, none⟩ = some (.int .i64 z) := by rw [hW]; exact (World.cell?_of_block (Below.heap_alloc w _ (g + 1) k1)).trans c1
  have y0 : W.frozen? ⟨g, 0, none⟩ = false := by rw [hW]; exact (World.frozen?_of_block (Below.heap_alloc w _ g (by omega))).trans z0
  have y1 : W.frozen? ⟨g + 1, 0, none⟩ = false := by rw [hW]; exact (World.frozen?_of_block (Below.heap_alloc w _ (g + 1) k1)).trans z1
  have hb : Below g w W := by rw [hW]; exact (Below.refl g w).alloc (by omega) _
  have kW : g + 1 < W.heap.size := World.block_lt_of_cell? W _ d1
  rw [← hW]
  clear hW c0 c1 z0 z1
  go_wp2_with fail
  exact ⟨rfl, rfl, by simp [go_sem, d0, kW], by simp [go_sem, d1, kW], (hb.setCell (Nat.le_refl g) _).setCell (Nat.le_succ g) _⟩

/-- What Print tells. -/
def LPost (p : Pt) (w : World) (e : Ending) (w' : World) : Prop :=
  Below w.heap.size w w' ∧ (((textP p).length ≤ 65536 ∧ ∃ q : ByteArray, e = .returned (.tuple #[.string q, .int .i64 0]) ∧ Hid (q.toList = textP p)) ∨ (65536 < (textP p).length ∧ e = .returned (.tuple #[.string ⟨#[]⟩, .int .i64 2])))

set_option maxRecDepth 100000 in
set_option maxHeartbeats 1500000 in
theorem lprint_any (p : Pt) (v : Value) (w : World) (hmay : V.mayB p = true) (hdp : V.depthP p ≤ 1000) (hv : V.VI w 0 w.heap.size p v) : Calls Tryd.prog 35 #[v] w (LPost p w) := by
  have hmf : ∀ (fn : Fn) (first cap : Array Value) (w : World), (Instr.makeFunc fn first cap).run Tryd.prog w = .ok (.func fn first cap) w := fun _ _ _ _ => rfl
  obtain ⟨W, hW⟩ : ∃ W : World, W = (w.alloc (.cells #[.string ⟨#[]⟩] 9)).alloc (.cells #[.int .i64 0] 30) := ⟨_, rfl⟩
  have hBel : Below w.heap.size w W := by
    subst hW
    exact ((Below.refl _ w).alloc (Nat.le_refl _) _).alloc (by simp) _
  have hWs : W.heap.size = w.heap.size + 2 := by subst hW; simp
  have c0 : W.cell? ⟨w.heap.size, 0, none⟩ = some (.string ⟨#[]⟩) := by subst hW; simp [go_sem]
  have c1 : W.cell? ⟨w.heap.size + 1, 0, none⟩ = some (.int .i64 0) := by subst hW; simp [go_sem]
  have z0 : W.frozen? ⟨w.heap.size, 0, none⟩ = false := by subst hW; simp [go_sem]
  have z1 : W.frozen? ⟨w.heap.size + 1, 0, none⟩ = false := by subst hW; simp [go_sem]
  have hvW := (hv.same (V.Same.of_below hBel (Nat.le_refl _))).wide (Nat.le_refl _) (show w.heap.size ≤ w.heap.size + 2 by omega)
  clear hv
  go_enter_defers Tryd.func35, Tryd.ntmps35
  go_wp2_with fail
  rw [← hW]
  clear hW
  refine (told_any p (w.heap.size + 2) (.slice none 0 0) v [] W hmay hdp (by simp; omega) hvW (by omega) (OwnB.nil _ _)).mono ?_
  rintro e w1 ⟨hB1, hs1, h1⟩
  rw [List.nil_append] at h1
  have d0 : w1.cell? ⟨w.heap.size, 0, none⟩ = some (.string ⟨#[]⟩) := (hB1.cell (p := ⟨w.heap.size, 0, none⟩) (by simp)).trans c0
  have d1 : w1.cell? ⟨w.heap.size + 1, 0, none⟩ = some (.int .i64 0) := (hB1.cell (p := ⟨w.heap.size + 1, 0, none⟩) (by simp)).trans c1
  have y0 : w1.frozen? ⟨w.heap.size, 0, none⟩ = false := (hB1.frozen (p := ⟨w.heap.size, 0, none⟩) (by simp)).trans z0
  have y1 : w1.frozen? ⟨w.heap.size + 1, 0, none⟩ = false := (hB1.frozen (p := ⟨w.heap.size + 1, 0, none⟩) (by simp)).trans z1
  have hBw : Below w.heap.size w w1 := hBel.trans (hB1.mono (by omega))
  clear c0 c1 z0 z1
  rcases h1 with ⟨hfit, b1, rfl, hO⟩ | ⟨hlong, rfl⟩
  · have hcv := hO.conv (P := Tryd.prog) 111 9 Tryd.underlying111 (by kernel_rfl) (by kernel_rfl)
    have k1 : w.heap.size + 1 < w1.heap.size := by omega
    have HF := Lib.hid hfit
    clear hO hfit
    go_wp2_with fail
    refine leaves_cons (f := 75) (args := #[.pointer (some ⟨w.heap.size, 0, none⟩), .pointer (some ⟨w.heap.size + 1, 0, none⟩)]) (by simp) (by simp [go_sem]) ?_
    obtain ⟨W2, hW2⟩ : ∃ W2, W2 = (w1.setCell ⟨w.heap.size, 0, none⟩ (.string ⟨(textP p).toArray⟩)).setCell ⟨w.heap.size + 1, 0, none⟩ (.int .i64 0) := ⟨_, rfl⟩
    have x0 : W2.cell? ⟨w.heap.size, 0, none⟩ = some (.string ⟨(textP p).toArray⟩) := by rw [hW2]; simp [go_sem, d0]
    have x1 : W2.cell? ⟨w.heap.size + 1, 0, none⟩ = some (.int .i64 0) := by rw [hW2]; simp [go_sem, d1]
    have hB2 : Below w.heap.size w W2 := by rw [hW2]; exact (hBw.setCell (Nat.le_refl _) _).setCell (Nat.le_succ _) _
    have k2 : w.heap.size + 1 < W2.heap.size := World.block_lt_of_cell? W2 _ x1
    rw [← hW2]
    clear hW2 d0 d1 y0 y1
    refine (pcatch_idle _ _ W2).mono ?_
    rintro e u' w3 ⟨rfl, rfl, hb3⟩
    have e0 : w3.cell? ⟨w.heap.size, 0, none⟩ = some (.string ⟨(textP p).toArray⟩) := V.keeps hb3 x0
    have e1 : w3.cell? ⟨w.heap.size + 1, 0, none⟩ = some (.int .i64 0) := V.keeps hb3 x1
    refine ⟨.tuple #[.string ⟨(textP p).toArray⟩, .int .i64 0], ?_, V.two hB2 hb3, .inl ⟨HF.out, _, rfl, Lib.hid (by rw [Lib.toList_data])⟩⟩
    simp [results, Tryd.results35, go_sem, e0, e1]
  · refine leaves_cons (f := 75) (args := #[.pointer (some ⟨w.heap.size, 0, none⟩), .pointer (some ⟨w.heap.size + 1, 0, none⟩)]) (by simp) (by simp [go_sem]) ?_
    refine (pcatch_bad w.heap.size _ _ w1 d0 d1 y0 y1).mono ?_
    rintro e u' w2 ⟨rfl, rfl, e0, e1, hb2⟩
    refine ⟨.tuple #[.string ⟨#[]⟩, .int .i64 2], ?_, hBw.trans hb2, .inr ⟨hlong, rfl⟩⟩
    simp [results, Tryd.results35, go_sem, e0, e1]
end Go.Proofs.YtcgphlilijeifaaDoor.L
end
section
/-
  The document's answer for texts: hexadecimal digits.
-/
namespace Go.Proofs.YtcgphlilijeifaaDoor.L
open Go.RowKit
open V (Pt)

theorem rdigit_any (n : Int) (w : World) (h0 : 0 ≤ n) (h1 : n < 16) : Calls Tryd.prog 124 #[.int .i64 n] w fun e w' => e = .returned (.int .u8 ((hexC n.toNat).toNat : Int)) ∧ w' = w := by
  by_cases h : n < 10
  · have HV := Lib.hid (show ((hexC n.toNat).toNat : Int) = 48 + n by unfold hexC; rw [if_pos (by omega)]; simp; omega)
    have q : decide (n < 10) = true := by simpa using h
    clear h
    go_enter Tryd.func124, Tryd.ntmps124
    go_wp2_with fail
    go_ret
    exact ⟨by rw [HV.out]; rfl, rfl⟩
  · have HV := Lib.hid (show ((hexC n.toNat).toNat : Int) = 97 + n - 10 by unfold hexC; rw [if_neg (by omega)]; simp; omega)
    have q : decide (n < 10) = false := by simpa using h
    clear h
    go_enter Tryd.func124, Tryd.ntmps124
    go_wp2_with fail
    go_ret
    exact ⟨by rw [HV.out]; rfl, rfl⟩

theorem wrap_small (n : Int) (h0 : 0 ≤ n) (h1 : n ≤ 9223372036854775807) : IntKind.i64.wrap n = n := by
  simp [IntKind.wrap, IntKind.signed, IntKind.bits]
  omega
theorem hi_wrap (c : UInt8) : IntKind.i64.wrap ((IntKind.i64.wrap (c.toNat : Int)).tdiv 16) = (c.toNat : Int) / 16 := by
  have hc := c.toNat_lt
  rw [wrap_small (c.toNat : Int) (by omega) (by omega), Int.tdiv_eq_ediv_of_nonneg (by omega), wrap_small _ (by omega) (by omega)]
theorem lo_wrap (c : UInt8) : (IntKind.i64.wrap (c.toNat : Int)).tmod 16 = (c.toNat : Int) % 16 := by
  have hc := c.toNat_lt
  rw [wrap_small (c.toNat : Int) (by omega) (by omega), Int.tmod_eq_emod_of_nonneg (by omega)]
set_option maxRecDepth 100000 in
set_option maxHeartbeats 600000 in
theorem rdigits_any (s : ByteArray) (w : World) (hs : s.size ≤ 65536) :
    Calls Tryd.prog 105 #[.string s] w fun e w' => ∃ v', e = .returned v' ∧ OwnB w' w.heap.size v' (hexL s.toList) ∧ Below w.heap.size w w' := by
  have hB := Below.refl w.heap.size w
  go_enter Tryd.func105, Tryd.ntmps105
  go_wp2_with fail
  go_loopw [3, 4] (fun b i wr => ∃ (j : Nat), j ≤ s.size ∧ i = .int .i64 j ∧ OwnB wr w.heap.size b (hexL (s.toList.take j)) ∧ Below w.heap.size w wr) (fun _ i _ => s.size - (intOf i).toNat)
  case atStart => exact ⟨0, Nat.zero_le _, rfl, OwnB.nil _ _, hB⟩
  case round =>
    clear hB
    obtain ⟨j, hj, rfl, hO, hB⟩ := hrel
    by_cases hlt : j < s.size
    · have q3 : decide (j < s.size) = true := by simpa using hlt
      have hlt2 := s[j].toNat_lt
      have e1 := hi_wrap s[j]
      have e2 := lo_wrap s[j]
      have T1 := Lib.hid (show ((s[j].toNat : Int) / 16).toNat = s[j].toNat / 16 by omega)
      have T2 := Lib.hid (show ((s[j].toNat : Int) % 16).toNat = s[j].toNat % 16 by omega)
      have hsz := hB.size
      have hlen : (hexL (s.toList.take j)).length ≤ 300000 := by
        rw [hexL_length, List.length_take]; omega
      obtain ⟨L, hL⟩ : ∃ L, hexL (s.toList.take j) = L := ⟨_, rfl⟩
      rw [hL] at hO hlen
      have HL := Lib.hid hL
      have HO := Lib.hid hO
      have hO' : wr.drew.ownsRow w.heap.size 5 1 u3 L.length (bv L) := hO
      obtain ⟨i0, hinf, hz0, hz1, hz2⟩ := info_parts Tryd.info5
      clear hO hL
      go_wp2_with fail
      go_region_held3 (fun _ => True) (trivial) (first
        | (go_at_call 124; refine (rdigit_any _ _ (by omega) (by omega)).mono ?_; rintro e w9 ⟨rfl, rfl⟩)
        | (refine step_append_lies _ rfl (.tmp 11) (.tmp 24) 111 rfl w.heap.size 5 i0 (.int .u8 0) 1 1 Tryd.underlying111 hinf hz0 hz1 hz2 rfl (by decide) u3 _ _ (by simp [Act.eval, Act.put]) (hO'.alloc _) ⟨wr.heap.size, 0, none⟩ 2 2 (bv [_, _]) (by simp [Act.eval, Act.put]) (by simp [bv]) (bv_cells_two wr.drew _ _ _) (bv_one _) (by decide) (by unfold maxLen; omega) (by omega) (by simp; omega) _ rfl ?_; intro g cap w3 hO3 hg3 hlies hgl))
      all_goals
        go_wp2_with fail
        have hOx := own_push (M := hexL (s.toList.take (j + 1))) hO3 rfl (by rw [hexL_take hlt, ← HL.out, T1.out, T2.out])
        have hBx : Below w.heap.size w w3 := ((hB.drew).alloc hsz _).grown hg3 (by simp; omega) (fun k hk => (World.ownsRow.lt HO.out k hk).1)
        refine ⟨?_, by simp [intOf]; omega⟩
        exact ⟨j + 1, by omega, rfl, hOx, hBx⟩
    · have q3 : decide (j < s.size) = false := by simpa using hlt
      go_wp2_with fail
      go_ret
      have e : s.toList.take j = s.toList := List.take_of_length_le (by rw [size_of]; omega)
      exact ⟨_, rfl, by rw [e] at hO; exact hO, hB⟩
end Go.Proofs.YtcgphlilijeifaaDoor.L
end
section
/-
  The document's answer for texts: bytes between quotes.
-/
namespace Go.Proofs.YtcgphlilijeifaaDoor.L
open Go.RowKit
open V (Pt)

theorem ownB_lit (w : World) (c : UInt8) : OwnB (w.alloc (.cells #[.int .u8 (c.toNat : Int)] 5)) w.heap.size (.slice (some ⟨w.heap.size, 0, none⟩) 1 1) [c] := by
  exact ⟨by simp [bv], .inr ⟨w.heap.size, 1, #[.int .u8 (c.toNat : Int)], rfl, Nat.le_refl _, heap_alloc_new w _, Nat.le_refl _, by unfold maxLen; decide, rfl, by simp [bv]⟩⟩

set_option maxRecDepth 100000 in
set_option maxHeartbeats 1500000 in
theorem rquoted_any (s : ByteArray) (q : UInt8) (w : World) (hs : s.size ≤ 65536) :
    Calls Tryd.prog 106 #[.string s, .int .u8 (q.toNat : Int)] w fun e w' => ∃ v', e = .returned v' ∧ OwnB w' w.heap.size v' (q :: (escL q s.toList ++ [q])) ∧ Below w.heap.size w w' := by
  have hB : Below w.heap.size w (w.alloc (.cells #[.int .u8 (q.toNat : Int)] 5)) := (Below.refl _ w).alloc (Nat.le_refl _) _
  have hO1 := ownB_lit w q
  go_enter Tryd.func106, Tryd.ntmps106
  go_wp2_with fail
  go_loopw [5, 6] (fun b i wr => ∃ (j : Nat), j ≤ s.size ∧ i = .int .i64 j ∧ OwnB wr w.heap.size b (q :: escL q (s.toList.take j)) ∧ Below w.heap.size w wr) (fun _ i _ => s.size - (intOf i).toNat)
  case atStart => exact ⟨0, Nat.zero_le _, rfl, hO1, hB⟩
  case round =>
    clear hB hO1
    obtain ⟨j, hj, rfl, hO, hB⟩ := hrel
    have hsz := hB.size
    have hlen : (q :: escL q (s.toList.take j)).length ≤ 400000 := by
      have := escL_len q (s.toList.take j)
      rw [List.length_cons]; rw [List.length_take] at this; omega
    obtain ⟨L, hL⟩ : ∃ L, q :: escL q (s.toList.take j) = L := ⟨_, rfl⟩
    rw [hL] at hO hlen
    have HL := Lib.hid hL
    by_cases hlt : j < s.size
    · have q3 : decide (j < s.size) = true := by simpa using hlt
      have HT := Lib.hid (escL_take q hlt)
      clear hL
      by_cases hc1 : s[j] = q
      · have HE := Lib.hid (show escB q s[j] = [92, s[j]] by unfold escB; rw [if_pos (.inl hc1)])
        have e1 : ((s[j].toNat : Int) == (q.toNat : Int)) = true := by rw [hc1]; simp
        have e1b : (s[j].toNat == q.toNat) = true := by rw [hc1]; simp
        clear hc1
        go_wp2_with (at_builtin; refine wpList_append_bytes rfl (.tmp 26) (.tmp 28) 111 rfl Tryd.underlying111 Tryd.info5 rfl (hO.alloc _) _ [92, s[j]] 2 _ rfl rfl (bv_cells_two _ 92 s[j] _) (by omega) (hB.alloc hsz _) (by simp; omega) ?_; intro v2 w2 hO2 hB2 hs2)
        refine ⟨?_, by simp [intOf]; omega⟩
        exact ⟨j + 1, by omega, rfl, by rw [HT.out, HE.out]; rw [← HL.out] at hO2; simpa using hO2, hB2⟩
      have e1 : ((s[j].toNat : Int) == (q.toNat : Int)) = false := by
        rw [beq_eq_false_iff_ne]
        exact fun e => hc1 (UInt8.toNat_inj.1 (by omega))
      have e1b : (s[j].toNat == q.toNat) = false := by
        rw [beq_eq_false_iff_ne]
        exact fun e => hc1 (UInt8.toNat_inj.1 e)
      by_cases hc2 : s[j] = 92
      · have e2 : ((s[j].toNat : Int) == 92) = true := u8_eqb (d := 92) rfl hc2
        have HE := Lib.hid (show escB q s[j] = [92, s[j]] by unfold escB; rw [if_pos (.inr hc2)])
        clear hc1 hc2
        go_wp2_with (at_builtin; refine wpList_append_bytes rfl (.tmp 26) (.tmp 28) 111 rfl Tryd.underlying111 Tryd.info5 rfl (hO.alloc _) _ [92, s[j]] 2 _ rfl rfl (bv_cells_two _ 92 s[j] _) (by omega) (hB.alloc hsz _) (by simp; omega) ?_; intro v2 w2 hO2 hB2 hs2)
        refine ⟨?_, by simp [intOf]; omega⟩
        exact ⟨j + 1, by omega, rfl, by rw [HT.out, HE.out]; rw [← HL.out] at hO2; simpa using hO2, hB2⟩
      have e2 : ((s[j].toNat : Int) == 92) = false := u8_neb (d := 92) rfl hc2
      by_cases hp1 : 32 ≤ s[j].toNat
      · have g1 : decide ((32 : Int) ≤ (s[j].toNat : Int)) = true := decide_eq_true (by omega)
        by_cases hp2 : s[j].toNat ≤ 126
        · have g2 : decide ((s[j].toNat : Int) ≤ 126) = true := decide_eq_true (by omega)
          have HE := Lib.hid (show escB q s[j] = [s[j]] by unfold escB; rw [if_neg (by simp [hc1, hc2]), if_pos (by simp [plainB, hp1, hp2])])
          clear hc1 hc2 hp1 hp2
          go_wp2_with (at_builtin; refine wpList_append_bytes rfl (.tmp 36) (.tmp 38) 111 rfl Tryd.underlying111 Tryd.info5 rfl (hO.alloc _) _ [s[j]] 1 _ rfl rfl (bv_cells_one _ s[j] _) (by omega) (hB.alloc hsz _) (by simp; omega) ?_; intro v2 w2 hO2 hB2 hs2)
          refine ⟨?_, by simp [intOf]; omega⟩
          exact ⟨j + 1, by omega, rfl, by rw [HT.out, HE.out]; rw [← HL.out] at hO2; simpa using hO2, hB2⟩
        · have g2 : decide ((s[j].toNat : Int) ≤ 126) = false := decide_eq_false (by omega)
          have HE := Lib.hid (show escB q s[j] = 92 :: 120 :: hex2 s[j] by unfold escB; rw [if_neg (by simp [hc1, hc2]), if_neg (by simp [plainB, hp2])])
          clear hc1 hc2 hp1 hp2
          have hlt2 := s[j].toNat_lt
          have e3 := hi_wrap s[j]
          have e4 := lo_wrap s[j]
          have T1 := Lib.hid (show ((s[j].toNat : Int) / 16).toNat = s[j].toNat / 16 by omega)
          have T2 := Lib.hid (show ((s[j].toNat : Int) % 16).toNat = s[j].toNat % 16 by omega)
          go_wp2_with fail
          refine (rdigit_any _ _ (by omega) (by omega)).mono ?_
          rintro e w9 ⟨rfl, rfl⟩
          go_wp2_with fail
          refine (rdigit_any _ _ (by omega) (by omega)).mono ?_
          rintro e w8 ⟨rfl, rfl⟩
          rw [T1.out, T2.out]
          go_wp2_with (at_builtin; refine wpList_append_bytes rfl (.tmp 40) (.tmp 49) 111 rfl Tryd.underlying111 Tryd.info5 rfl (hO.alloc _) _ [92, 120, hexC (s[j].toNat / 16), hexC (s[j].toNat % 16)] 4 _ rfl rfl (bv_cells_four _ 92 120 _ _ _) (by omega) (hB.alloc hsz _) (by simp; omega) ?_; intro v2 w2 hO2 hB2 hs2)
          refine ⟨?_, by simp [intOf]; omega⟩
          exact ⟨j + 1, by omega, rfl, by rw [HT.out, HE.out]; rw [← HL.out] at hO2; simpa [hex2] using hO2, hB2⟩
      · have g1 : decide ((32 : Int) ≤ (s[j].toNat : Int)) = false := decide_eq_false (by omega)
        have HE := Lib.hid (show escB q s[j] = 92 :: 120 :: hex2 s[j] by unfold escB; rw [if_neg (by simp [hc1, hc2]), if_neg (by simp [plainB, hp1])])
        clear hc1 hc2 hp1
        have hlt2 := s[j].toNat_lt
        have e3 := hi_wrap s[j]
        have e4 := lo_wrap s[j]
        have T1 := Lib.hid (show ((s[j].toNat : Int) / 16).toNat = s[j].toNat / 16 by omega)
        have T2 := Lib.hid (show ((s[j].toNat : Int) % 16).toNat = s[j].toNat % 16 by omega)
        go_wp2_with fail
        refine (rdigit_any _ _ (by omega) (by omega)).mono ?_
        rintro e w9 ⟨rfl, rfl⟩
        go_wp2_with fail
        refine (rdigit_any _ _ (by omega) (by omega)).mono ?_
        rintro e w8 ⟨rfl, rfl⟩
        rw [T1.out, T2.out]
        go_wp2_with (at_builtin; refine wpList_append_bytes rfl (.tmp 40) (.tmp 49) 111 rfl Tryd.underlying111 Tryd.info5 rfl (hO.alloc _) _ [92, 120, hexC (s[j].toNat / 16), hexC (s[j].toNat % 16)] 4 _ rfl rfl (bv_cells_four _ 92 120 _ _ _) (by omega) (hB.alloc hsz _) (by simp; omega) ?_; intro v2 w2 hO2 hB2 hs2)
        refine ⟨?_, by simp [intOf]; omega⟩
        exact ⟨j + 1, by omega, rfl, by rw [HT.out, HE.out]; rw [← HL.out] at hO2; simpa [hex2] using hO2, hB2⟩
    · have q3 : decide (j < s.size) = false := by simpa using hlt
      have e : s.toList.take j = s.toList := List.take_of_length_le (by rw [size_of]; omega)
      rw [e] at HL
      clear hL
      go_wp2_with (at_builtin; refine wpList_append_bytes rfl (.tmp 51) (.tmp 53) 111 rfl Tryd.underlying111 Tryd.info5 rfl (hO.alloc _) _ [q] 1 _ rfl rfl (bv_cells_one _ q _) (by omega) (hB.alloc hsz _) (by simp; omega) ?_; intro v2 w2 hO2 hB2 hs2)
      go_ret
      exact ⟨_, rfl, by rw [← HL.out] at hO2; simpa using hO2, hB2⟩
end Go.Proofs.YtcgphlilijeifaaDoor.L
end
section
/-
  The document's Check, magnitudes, Less, Compare: their contracts.
-/
namespace Go.Proofs.YtcgphlilijeifaaDoor
open Go.RowKit

theorem rcheck_any (b : Bool) (s : ByteArray) (w : World) (_hs : s.size ≤ 9223372036854775807) (r : Int) (hr : chk b s.toList = r) :
    Calls Tryd.prog 64 #[.agg #[.bool b, .string s]] w fun e w' => e = .returned (.int .i64 r) ∧ Below w.heap.size w w' := by
  by_cases h1 : 255 < s.size
  · rw [chk_long (by rw [size_of]; exact h1)] at hr
    subst hr
    go_enter Tryd.func64, Tryd.ntmps64
    go_wp2
    go_ret
    exact ⟨rfl, (Below.refl _ _).alloc (Nat.le_refl _) _⟩
  · by_cases h2 : 0 < s.size
    · have hne : s.toList ≠ [] := by intro e; have := size_of s; rw [e] at this; simp at this; omega
      have q1 : ((s.size : Int) == 0) = false := beq_eq_false_iff_ne.2 (by omega)
      have q2 : decide ((0 : Int) < (s.size : Int)) = true := decide_eq_true (by omega)
      by_cases h3 : s[0] = 0
      · rw [chk_zero (by rw [size_of]; exact h1) (by rw [head_of s h2, h3])] at hr
        have h4 := u8_eqb (n := 0) rfl h3
        subst hr
        clear h3 hne
        go_enter Tryd.func64, Tryd.ntmps64
        go_wp2
        go_ret
        exact ⟨rfl, (Below.refl _ _).alloc (Nat.le_refl _) _⟩
      · rw [chk_ok (by rw [size_of]; exact h1) hne (by rw [head_of s h2]; simpa using h3)] at hr
        have h4 := u8_neb (n := 0) rfl h3
        subst hr
        clear h3 hne
        go_enter Tryd.func64, Tryd.ntmps64
        go_wp2
        go_ret
        exact ⟨rfl, (Below.refl _ _).alloc (Nat.le_refl _) _⟩
    · have he := nil_of_size h2
      have q1 : ((s.size : Int) == 0) = true := beq_iff_eq.2 (by omega)
      have q2 : decide ((0 : Int) < (s.size : Int)) = false := decide_eq_false (by omega)
      cases b
      · rw [chk_nil he] at hr
        subst hr
        clear he
        go_enter Tryd.func64, Tryd.ntmps64
        go_wp2
        go_ret
        exact ⟨rfl, (Below.refl _ _).alloc (Nat.le_refl _) _⟩
      · rw [chk_nil_below he] at hr
        subst hr
        clear he
        go_enter Tryd.func64, Tryd.ntmps64
        go_wp2
        go_ret
        exact ⟨rfl, (Below.refl _ _).alloc (Nat.le_refl _) _⟩

theorem Below.drewN_ {B : Nat} {a w : World} (h : Below B a w) (n : Nat) : Below B a (w.drewN n) := ⟨h.os, h.tape, h.output, h.size, h.block⟩
theorem cmp_drop (a b : ByteArray) (k : Nat) (ha : k < a.size) (hb : k < b.size) :
    cmp (a.data.toList.drop k) (b.data.toList.drop k) = if a[k].toNat < b[k].toNat then -1 else if b[k].toNat < a[k].toNat then 1 else cmp (a.data.toList.drop (k + 1)) (b.data.toList.drop (k + 1)) := by
  rw [drop_cons a k ha, drop_cons b k hb]
  simp only [cmp, UInt8.lt_iff_toNat_lt]

theorem magnitudes_any (a b : ByteArray) (w : World) (ha : a.size ≤ 9223372036854775807) (_hb : b.size ≤ 9223372036854775807) (r : Int) (hr : mcmp a.toList b.toList = r) :
    Calls Tryd.prog 120 #[.string a, .string b] w fun e w' => e = .returned (.int .i64 r) ∧ Below w.heap.size w w' := by
  unfold mcmp at hr
  rw [size_of, size_of] at hr
  by_cases h1 : a.size < b.size
  · rw [if_pos h1] at hr
    subst hr
    have q1 : decide ((a.size : Int) < (b.size : Int)) = true := by simpa using h1
    go_enter Tryd.func120, Tryd.ntmps120
    go_wp2
    go_ret
    exact ⟨rfl, Below.refl _ _⟩
  · by_cases h2 : b.size < a.size
    · rw [if_neg h1, if_pos h2] at hr
      subst hr
      have q1 : decide ((a.size : Int) < (b.size : Int)) = false := by simp; omega
      have q2 : decide ((b.size : Int) < (a.size : Int)) = true := by simpa using h2
      go_enter Tryd.func120, Tryd.ntmps120
      go_wp2
      go_ret
      exact ⟨rfl, Below.refl _ _⟩
    · rw [if_neg h1, if_neg h2, Lib.toList_data, Lib.toList_data] at hr
      have HR := Lib.hid hr
      have q1 : decide ((a.size : Int) < (b.size : Int)) = false := by simp; omega
      have q2 : decide ((b.size : Int) < (a.size : Int)) = false := by simp; omega
      clear hr
      go_enter Tryd.func120, Tryd.ntmps120
      go_wp2_with fail
      go_loopw [5] (fun i wr => ∃ k : Nat, k ≤ a.size ∧ i = .int .i64 k ∧ RowKit.Hid (cmp (a.data.toList.drop k) (b.data.toList.drop k) = r) ∧ Below w.heap.size w wr) (fun i _ => a.size - (intOf i).toNat)
      case atStart => exact ⟨0, Nat.zero_le _, rfl, HR, Below.refl _ _⟩
      case round =>
        clear HR
        obtain ⟨k, hk, rfl, HC, hB⟩ := hrel
        by_cases hlt : k < a.size
        · have hltb : k < b.size := by omega
          have hc := HC.out
          rw [cmp_drop a b k hlt hltb] at hc
          clear HC
          by_cases g1 : a[k].toNat < b[k].toNat
          · rw [if_pos g1] at hc
            subst hc
            have q3 : decide ((a[k].toNat : Int) < (b[k].toNat : Int)) = true := by simpa using g1
            go_wp2_with fail
            go_quiet (fail)
            go_wp2_with fail
            go_ret
            exact ⟨rfl, by first | exact Below.drewN_ hB _ | exact Below.drewN_ (Below.drewN_ hB _) _⟩
          · rw [if_neg g1] at hc
            by_cases g2 : b[k].toNat < a[k].toNat
            · rw [if_pos g2] at hc
              subst hc
              go_wp2_with fail
              go_quiet (fail)
              go_wp2_with fail
              go_quiet (fail)
              go_wp2_with fail
              go_ret
              exact ⟨rfl, by first | exact Below.drewN_ hB _ | exact Below.drewN_ (Below.drewN_ hB _) _⟩
            · rw [if_neg g2] at hc
              have HC := Lib.hid hc
              clear hc
              go_wp2_with fail
              go_quiet (fail)
              go_wp2_with fail
              go_quiet (fail)
              go_wp2_with fail
              go_roundw
              case rel => exact ⟨k + 1, by omega, by go_num, HC, by first | exact Below.drewN_ hB _ | exact Below.drewN_ (Below.drewN_ hB _) _⟩
              case measure => simp [intOf]; omega
        · have hc := HC.out
          rw [drop_end a k hlt, drop_end b k (by omega)] at hc
          subst hc
          clear HC
          go_wp2_with fail
          go_ret
          exact ⟨rfl, hB⟩

theorem less_any (x : Bool) (a : ByteArray) (y : Bool) (b : ByteArray) (w : World) (ha : a.size ≤ 9223372036854775807) (hb : b.size ≤ 9223372036854775807) (r : Int) (hr : ncmp x a.toList y b.toList = r) :
    Calls Tryd.prog 100 #[.agg #[.bool x, .string a], .agg #[.bool y, .string b]] w fun e w' => e = .returned (.int .i64 r) ∧ Below w.heap.size w w' := by
  have hnot : ∀ (x : Bool) (w : World), (Op.unary .not (.bool x)).run Tryd.prog w = .ok (.bool (!x)) w := fun _ _ => rfl
  have hbel : Below w.heap.size w ((w.alloc (.cells #[.bool x, .string a] 24)).alloc (.cells #[.bool y, .string b] 24)) := ((Below.refl _ _).alloc (Nat.le_refl _) _).alloc (by simp) _
  cases x <;> cases y <;> simp only [ncmp, if_true, if_false, Bool.false_eq_true] at hr
  · go_enter Tryd.func100, Tryd.ntmps100
    go_wp2_with fail
    refine (magnitudes_any a b _ ha hb r hr).mono ?_
    rintro e w1 ⟨rfl, hb1⟩
    obtain ⟨c0, c1, c2, c3, hz, hbw⟩ := num2_cells hb1
    go_wp2_with fail
    go_ret
    exact ⟨rfl, hbw⟩
  · subst hr
    go_enter Tryd.func100, Tryd.ntmps100
    go_wp2_with fail
    go_ret
    exact ⟨rfl, hbel⟩
  · subst hr
    go_enter Tryd.func100, Tryd.ntmps100
    go_wp2_with fail
    go_ret
    exact ⟨rfl, hbel⟩
  · have h3 := mcmp_three a.toList b.toList
    obtain ⟨q, hq⟩ : ∃ q, mcmp a.toList b.toList = q := ⟨_, rfl⟩
    rw [mcmp_swap, hq] at hr
    rw [hq] at h3
    subst hr
    go_enter Tryd.func100, Tryd.ntmps100
    go_wp2_with fail
    refine (magnitudes_any a b _ ha hb q hq).mono ?_
    rintro e w1 ⟨rfl, hb1⟩
    obtain ⟨c0, c1, c2, c3, hz, hbw⟩ := num2_cells hb1
    have b1 : -1 ≤ q := by omega
    have b2 : q ≤ 1 := by omega
    clear h3 hq
    go_wp2_with fail
    go_ret
    exact ⟨rfl, hbw⟩

theorem rcompare_bad1 (x : Bool) (a : ByteArray) (y : Bool) (b : ByteArray) (w : World) (ha : a.size ≤ 9223372036854775807) (r : Int) (hr : chk x a.toList = r) (h0 : r ≠ 0) :
    Calls Tryd.prog 67 #[.agg #[.bool x, .string a], .agg #[.bool y, .string b]] w fun e w' => e = .returned (.tuple #[.int .i64 0, .int .i64 r]) ∧ Below w.heap.size w w' := by
  have q1 : (r != 0) = true := by simpa using h0
  have HR := Lib.hid hr
  clear hr h0
  go_enter Tryd.func67, Tryd.ntmps67
  go_wp2_with fail
  refine (rcheck_any x a _ ha r HR.out).mono ?_
  rintro e w1 ⟨rfl, hb1⟩
  obtain ⟨c0, c1, c2, c3, hz, hbw⟩ := num2_cells hb1
  go_wp2_with fail
  go_ret2
  exact ⟨rfl, hbw⟩
theorem rcompare_bad2 (x : Bool) (a : ByteArray) (y : Bool) (b : ByteArray) (w : World) (ha : a.size ≤ 9223372036854775807) (hb : b.size ≤ 9223372036854775807) (h1 : chk x a.toList = 0) (r : Int) (hr : chk y b.toList = r) (h0 : r ≠ 0) :
    Calls Tryd.prog 67 #[.agg #[.bool x, .string a], .agg #[.bool y, .string b]] w fun e w' => e = .returned (.tuple #[.int .i64 0, .int .i64 r]) ∧ Below w.heap.size w w' := by
  have q1 : (r != 0) = true := by simpa using h0
  have HR := Lib.hid hr
  have H1 := Lib.hid h1
  clear hr h0 h1
  go_enter Tryd.func67, Tryd.ntmps67
  go_wp2_with fail
  refine (rcheck_any x a _ ha 0 H1.out).mono ?_
  rintro e w1 ⟨rfl, hb1⟩
  obtain ⟨c0, c1, c2, c3, hz, hbw⟩ := num2_cells hb1
  go_wp2_with fail
  refine (rcheck_any y b _ hb r HR.out).mono ?_
  rintro e w2 ⟨rfl, hb2⟩
  go_wp2_with fail
  go_ret2
  exact ⟨rfl, two hbw hb2⟩
theorem rcompare_ok (x : Bool) (a : ByteArray) (y : Bool) (b : ByteArray) (w : World) (ha : a.size ≤ 9223372036854775807) (hb : b.size ≤ 9223372036854775807) (h1 : chk x a.toList = 0) (h2 : chk y b.toList = 0) (r : Int) (hr : ncmp x a.toList y b.toList = r) :
    Calls Tryd.prog 67 #[.agg #[.bool x, .string a], .agg #[.bool y, .string b]] w fun e w' => e = .returned (.tuple #[.int .i64 r, .int .i64 0]) ∧ Below w.heap.size w w' := by
  have HR := Lib.hid hr
  have H1 := Lib.hid h1
  have H2 := Lib.hid h2
  clear hr h1 h2
  go_enter Tryd.func67, Tryd.ntmps67
  go_wp2_with fail
  refine (rcheck_any x a _ ha 0 H1.out).mono ?_
  rintro e w1 ⟨rfl, hb1⟩
  obtain ⟨c0, c1, c2, c3, hz, hbw⟩ := num2_cells hb1
  go_wp2_with fail
  refine (rcheck_any y b _ hb 0 H2.out).mono ?_
  rintro e w2 ⟨rfl, hb2⟩
  have c0 := keep hb2 c0
  have c1 := keep hb2 c1
  have c2 := keep hb2 c2
  have c3 := keep hb2 c3
  go_wp2_with fail
  refine (less_any x a y b _ ha hb r HR.out).mono ?_
  rintro e w3 ⟨rfl, hb3⟩
  go_wp2_with fail
  go_ret2
  exact ⟨rfl, two (two hbw hb2) hb3⟩
end Go.Proofs.YtcgphlilijeifaaDoor
end
section
/-
  The document's digits: its contract.
-/
namespace Go.Proofs.YtcgphlilijeifaaDoor
open Go.RowKit

/-- Digits, one at least, the first one no nought but alone. -/
def digitsB (l : List UInt8) : Bool := !l.isEmpty && !(l.head? == some 48 && decide (1 < l.length)) && l.all isDigit
theorem digitsB_nil : digitsB [] = false := rfl
theorem digitsB_zero {l : List UInt8} (h : l.head? = some 48) (h1 : 1 < l.length) : digitsB l = false := by simp [digitsB, h, h1]
theorem digitsB_all {l : List UInt8} (h : l ≠ []) (h1 : l.head? = some 48 → l.length ≤ 1) : digitsB l = l.all isDigit := by
  have e1 : l.isEmpty = false := by cases l with
    | nil => exact absurd rfl h
    | cons _ _ => rfl
  have e2 : (l.head? == some 48 && decide (1 < l.length)) = false := by
    by_cases e : l.head? = some 48
    · have := h1 e
      simp; intro _; omega
    · simp [e]
  rw [digitsB, e1, e2]; simp
theorem head_drop (s : ByteArray) (k : Nat) (h : k < s.size) : (s.data.toList.drop k).head? = some s[k] := by rw [drop_cons s k h]; rfl
theorem all_drop (s : ByteArray) (k : Nat) (h : k < s.size) : (s.data.toList.drop k).all isDigit = (isDigit s[k] && (s.data.toList.drop (k + 1)).all isDigit) := by rw [drop_cons s k h]; rfl
theorem drop_len (s : ByteArray) (k : Nat) : (s.data.toList.drop k).length = s.size - k := by rw [List.length_drop, Array.length_toList]; rfl

set_option maxHeartbeats 1000000 in
theorem digits_any (s : ByteArray) (f : Nat) (w : World) (hs : s.size ≤ 9223372036854775807) (hf : f ≤ s.size) (r : Bool) (hr : digitsB (s.data.toList.drop f) = r) :
    Calls Tryd.prog 101 #[.string s, .int .i64 f] w fun e w' => e = .returned (.bool r) ∧ ∃ n, w' = w.drewN n := by
  by_cases h0 : f = s.size
  · rw [drop_end s f (by omega), digitsB_nil] at hr
    subst hr
    have q0 : ((s.size : Int) == (f : Int)) = true := by simp; omega
    clear h0
    go_enter Tryd.func101, Tryd.ntmps101
    go_wp2_with fail
    go_ret
    exact ⟨rfl, 0, rfl⟩
  · have hfl : f < s.size := by omega
    have q0 : ((s.size : Int) == (f : Int)) = false := by simp; omega
    have hcf := s[f].toNat_lt
    by_cases h1 : s[f] = 48 ∧ f + 1 < s.size
    · obtain ⟨h1, h2⟩ := h1
      rw [digitsB_zero (by rw [head_drop s f hfl, h1]) (by rw [drop_len]; omega)] at hr
      subst hr
      have q1 := u8_eqb (n := 48) rfl h1
      have q2 : decide ((f : Int) + 1 < (s.size : Int)) = true := by simp; omega
      clear h1 h0
      go_enter Tryd.func101, Tryd.ntmps101
      go_wp2_with fail
      go_ret
      exact ⟨rfl, 0, rfl⟩
    · rw [digitsB_all (by intro e; have := drop_len s f; rw [e] at this; simp at this; omega) (by rw [head_drop s f hfl, drop_len]; intro e; have e2 := Option.some.inj e; have : ¬ f + 1 < s.size := fun h => h1 ⟨e2, h⟩; omega)] at hr
      have HR := Lib.hid hr
      clear hr h0
      rcases (show ((s[f].toNat : Int) == 48) = false ∨ (((s[f].toNat : Int) == 48) = true ∧ decide ((f : Int) + 1 < (s.size : Int)) = false) by
        by_cases e : s[f] = 48
        · have : ¬ f + 1 < s.size := fun h => h1 ⟨e, h⟩; exact .inr ⟨u8_eqb (n := 48) rfl e, by simp; omega⟩
        · exact .inl (u8_neb (n := 48) rfl e)) with q1 | ⟨q1, q2⟩
      all_goals
        clear h1
        go_enter Tryd.func101, Tryd.ntmps101
        go_wp2_with fail
        go_loopw [5] (fun i wr => ∃ k : Nat, k ≤ s.size ∧ i = .int .i64 k ∧ RowKit.Hid ((s.data.toList.drop k).all isDigit = r) ∧ ∃ n, wr = w.drewN n) (fun i _ => s.size - (intOf i).toNat)
        case atStart => exact ⟨f, by omega, rfl, HR, 0, rfl⟩
        case round =>
          obtain ⟨k, hk, rfl, HC, n, rfl⟩ := hrel
          by_cases hlt : k < s.size
          · have hc := HC.out
            rw [all_drop s k hlt] at hc
            have hbd := s[k].toNat_lt
            clear HC
            by_cases g1 : s[k].toNat < 48
            · have : isDigit s[k] = false := by simp [isDigit]; omega
              rw [this] at hc
              subst hc
              have p1 : decide ((s[k].toNat : Int) < 48) = true := by simp; omega
              clear this
              go_wp2_with fail
              go_ret
              exact ⟨by rw [Bool.false_and]; rfl, n, rfl⟩
            · have p1 : decide ((s[k].toNat : Int) < 48) = false := by simp; omega
              by_cases g2 : 57 < s[k].toNat
              · have p2 : decide (57 < (s[k].toNat : Int)) = true := by simp; omega
                have : isDigit s[k] = false := by simp [isDigit]; omega
                rw [this] at hc
                subst hc
                clear this
                go_wp2_with fail
                go_ret
                exact ⟨by rw [Bool.false_and]; rfl, n, rfl⟩
              · have p2 : decide (57 < (s[k].toNat : Int)) = false := by simp; omega
                have : isDigit s[k] = true := by simp [isDigit]; omega
                rw [this, Bool.true_and] at hc
                have HC := Lib.hid hc
                clear this hc
                go_wp2_with fail
                go_roundw
                case rel => exact ⟨k + 1, by omega, by go_num, HC, n, rfl⟩
                case measure => simp [intOf]; omega
          · have hc := HC.out
            rw [drop_end s k hlt] at hc
            subst hc
            go_wp2_with fail
            go_ret
            exact ⟨rfl, n, rfl⟩
end Go.Proofs.YtcgphlilijeifaaDoor
end
