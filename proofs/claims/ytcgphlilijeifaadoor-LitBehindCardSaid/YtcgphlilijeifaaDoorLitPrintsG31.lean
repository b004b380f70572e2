import Derived.Lib.AppendStr
import Derived.Deep.RegionHeld3
import Derived.Test.YtcgphlilijeifaaDoorLitPrintsG27
import Derived.Test.YtcgphlilijeifaaDoorLitPrintsG11
import Derived.Test.YtcgphlilijeifaaDoorLitPrintsG30
import Derived.Test.YtcgphlilijeifaaDoorLitPrintsG28
import Derived.Test.YtcgphlilijeifaaDoorLitPrintsG29
import Derived.Test.YtcgphlilijeifaaDoorLitPrintsG25
section
/-
  lit.told: its contract.
-/
namespace Go.Proofs.YtcgphlilijeifaaDoor.L
open Go.RowKit
open V (Pt)

def tooLong : Ending := .panicked [{ v := .iface 128 (.agg #[]), recovered := false }]
def ToldPost (B : Nat) (l : List UInt8) (p : Pt) (w : World) (e : Ending) (w' : World) : Prop :=
  Below B w w' ∧ B ≤ w'.heap.size ∧ (((l ++ textP p).length ≤ 65536 ∧ ∃ b', e = .returned b' ∧ OwnB w' B b' (l ++ textP p)) ∨ (65536 < (l ++ textP p).length ∧ e = tooLong))
theorem told_yes {B : Nat} {l : List UInt8} {p : Pt} {w w' : World} {v : Value} (h : (l ++ textP p).length ≤ 65536) (hO : OwnB w' B v (l ++ textP p)) (hB : Below B w w') (hs : B ≤ w'.heap.size) : ToldPost B l p w (.returned v) w' := ⟨hB, hs, .inl ⟨h, v, rfl, hO⟩⟩
theorem told_no {B : Nat} {l : List UInt8} {p : Pt} {w w' : World} (h : 65536 < (l ++ textP p).length) (hB : Below B w w') (hs : B ≤ w'.heap.size) : ToldPost B l p w tooLong w' := ⟨hB, hs, .inr ⟨h, rfl⟩⟩
theorem str_bv (s : ByteArray) : Lib.strCells s = bv s.toList := by
  unfold Lib.strCells bv
  rw [Lib.toList_data]
theorem ownb_form {w : World} {base : Nat} {v : Value} {l : List UInt8} (h : OwnB w base v l) : ∃ (n : Nat) (a : Option Addr) (cap : Nat), v = .slice a n cap ∧ Hid (n = l.length) := by
  unfold OwnB at h
  rcases h.2 with ⟨rfl, hn⟩ | ⟨g, cap, cur, rfl, _⟩
  · exact ⟨0, none, 0, rfl, Lib.hid hn.symm⟩
  · exact ⟨_, _, cap, rfl, Lib.hid rfl⟩
/-- A string appended to bytes of the call's own. -/
theorem wpList_append_str {P : Program} {ops : Array Oper} {rest : List Oper} {o : Oper} {a : Act} {Q : Exit → Act → World → Prop} {W w : World} (hgd : o.guard = none) (s x : Operand) (t u : TypeId)
    (ho : o.op = .call { callee := .builtin .append, args := #[s, x], argTypes := #[t, u] })
    (ht : P.underlying t = some (.slice 5)) (hu : P.underlying u = some .string) (hinfo : (P.info? 5).map (fun i => (i.zero, i.size, i.bytes)) = some (some (.int .u8 0), 1, 1))
    {base : Nat} {v : Value} {l : List UInt8} (hs : a.eval s = v) (hown : OwnB w base v l)
    (m : ByteArray) (hx : a.eval x = .string m)
    (hlen : l.length + m.size ≤ 140737488355328) (hB : Below base W w) (hbase : base ≤ w.heap.size)
    (h : ∀ v' w', OwnB w' base v' (l ++ m.toList) → Below base W w' → base ≤ w'.heap.size → wpList P ops Q rest (a.put o.dst v') w') : wpList P ops Q (o :: rest) a w := by
  obtain ⟨i0, hi, hz0, hz1, hz2⟩ := info_parts hinfo
  refine Lib.wpList_append_own_string w hgd s x t u ho base 5 i0 ht hu hi hz0 hz1 hz2 v l.length (bv l) hs hown m hx (by unfold maxLen; omega) (by omega) hbase ?_
  intro v' w' ho' hg _
  refine h v' w' ?_ (hB.grown hg hbase fun k hk => (World.ownsRow.lt hown k hk).1) (Nat.le_trans hbase hg.size)
  unfold OwnB
  rw [str_bv, bv_append] at ho'
  rw [List.length_append, size_of]
  exact ho'
theorem wpList_len {P : Program} {ops : Array Oper} {rest : List Oper} {o : Oper} {a : Act} {Q : Exit → Act → World → Prop} {w : World} (hgd : o.guard = none) (x : Operand) (t : TypeId)
    (ho : o.op = .call { callee := .builtin .len, args := #[x], argTypes := #[t] }) (ht : P.underlying t = some (.slice (P.elem t))) {ad : Option Addr} {n c : Nat} (hx : a.eval x = .slice ad n c)
    (h : wpList P ops Q rest (a.put o.dst (.int .i64 n)) w) : wpList P ops Q (o :: rest) a w := by
  refine wpList_plain hgd fun K hK => ?_
  have hr := run_len_slice (P := P) w t o.type ad n c ht
  unfold Oper.wp execOp
  simp only [ho, resolve, invoke, builtin, Sem.run_bind, Sem.run_pure, Result.andThen_ok, List.map_toArray, List.map_cons, List.map_nil, hx, hr]
  exact hK _ _ h
theorem slice111 : Tryd.prog.underlying 111 = some (.slice (Tryd.prog.elem 111)) := by kernel_rfl
def nullS : ByteArray := ⟨#[110, 117, 108, 108]⟩
theorem nullS_text : nullS.toList = nullT := by rw [Lib.toList_data]; rfl

theorem last_le {n m : Nat} (h : m ≤ 65536) (hn : n = m) : decide ((65536 : Int) < (n : Int)) = false := by simp only [decide_eq_false_iff_not]; omega
theorem last_gt {n m : Nat} (h : ¬ m ≤ 65536) (hn : n = m) : decide ((65536 : Int) < (n : Int)) = true := by simp only [decide_eq_true_eq]; omega

set_option maxRecDepth 100000 in
set_option maxHeartbeats 1500000 in
theorem told_null (p : Pt) (h0 : p.kind = 0) (B : Nat) (b : Value) (l : List UInt8) (w : World) (hsz : B ≤ w.heap.size) (hO : OwnB w B b l) (hl : l.length ≤ 67000) :
    Calls Tryd.prog 76 #[b, .nilIface] w (ToldPost B l p w) := by
  have HT := Lib.hid (show textP p = nullT by rw [textP_eq, if_pos h0])
  have hB := Below.refl B w
  clear h0
  go_enter Tryd.func76, Tryd.ntmps76
  by_cases hq : (l ++ nullS.toList).length ≤ 65536
  · go_wp2_with (at_builtin; first
      | (refine wpList_append_str rfl (.tmp 22) (.const (.string nullS)) 111 9 rfl Tryd.underlying111 (by kernel_rfl) Tryd.info5 rfl hO nullS rfl (by show _ + 4 ≤ _; omega) hB hsz ?_; intro v2 w2 hO2 hB2 hs2; obtain ⟨n, a2, cap2, rfl, hn⟩ := ownb_form hO2; have q3 := last_le hq hn.out)
      | refine wpList_len rfl (.tmp 70) 111 rfl slice111 rfl ?_)
    go_ret
    rw [nullS_text, ← HT.out] at hO2 hq
    exact told_yes hq hO2 hB2 hs2
  · go_wp2_with (at_builtin; first
      | (refine wpList_append_str rfl (.tmp 22) (.const (.string nullS)) 111 9 rfl Tryd.underlying111 (by kernel_rfl) Tryd.info5 rfl hO nullS rfl (by show _ + 4 ≤ _; omega) hB hsz ?_; intro v2 w2 hO2 hB2 hs2; obtain ⟨n, a2, cap2, rfl, hn⟩ := ownb_form hO2; have q3 := last_gt hq hn.out)
      | refine wpList_len rfl (.tmp 70) 111 rfl slice111 rfl ?_)
    rw [nullS_text, ← HT.out] at hq
    exact ⟨rfl, told_no (Nat.lt_of_not_le hq) hB2 hs2⟩
end Go.Proofs.YtcgphlilijeifaaDoor.L
end
section
/-
  lit.told: numbers, bytes, truths (printed by wip/tools/mk-litc.py).
-/
namespace Go.Proofs.YtcgphlilijeifaaDoor.L
open Go.RowKit
open V (Pt)

set_option maxRecDepth 100000 in
set_option maxHeartbeats 1500000 in
theorem told_num (p : Pt) (h2 : p.kind = 2) (hc : chk p.neg p.mag.toList = 0) (B : Nat) (b : Value) (l : List UInt8) (w : World) (hsz : B ≤ w.heap.size) (hO : OwnB w B b l) (hl : l.length ≤ 67000) :
    Calls Tryd.prog 76 #[b, .iface 142 (.agg #[.bool p.neg, .string p.mag])] w (ToldPost B l p w) := by
  have HT := Lib.hid (show textP p = digitsV p.neg p.mag.toList by rw [textP_eq, h2]; rfl)
  have hml : p.mag.size ≤ 255 := by
    have := (chk_zero_iff.1 hc).1
    rw [size_of] at this
    exact this
  have HC := Lib.hid hc
  have hB := Below.refl B w
  have f1 := V.has_Number_whole
  have m1 : ∀ w : World, (method 338 142 (.agg #[.bool p.neg, .string p.mag]) "Num").run Tryd.prog w = .ok (159, .agg #[.bool p.neg, .string p.mag]) w := fun _ => by kernel_rfl
  clear h2 hc
  go_enter Tryd.func76, Tryd.ntmps76
  go_wp2_with fail
  refine (V.num_whole _ _ _).mono ?_
  rintro e w1 ⟨rfl, hb1⟩
  go_wp2_with fail
  refine (print_any p.neg p.mag w1 (by omega) 0 HC.out).mono ?_
  rintro e wk ⟨q, rfl, hqe, hbk⟩
  have HE := Lib.hid (show q.toList = textP p by have := hqe.out; rw [if_pos rfl] at this; rw [this, HT.out])
  have hdl := digitsV_len p.neg p.mag.toList
  rw [← HT.out, ← HE.out, size_of, size_of] at hdl
  replace hB := (hB.trans (hb1.mono hsz)).trans (hbk.mono (Nat.le_trans hsz hb1.size))
  replace hO := (hO.below hb1).below hbk
  replace hsz := Nat.le_trans (Nat.le_trans hsz hb1.size) hbk.size
  clear hb1 hbk hqe
  by_cases hq : (l ++ q.toList).length ≤ 65536
  · go_wp2_with (at_builtin; first
      | (refine wpList_append_str rfl (.tmp 33) (.tmp 34) 111 9 rfl Tryd.underlying111 (by kernel_rfl) Tryd.info5 rfl hO q rfl (by omega) hB hsz ?_; intro v2 w2 hO2 hB2 hs2; obtain ⟨n, a2, cap2, rfl, hn⟩ := ownb_form hO2; have q3 := last_le hq hn.out)
      | refine wpList_len rfl (.tmp 70) 111 rfl slice111 rfl ?_)
    go_ret
    rw [HE.out] at hO2 hq
    exact told_yes hq hO2 hB2 hs2
  · go_wp2_with (at_builtin; first
      | (refine wpList_append_str rfl (.tmp 33) (.tmp 34) 111 9 rfl Tryd.underlying111 (by kernel_rfl) Tryd.info5 rfl hO q rfl (by omega) hB hsz ?_; intro v2 w2 hO2 hB2 hs2; obtain ⟨n, a2, cap2, rfl, hn⟩ := ownb_form hO2; have q3 := last_gt hq hn.out)
      | refine wpList_len rfl (.tmp 70) 111 rfl slice111 rfl ?_)
    rw [HE.out] at hq
    exact ⟨rfl, told_no (Nat.lt_of_not_le hq) hB2 hs2⟩

theorem lbytes_any (k : Nat) (hk : k = 3 ∨ k = 4 ∨ k = 5 ∨ k = 6) (v : Value) (s : ByteArray) (l : List UInt8) (w : World) (base : Nat) (hb : base ≤ w.heap.size) (hO : OwnB w base v l) (hl : l.length ≤ 70000) (hs : s.size ≤ 65536) :
    Calls Tryd.prog 104 #[v, .int .u8 (k : Nat), .string s] w fun e w' => ∃ v', e = .returned v' ∧ OwnB w' base v' (l ++ rawL k s.toList) ∧ Below base w w' ∧ base ≤ w'.heap.size := by
  rcases hk with rfl | rfl | rfl | rfl
  · exact lbytes_3 v s l w base hb hO hl hs
  · exact lbytes_4 v s l w base hb hO hl hs
  · exact lbytes_5 v s l w base hb hO hl hs
  · exact lbytes_6 v s l w base hb hO hl hs

set_option maxRecDepth 100000 in
set_option maxHeartbeats 1500000 in
theorem told_row (p : Pt) (hk : p.kind = 3 ∨ p.kind = 4 ∨ p.kind = 5 ∨ p.kind = 6) (hr : p.raw.size ≤ 65536) (B : Nat) (b : Value) (l : List UInt8) (w : World) (hsz : B ≤ w.heap.size) (hO : OwnB w B b l) (hl : l.length ≤ 67000) :
    Calls Tryd.prog 76 #[b, .iface 147 (.agg #[.int .u8 p.kind, .string p.raw])] w (ToldPost B l p w) := by
  have HT := Lib.hid (show rawL p.kind p.raw.toList = textP p by rw [textP_eq, if_neg (by omega), if_neg (by omega), if_neg (by omega), if_neg (by omega)])
  have HK := Lib.hid hk
  have hB := Below.refl B w
  have f1 := V.has_Number_row
  have f2 := V.has_Raw_row
  obtain ⟨k, hke⟩ : ∃ k, p.kind = k := ⟨_, rfl⟩
  rw [hke] at HT HK ⊢
  have m1 : ∀ w : World, (method 338 147 (.agg #[.int .u8 k, .string p.raw]) "Kind").run Tryd.prog w = .ok (166, .agg #[.int .u8 k, .string p.raw]) w := fun _ => by kernel_rfl
  have m2 : ∀ w : World, (method 338 147 (.agg #[.int .u8 k, .string p.raw]) "Bytes").run Tryd.prog w = .ok (165, .agg #[.int .u8 k, .string p.raw]) w := fun _ => by kernel_rfl
  clear hk hke
  go_enter Tryd.func76, Tryd.ntmps76
  go_wp2_with fail
  refine (V.kind_row _ _ _).mono ?_
  rintro e w1 ⟨rfl, hb1⟩
  go_wp2_with fail
  refine (V.bytes_row _ _ _).mono ?_
  rintro e wk ⟨rfl, hbk⟩
  replace hB := (hB.trans (hb1.mono hsz)).trans (hbk.mono (Nat.le_trans hsz hb1.size))
  replace hO := (hO.below hb1).below hbk
  replace hsz := Nat.le_trans (Nat.le_trans hsz hb1.size) hbk.size
  clear hb1 hbk
  go_wp2_with fail
  refine (lbytes_any k HK.out b p.raw l wk B hsz hO (by omega) hr).mono ?_
  rintro e w2 ⟨v2, rfl, hO2, hb2, hs2⟩
  have hB2 := hB.trans hb2
  rw [HT.out] at hO2
  obtain ⟨n, a2, cap2, rfl, hn⟩ := ownb_form hO2
  by_cases hq : (l ++ textP p).length ≤ 65536
  · have q3 := last_le hq hn.out
    go_wp2_with (at_builtin; refine wpList_len rfl (.tmp 70) 111 rfl slice111 rfl ?_)
    go_ret
    exact told_yes hq hO2 hB2 hs2
  · have q3 := last_gt hq hn.out
    go_wp2_with (at_builtin; refine wpList_len rfl (.tmp 70) 111 rfl slice111 rfl ?_)
    exact ⟨rfl, told_no (Nat.lt_of_not_le hq) hB2 hs2⟩

def yesS : ByteArray := ⟨#[121, 101, 115]⟩
def noS : ByteArray := ⟨#[110, 111]⟩
theorem yesS_text : yesS.toList = yesT := by rw [Lib.toList_data]; rfl
theorem noS_text : noS.toList = noT := by rw [Lib.toList_data]; rfl

set_option maxRecDepth 100000 in
set_option maxHeartbeats 1500000 in
theorem told_true (p : Pt) (h1 : p.kind = 1) (hy : p.yes = true) (B : Nat) (b : Value) (l : List UInt8) (w : World) (hsz : B ≤ w.heap.size) (hO : OwnB w B b l) (hl : l.length ≤ 67000) :
    Calls Tryd.prog 76 #[b, .iface 140 (.agg #[.bool true])] w (ToldPost B l p w) := by
  have HT := Lib.hid (show yesS.toList = textP p by rw [textP_eq, if_neg (by omega), if_pos h1, hy, yesS_text]; rfl)
  have hB := Below.refl B w
  have f1 := V.has_Number_truth
  have f2 := V.has_Raw_truth
  have f3 := V.has_List_truth
  have m1 : ∀ w : World, (method 338 140 (.agg #[.bool true]) "Part").run Tryd.prog w = .ok (157, .agg #[.bool true]) w := fun _ => by kernel_rfl
  have fd : ∀ w : World, (Instr.field 27 (.agg #[.int .u8 1, .bool true, .bool false, .string ⟨#[]⟩, .string ⟨#[]⟩, .slice none 0 0]) 1).run Tryd.prog w = .ok (.bool true) w := fun _ => by kernel_rfl
  clear h1 hy
  go_enter Tryd.func76, Tryd.ntmps76
  go_wp2_with fail
  refine (V.part_truth _ _).mono ?_
  rintro e w1 ⟨rfl, hb1⟩
  replace hB := hB.trans (hb1.mono hsz)
  replace hO := hO.below hb1
  replace hsz := Nat.le_trans hsz hb1.size
  clear hb1
  by_cases hq : (l ++ yesS.toList).length ≤ 65536
  · go_wp2_with (at_builtin; first
      | (refine wpList_append_str rfl (.tmp 18) (.tmp 19) 111 9 rfl Tryd.underlying111 (by kernel_rfl) Tryd.info5 rfl hO yesS rfl (by show _ + 3 ≤ _; omega) hB hsz ?_; intro v2 w2 hO2 hB2 hs2; obtain ⟨n, a2, cap2, rfl, hn⟩ := ownb_form hO2; have q3 := last_le hq hn.out)
      | refine wpList_len rfl (.tmp 70) 111 rfl slice111 rfl ?_)
    go_ret
    rw [HT.out] at hO2 hq
    exact told_yes hq hO2 hB2 hs2
  · go_wp2_with (at_builtin; first
      | (refine wpList_append_str rfl (.tmp 18) (.tmp 19) 111 9 rfl Tryd.underlying111 (by kernel_rfl) Tryd.info5 rfl hO yesS rfl (by show _ + 3 ≤ _; omega) hB hsz ?_; intro v2 w2 hO2 hB2 hs2; obtain ⟨n, a2, cap2, rfl, hn⟩ := ownb_form hO2; have q3 := last_gt hq hn.out)
      | refine wpList_len rfl (.tmp 70) 111 rfl slice111 rfl ?_)
    rw [HT.out] at hq
    exact ⟨rfl, told_no (Nat.lt_of_not_le hq) hB2 hs2⟩
set_option maxRecDepth 100000 in
set_option maxHeartbeats 1500000 in
theorem told_false (p : Pt) (h1 : p.kind = 1) (hy : p.yes = false) (B : Nat) (b : Value) (l : List UInt8) (w : World) (hsz : B ≤ w.heap.size) (hO : OwnB w B b l) (hl : l.length ≤ 67000) :
    Calls Tryd.prog 76 #[b, .iface 140 (.agg #[.bool false])] w (ToldPost B l p w) := by
  have HT := Lib.hid (show noS.toList = textP p by rw [textP_eq, if_neg (by omega), if_pos h1, hy, noS_text]; rfl)
  have hB := Below.refl B w
  have f1 := V.has_Number_truth
  have f2 := V.has_Raw_truth
  have f3 := V.has_List_truth
  have m1 : ∀ w : World, (method 338 140 (.agg #[.bool false]) "Part").run Tryd.prog w = .ok (157, .agg #[.bool false]) w := fun _ => by kernel_rfl
  have fd : ∀ w : World, (Instr.field 27 (.agg #[.int .u8 1, .bool false, .bool false, .string ⟨#[]⟩, .string ⟨#[]⟩, .slice none 0 0]) 1).run Tryd.prog w = .ok (.bool false) w := fun _ => by kernel_rfl
  clear h1 hy
  go_enter Tryd.func76, Tryd.ntmps76
  go_wp2_with fail
  refine (V.part_truth _ _).mono ?_
  rintro e w1 ⟨rfl, hb1⟩
  replace hB := hB.trans (hb1.mono hsz)
  replace hO := hO.below hb1
  replace hsz := Nat.le_trans hsz hb1.size
  clear hb1
  by_cases hq : (l ++ noS.toList).length ≤ 65536
  · go_wp2_with (at_builtin; first
      | (refine wpList_append_str rfl (.tmp 18) (.tmp 19) 111 9 rfl Tryd.underlying111 (by kernel_rfl) Tryd.info5 rfl hO noS rfl (by show _ + 2 ≤ _; omega) hB hsz ?_; intro v2 w2 hO2 hB2 hs2; obtain ⟨n, a2, cap2, rfl, hn⟩ := ownb_form hO2; have q3 := last_le hq hn.out)
      | refine wpList_len rfl (.tmp 70) 111 rfl slice111 rfl ?_)
    go_ret
    rw [HT.out] at hO2 hq
    exact told_yes hq hO2 hB2 hs2
  · go_wp2_with (at_builtin; first
      | (refine wpList_append_str rfl (.tmp 18) (.tmp 19) 111 9 rfl Tryd.underlying111 (by kernel_rfl) Tryd.info5 rfl hO noS rfl (by show _ + 2 ≤ _; omega) hB hsz ?_; intro v2 w2 hO2 hB2 hs2; obtain ⟨n, a2, cap2, rfl, hn⟩ := ownb_form hO2; have q3 := last_gt hq hn.out)
      | refine wpList_len rfl (.tmp 70) 111 rfl slice111 rfl ?_)
    rw [HT.out] at hq
    exact ⟨rfl, told_no (Nat.lt_of_not_le hq) hB2 hs2⟩
end Go.Proofs.YtcgphlilijeifaaDoor.L
end
section
/-
  lit.told: tuples; any part.
-/
namespace Go.Proofs.YtcgphlilijeifaaDoor.L
open Go.RowKit
open V (Pt)

/-- The text so far: some items behind a bracket. -/
def soFar (l : List UInt8) (ps : List Pt) : List UInt8 := l ++ 40 :: textI ps
theorem soFar_nil (l : List UInt8) : soFar l [] = l ++ [40] := by simp [soFar, textI_nil]
theorem soFar_one (l : List UInt8) (p : Pt) : soFar l [] ++ textP p = soFar l [p] := by simp [soFar, textI_nil, textI_one]
theorem soFar_snoc (l : List UInt8) {ps : List Pt} (h : ps ≠ []) (p : Pt) : (soFar l ps ++ [32]) ++ textP p = soFar l (ps ++ [p]) := by simp [soFar, textI_snoc h]
theorem soFar_all (l : List UInt8) {p : Pt} (h : p.kind = 7) : soFar l p.items ++ [41] = l ++ textP p := by rw [textP_tuple h]; simp [soFar]
theorem textI_take_len (ps : List Pt) (k : Nat) : (textI (ps.take k)).length ≤ (textI ps).length := by
  unfold textI
  have := textI_take_le ps k
  simp only [List.length_drop]
  omega
theorem soFar_le (l : List UInt8) {p : Pt} (h : p.kind = 7) (k : Nat) : (soFar l (p.items.take k)).length ≤ (l ++ textP p).length := by
  rw [← soFar_all l h]
  have := textI_take_len p.items k
  simp only [soFar, List.length_append, List.length_cons]
  omega
theorem soFar_len (l : List UInt8) : (soFar l []).length = l.length + 1 := by simp [soFar_nil]
theorem take_snoc {ps : List Pt} {k : Nat} (h : k < ps.length) : ps.take (k + 1) = ps.take k ++ [ps[k]] := List.take_succ_eq_append_getElem h

set_option maxRecDepth 100000 in
set_option maxHeartbeats 1500000 in
theorem told_tuple (p : Pt) (h7 : p.kind = 7) (hmay : V.mayB p = true) (hdp : V.depthP p ≤ 1000)
    (ih : ∀ q ∈ p.items, ∀ (B : Nat) (b v : Value) (l : List UInt8) (w : World), V.mayB q = true → V.depthP q ≤ 1000 → l.length + V.depthP q ≤ 66600 → V.VI w 0 B q v → B ≤ w.heap.size → OwnB w B b l → Calls Tryd.prog 76 #[b, v] w (ToldPost B l q w))
    (B : Nat) (b v : Value) (l : List UInt8) (w : World) (hl : l.length + V.depthP p ≤ 66600) (hv : V.VI w 0 B p v) (hsz : B ≤ w.heap.size) (hO : OwnB w B b l) : Calls Tryd.prog 76 #[b, v] w (ToldPost B l p w) := by
  have hlen := V.may_len hmay h7
  have hD : V.depthP p = V.depthL p.items + 1 := by rw [V.depthP_eq, if_pos h7]
  have HD := Lib.hid hD
  obtain ⟨a, cap, F, rfl, hcells, hdeep⟩ : ∃ (a : Option Addr) (cap : Nat) (F : Nat → Value), v = .iface 145 (.agg #[.slice a p.items.length cap]) ∧ (∀ j, j < p.items.length → ∃ g, a = some ⟨g, 0, none⟩ ∧ 0 ≤ g ∧ g < B ∧ w.cell? ⟨g, j, none⟩ = some (F j)) ∧ ∀ j (h : j < p.items.length), V.VI w 0 B p.items[j] (F j) := by
    cases hv with
    | null _ h => omega
    | truth _ h => omega
    | whole _ h => omega
    | row _ _ _ _ h => omega
    | tuple _ _ a cap F hc cells deep => exact ⟨a, cap, F, rfl, cells, deep⟩
  have m1 : ∀ w : World, (method 338 145 (.agg #[.slice a p.items.length cap]) "Len").run Tryd.prog w = .ok (163, .agg #[.slice a p.items.length cap]) w := fun _ => by kernel_rfl
  have m2 : ∀ w : World, (method 338 145 (.agg #[.slice a p.items.length cap]) "At").run Tryd.prog w = .ok (161, .agg #[.slice a p.items.length cap]) w := fun _ => by kernel_rfl
  have f1 := V.has_Number_tuple
  have f2 := V.has_Raw_tuple
  have f3 := V.has_List_tuple
  have HC := Lib.hid hcells
  have HDp := Lib.hid hdeep
  have IH := Lib.hid ih
  have HM := Lib.hid hmay
  have HK := Lib.hid h7
  have hB := Below.refl B w
  clear hv hcells hdeep ih hmay h7 hD
  go_enter Tryd.func76, Tryd.ntmps76
  go_wp2_with (at_builtin; refine wpList_append_bytes rfl (.tmp 48) (.tmp 49) 111 rfl Tryd.underlying111 Tryd.info5 rfl (hO.alloc _) _ [40] 1 _ rfl rfl (bv_cells_one _ 40 _) (by omega) (hB.alloc hsz _) (by simp; omega) ?_; intro v2 w2 hO2 hB2 hs2)
  refine (V.len_tuple _ _ _ _).mono ?_
  rintro e w3 ⟨rfl, hb3⟩
  replace hO2 := hO2.below hb3
  replace hB2 := hB2.trans (hb3.mono hs2)
  replace hs2 := Nat.le_trans hs2 hb3.size
  clear hb3 hB hsz
  go_wp2_with fail
  go_loopw [0, 53] (fun b i wr => ∃ k : Nat, k ≤ p.items.length ∧ i = .int .i64 k ∧ OwnB wr B b (soFar l (p.items.take k)) ∧ Below B w wr ∧ B ≤ wr.heap.size ∧ RowKit.Hid (k = 0 ∨ (soFar l (p.items.take k)).length ≤ 65536)) (fun _ i _ => p.items.length - (intOf i).toNat)
  case atStart => exact ⟨0, Nat.zero_le _, rfl, by rw [List.take_zero, soFar_nil]; exact hO2, hB2, hs2, Lib.hid (.inl rfl)⟩
  case round =>
    clear hO2 hB2 hs2
    obtain ⟨k, hkl, rfl, hO, hB, hsz, HL⟩ := hrel
    by_cases hlt : k < p.items.length
    · have q3 : decide (k < p.items.length) = true := by simpa using hlt
      obtain ⟨g0, rfl, _, hg0, hcell⟩ := HC.out k hlt
      have HE := Lib.hid (take_snoc hlt)
      have hmem : p.items[k] ∈ p.items := List.getElem_mem _
      have hdq := V.depthL_mem hmem
      have hvi := Lib.hid (HDp.out k hlt)
      obtain ⟨q, hq⟩ : ∃ q, p.items[k] = q := ⟨_, rfl⟩
      rw [hq] at HE hmem hdq hvi
      have hmq := Lib.hid (V.mayB_item HM.out hmem)
      have hdq2 : V.depthP q + 1 ≤ V.depthP p := by rw [HD.out]; omega
      have hle := Lib.hid (soFar_le l HK.out (k + 1))
      clear hq hdq
      by_cases hk0 : k = 0
      · have q4 : decide (0 < k) = false := by simp; omega
        have HS := Lib.hid (show soFar l (p.items.take k) ++ textP q = soFar l (p.items.take (k + 1)) by rw [HE.out, hk0, List.take_zero, soFar_one]; rfl)
        have hln : (soFar l (p.items.take k)).length = l.length + 1 := by rw [hk0, List.take_zero, soFar_len]
        have hcell2 := Lib.hid (V.keep hB hg0 hcell)
        clear hk0 hcell
        obtain ⟨M, hM⟩ : ∃ M, soFar l (p.items.take k) = M := ⟨_, rfl⟩
        rw [hM] at HS hln hO
        clear hM HL
        go_wp2_with fail
        refine (V.at_in g0 _ cap k (F k) _ (by omega) hlt hcell2.out).mono ?_
        rintro e w2 ⟨rfl, hb2⟩
        have hB2 := hB.trans (hb2.mono hsz)
        have hs2 := Nat.le_trans hsz hb2.size
        go_wp2_with fail
        refine (IH.out q hmem B _ (F k) M w2 hmq.out (by omega) (by omega) (hvi.out.same (V.Same.of_below hB2 (Nat.le_refl _))) hs2 (hO.below hb2)).mono ?_
        rintro e w3 ⟨hB3, hs3, h3⟩
        have hB3 := hB2.trans hB3
        rw [HS.out] at h3
        unfold tooLong at h3
        rcases h3 with ⟨hfit, b3, rfl, hO3⟩ | ⟨hlong, rfl⟩
        · have HF := Lib.hid hfit
          clear hfit hB hB2 hs2 hb2 hO
          go_wp2_with fail
          refine ⟨⟨k + 1, by omega, rfl, hO3, hB3, hs3, Lib.hid (.inr HF.out)⟩, by simp [intOf]; omega⟩
        · go_wp2_with fail
          exact ⟨rfl, told_no (Nat.lt_of_lt_of_le hlong hle.out) hB3 hs3⟩
      · have q4 : decide (0 < k) = true := by simp; omega
        have hln := HL.out.resolve_left hk0
        have HS := Lib.hid (show (soFar l (p.items.take k) ++ [32]) ++ textP q = soFar l (p.items.take (k + 1)) by rw [HE.out]; exact soFar_snoc l (fun e => by have := congrArg List.length e; rw [List.length_take, List.length_nil] at this; omega) q)
        clear hk0
        obtain ⟨M, hM⟩ : ∃ M, soFar l (p.items.take k) = M := ⟨_, rfl⟩
        rw [hM] at HS hln hO
        clear hM HL
        go_wp2_with (at_builtin; refine wpList_append_bytes rfl (.tmp 58) (.tmp 59) 111 rfl Tryd.underlying111 Tryd.info5 rfl (hO.alloc _) _ [32] 1 _ rfl rfl (bv_cells_one _ 32 _) (by omega) (hB.alloc hsz _) (by simp; omega) ?_; intro v2 w2 hO2 hB2 hs2)
        have hcell2 := Lib.hid (V.keep hB2 hg0 hcell)
        refine (V.at_in g0 _ cap k (F k) _ (by omega) hlt hcell2.out).mono ?_
        rintro e w4 ⟨rfl, hb4⟩
        have hB4 := hB2.trans (hb4.mono hs2)
        have hs4 := Nat.le_trans hs2 hb4.size
        go_wp2_with fail
        refine (IH.out q hmem B _ (F k) (M ++ [32]) w4 hmq.out (by omega) (by rw [List.length_append]; simp; omega) (hvi.out.same (V.Same.of_below hB4 (Nat.le_refl _))) hs4 (hO2.below hb4)).mono ?_
        rintro e w3 ⟨hB3, hs3, h3⟩
        have hB3 := hB4.trans hB3
        rw [HS.out] at h3
        unfold tooLong at h3
        rcases h3 with ⟨hfit, b3, rfl, hO3⟩ | ⟨hlong, rfl⟩
        · have HF := Lib.hid hfit
          clear hfit hB hB2 hs2 hb4 hO hO2 hB4 hs4 hcell
          go_wp2_with fail
          refine ⟨⟨k + 1, by omega, rfl, hO3, hB3, hs3, Lib.hid (.inr HF.out)⟩, by simp [intOf]; omega⟩
        · go_wp2_with fail
          exact ⟨rfl, told_no (Nat.lt_of_lt_of_le hlong hle.out) hB3 hs3⟩
    · have q3 : decide (k < p.items.length) = false := by simpa using hlt
      have hT : p.items.take k = p.items := List.take_of_length_le (by omega)
      rw [hT] at hO HL
      have hln : (soFar l p.items).length ≤ 70000 := by
        rcases HL.out with h | h
        · have : p.items = [] := by rw [← hT, h]; rfl
          rw [this, soFar_len]; omega
        · omega
      have HA := Lib.hid (soFar_all l HK.out)
      clear hT HL
      obtain ⟨M, hM⟩ : ∃ M, soFar l p.items = M := ⟨_, rfl⟩
      rw [hM] at HA hln hO
      clear hM
      by_cases hq : (M ++ [41]).length ≤ 65536
      · go_wp2_with (at_builtin; first
          | (refine wpList_append_bytes rfl (.tmp 67) (.tmp 68) 111 rfl Tryd.underlying111 Tryd.info5 rfl (hO.alloc _) _ [41] 1 _ rfl rfl (bv_cells_one _ 41 _) (by omega) (hB.alloc hsz _) (by simp; omega) ?_; intro v2 w2 hO2 hB2 hs2; obtain ⟨n, a2, cap2, rfl, hn⟩ := ownb_form hO2; have q5 := last_le hq hn.out)
          | refine wpList_len rfl (.tmp 70) 111 rfl slice111 rfl ?_)
        go_ret
        rw [HA.out] at hO2 hq
        exact told_yes hq hO2 hB2 hs2
      · go_wp2_with (at_builtin; first
          | (refine wpList_append_bytes rfl (.tmp 67) (.tmp 68) 111 rfl Tryd.underlying111 Tryd.info5 rfl (hO.alloc _) _ [41] 1 _ rfl rfl (bv_cells_one _ 41 _) (by omega) (hB.alloc hsz _) (by simp; omega) ?_; intro v2 w2 hO2 hB2 hs2; obtain ⟨n, a2, cap2, rfl, hn⟩ := ownb_form hO2; have q5 := last_gt hq hn.out)
          | refine wpList_len rfl (.tmp 70) 111 rfl slice111 rfl ?_)
        rw [HA.out] at hq
        exact ⟨rfl, told_no (Nat.lt_of_not_le hq) hB2 hs2⟩

theorem raw_le {p : Pt} (h : V.mayB p = true) : p.raw.size ≤ 65536 := by
  obtain ⟨c0, c1, c2, c3, c4, c5, c6, c7⟩ := canonP h
  by_cases k : p.kind = 0 ∨ p.kind = 1 ∨ p.kind = 2 ∨ p.kind = 7
  · rw [c4 k]; decide
  by_cases k4 : p.kind = 4
  · rw [c6 k4]; omega
  have h1 := V.mayB_ok h
  unfold V.okOne at h1
  simp only [Bool.and_eq_true, Bool.or_eq_true, decide_eq_true_eq] at h1
  obtain ⟨_, h5⟩ := h1
  rw [if_neg (by omega), if_neg k4, if_pos (by omega)] at h5
  simpa using h5
theorem told_any (p : Pt) : ∀ (B : Nat) (b v : Value) (l : List UInt8) (w : World), V.mayB p = true → V.depthP p ≤ 1000 → l.length + V.depthP p ≤ 66600 → V.VI w 0 B p v → B ≤ w.heap.size → OwnB w B b l → Calls Tryd.prog 76 #[b, v] w (ToldPost B l p w) := by
  induction p using Pt.ind with
  | h p ih =>
  intro B b v l w hmay hdp hl hv hsz hO
  obtain ⟨h0, h1, h2, h3, h4, h5, h6, h8⟩ := canonP hmay
  by_cases h7 : p.kind = 7
  · exact told_tuple p h7 hmay hdp ih B b v l w hl hv hsz hO
  · cases hv with
    | null _ h => exact told_null p h B b l w hsz hO (by omega)
    | truth _ h =>
      cases hy : p.yes with
      | true => exact told_true p h hy B b l w hsz hO (by omega)
      | false => exact told_false p h hy B b l w hsz hO (by omega)
    | whole _ h => exact told_num p h (h5 h) B b l w hsz hO (by omega)
    | row _ k0 k1 k2 k7 => exact told_row p (by omega) (raw_le hmay) B b l w hsz hO (by omega)
    | tuple _ h => exact absurd h h7
end Go.Proofs.YtcgphlilijeifaaDoor.L
end
section
/-
  lit.Print: its contract.
-/
namespace Go.Proofs.YtcgphlilijeifaaDoor.L
open Go.RowKit
open V (Pt)

set_option maxRecDepth 100000 in
theorem pcatch_idle (p q : Addr) (w : World) :
    CallsD Tryd.prog 75 #[.pointer (some p), .pointer (some q)] .returning w fun e u' w' => e = .returned (.tuple #[]) ∧ u' = .returning ∧ Below w.heap.size w w' := by
  have hta : ∀ (w : World), (Instr.typeAssert .nilIface 20 128 true).run Tryd.prog w = .ok (.tuple #[.agg #[], .bool false]) w := fun _ => by kernel_rfl
  refine callsD_of_wpS Tryd.func75 rfl fun c₀ cs hu => ?_
  apply wpS_seq
  apply wpS_region
  simp [wpOpsS, go_sem, recoverD, hu, Tryd.ntmps75, Exit.thenS, hta]
  rw [show Array.replicate 8 undef = #[undef, undef, undef, undef, undef, undef, undef, undef] from rfl]
  simp
  refine wpS_of_wp (Code.wp_mono (fun e a' w' (h : Ends (fun w' => Below w.heap.size w w') e a' w') => ?_) ?_)
  · obtain ⟨rfl, hd, h⟩ := h
    simp [bodyPostS, results, Tryd.results75, hd, h]
    cases c₀
    simp_all
  go_wp2_with fail
  exact ⟨rfl, rfl, (Below.refl _ w).alloc (Nat.le_refl _) _⟩

set_option maxRecDepth 100000 in
theorem pcatch_bad (g : Nat) (x : ByteArray) (z : Int) (w : World) (c0 : w.cell? ⟨g, 0, none⟩ = some (.string x)) (c1 : w.cell? ⟨g + 1, 0, none⟩ = some (.int .i64 z))
    (z0 : w.frozen? ⟨g, 0, none⟩ = false) (z1 : w.frozen? ⟨g + 1, 0, none⟩ = false) :
    CallsD Tryd.prog 75 #[.pointer (some ⟨g, 0, none⟩), .pointer (some ⟨g + 1, 0, none⟩)] (.panicking [{ v := .iface 128 (.agg #[]), recovered := false }]) w fun e u' w' =>
      e = .returned (.tuple #[]) ∧ u' = .panicking [{ v := .iface 128 (.agg #[]), recovered := true }] ∧
        w'.cell? ⟨g, 0, none⟩ = some (.string ⟨#[]⟩) ∧ w'.cell? ⟨g + 1, 0, none⟩ = some (.int .i64 2) ∧ Below g w w' := by
  have hta : ∀ (w : World), (Instr.typeAssert (.iface 128 (.agg #[])) 20 128 true).run Tryd.prog w = .ok (.tuple #[.agg #[], .bool true]) w := fun _ => by kernel_rfl
  refine callsD_of_wpS Tryd.func75 rfl fun c₀ cs hu => ?_
  apply wpS_seq
  apply wpS_region
  simp [wpOpsS, go_sem, recoverD, hu, Tryd.ntmps75, Exit.thenS, hta]
  rw [show Array.replicate 8 undef = #[undef, undef, undef, undef, undef, undef, undef, undef] from rfl]
  simp
  refine wpS_of_wp (Code.wp_mono (fun e a' w' (h : Ends (fun w' => w'.cell? ⟨g, 0, none⟩ = some (.string ⟨#[]⟩) ∧ w'.cell? ⟨g + 1, 0, none⟩ = some (.int .i64 2) ∧ Below g w w') e a' w') => ?_) ?_)
  · obtain ⟨rfl, hd, h⟩ := h
    simp [bodyPostS, results, Tryd.results75, hd, h]
  have k1 : g + 1 < w.heap.size := World.block_lt_of_cell? w _ c1
  obtain ⟨W, hW⟩ : ∃ W, W = w.alloc (.cells #[] 128) := ⟨_, rfl⟩
  have d0 : W.cell? ⟨g, 0, none⟩ = some (.string x) := by rw [hW]; exact (World.cell?_of_block (Below.heap_alloc w _ g (by omega))).trans c0
  have d1 : W.cell? ⟨g + 1, 0, none⟩ = some (.int .i64 z) := by rw [hW]; exact (World.cell?_of_block (Below.heap_alloc w _ (g + 1) k1)).trans c1
  have y0 : W.frozen? ⟨g, 0, none⟩ = false := by rw [hW]; exact (World.frozen?_of_block (Below.heap_alloc w _ g (by omega))).trans z0
  have y1 : W.frozen? ⟨g + 1, 0, none⟩ = false := by rw [hW]; exact (World.frozen?_of_block (Below.heap_alloc w _ (g + 1) k1)).trans z1
  have hb : Below g w W := by rw [hW]; exact (Below.refl g w).alloc (by omega) _
  have kW : g + 1 < W.heap.size := World.block_lt_of_cell? W _ d1
  rw [← hW]
  clear hW c0 c1 z0 z1
  go_wp2_with fail
  exact ⟨rfl, rfl, by simp [go_sem, d0, kW], by simp [go_sem, d1, kW], (hb.setCell (Nat.le_refl g) _).setCell (Nat.le_succ g) _⟩

/-- What Print tells. -/
def LPost (p : Pt) (w : World) (e : Ending) (w' : World) : Prop :=
  Below w.heap.size w w' ∧ (((textP p).length ≤ 65536 ∧ ∃ q : ByteArray, e = .returned (.tuple #[.string q, .int .i64 0]) ∧ Hid (q.toList = textP p)) ∨ (65536 < (textP p).length ∧ e = .returned (.tuple #[.string ⟨#[]⟩, .int .i64 2])))

set_option maxRecDepth 100000 in
set_option maxHeartbeats 1500000 in
theorem lprint_any (p : Pt) (v : Value) (w : World) (hmay : V.mayB p = true) (hdp : V.depthP p ≤ 1000) (hv : V.VI w 0 w.heap.size p v) : Calls Tryd.prog 35 #[v] w (LPost p w) := by
  have hmf : ∀ (fn : Fn) (first cap : Array Value) (w : World), (Instr.makeFunc fn first cap).run Tryd.prog w = .ok (.func fn first cap) w := fun _ _ _ _ => rfl
  obtain ⟨W, hW⟩ : ∃ W : World, W = (w.alloc (.cells #[.string ⟨#[]⟩] 9)).alloc (.cells #[.int .i64 0] 30) := ⟨_, rfl⟩
  have hBel : Below w.heap.size w W := by
    subst hW
    exact ((Below.refl _ w).alloc (Nat.le_refl _) _).alloc (by simp) _
  have hWs : W.heap.size = w.heap.size + 2 := by subst hW; simp
  have c0 : W.cell? ⟨w.heap.size, 0, none⟩ = some (.string ⟨#[]⟩) := by subst hW; simp [go_sem]
  have c1 : W.cell? ⟨w.heap.size + 1, 0, none⟩ = some (.int .i64 0) := by subst hW; simp [go_sem]
  have z0 : W.frozen? ⟨w.heap.size, 0, none⟩ = false := by subst hW; simp [go_sem]
  have z1 : W.frozen? ⟨w.heap.size + 1, 0, none⟩ = false := by subst hW; simp [go_sem]
  have hvW := (hv.same (V.Same.of_below hBel (Nat.le_refl _))).wide (Nat.le_refl _) (show w.heap.size ≤ w.heap.size + 2 by omega)
  clear hv
  go_enter_defers Tryd.func35, Tryd.ntmps35
  go_wp2_with fail
  rw [← hW]
  clear hW
  refine (told_any p (w.heap.size + 2) (.slice none 0 0) v [] W hmay hdp (by simp; omega) hvW (by omega) (OwnB.nil _ _)).mono ?_
  rintro e w1 ⟨hB1, hs1, h1⟩
  rw [List.nil_append] at h1
  have d0 : w1.cell? ⟨w.heap.size, 0, none⟩ = some (.string ⟨#[]⟩) := (hB1.cell (p := ⟨w.heap.size, 0, none⟩) (by simp)).trans c0
  have d1 : w1.cell? ⟨w.heap.size + 1, 0, none⟩ = some (.int .i64 0) := (hB1.cell (p := ⟨w.heap.size + 1, 0, none⟩) (by simp)).trans c1
  have y0 : w1.frozen? ⟨w.heap.size, 0, none⟩ = false := (hB1.frozen (p := ⟨w.heap.size, 0, none⟩) (by simp)).trans z0
  have y1 : w1.frozen? ⟨w.heap.size + 1, 0, none⟩ = false := (hB1.frozen (p := ⟨w.heap.size + 1, 0, none⟩) (by simp)).trans z1
  have hBw : Below w.heap.size w w1 := hBel.trans (hB1.mono (by omega))
  clear c0 c1 z0 z1
  rcases h1 with ⟨hfit, b1, rfl, hO⟩ | ⟨hlong, rfl⟩
  · have hcv := hO.conv (P := Tryd.prog) 111 9 Tryd.underlying111 (by kernel_rfl) (by kernel_rfl)
    have k1 : w.heap.size + 1 < w1.heap.size := by omega
    have HF := Lib.hid hfit
    clear hO hfit
    go_wp2_with fail
    refine leaves_cons (f := 75) (args := #[.pointer (some ⟨w.heap.size, 0, none⟩), .pointer (some ⟨w.heap.size + 1, 0, none⟩)]) (by simp) (by simp [go_sem]) ?_
    obtain ⟨W2, hW2⟩ : ∃ W2, W2 = (w1.setCell ⟨w.heap.size, 0, none⟩ (.string ⟨(textP p).toArray⟩)).setCell ⟨w.heap.size + 1, 0, none⟩ (.int .i64 0) := ⟨_, rfl⟩
    have x0 : W2.cell? ⟨w.heap.size, 0, none⟩ = some (.string ⟨(textP p).toArray⟩) := by rw [hW2]; simp [go_sem, d0]
    have x1 : W2.cell? ⟨w.heap.size + 1, 0, none⟩ = some (.int .i64 0) := by rw [hW2]; simp [go_sem, d1]
    have hB2 : Below w.heap.size w W2 := by rw [hW2]; exact (hBw.setCell (Nat.le_refl _) _).setCell (Nat.le_succ _) _
    have k2 : w.heap.size + 1 < W2.heap.size := World.block_lt_of_cell? W2 _ x1
    rw [← hW2]
    clear hW2 d0 d1 y0 y1
    refine (pcatch_idle _ _ W2).mono ?_
    rintro e u' w3 ⟨rfl, rfl, hb3⟩
    have e0 : w3.cell? ⟨w.heap.size, 0, none⟩ = some (.string ⟨(textP p).toArray⟩) := V.keeps hb3 x0
    have e1 : w3.cell? ⟨w.heap.size + 1, 0, none⟩ = some (.int .i64 0) := V.keeps hb3 x1
    refine ⟨.tuple #[.string ⟨(textP p).toArray⟩, .int .i64 0], ?_, V.two hB2 hb3, .inl ⟨HF.out, _, rfl, Lib.hid (by rw [Lib.toList_data])⟩⟩
    simp [results, Tryd.results35, go_sem, e0, e1]
  · refine leaves_cons (f := 75) (args := #[.pointer (some ⟨w.heap.size, 0, none⟩), .pointer (some ⟨w.heap.size + 1, 0, none⟩)]) (by simp) (by simp [go_sem]) ?_
    refine (pcatch_bad w.heap.size _ _ w1 d0 d1 y0 y1).mono ?_
    rintro e u' w2 ⟨rfl, rfl, e0, e1, hb2⟩
    refine ⟨.tuple #[.string ⟨#[]⟩, .int .i64 2], ?_, hBw.trans hb2, .inr ⟨hlong, rfl⟩⟩
    simp [results, Tryd.results35, go_sem, e0, e1]
end Go.Proofs.YtcgphlilijeifaaDoor.L
end
section
/-
  The document's answer for texts: hexadecimal digits.
-/
namespace Go.Proofs.YtcgphlilijeifaaDoor.L
open Go.RowKit
open V (Pt)

theorem rdigit_any (n : Int) (w : World) (h0 : 0 ≤ n) (h1 : n < 16) : Calls Tryd.prog 124 #[.int .i64 n] w fun e w' => e = .returned (.int .u8 ((hexC n.toNat).toNat : Int)) ∧ w' = w := by
  by_cases h : n < 10
  · have HV := Lib.hid (show ((hexC n.toNat).toNat : Int) = 48 + n by unfold hexC; rw [if_pos (by omega)]; simp; omega)
    have q : decide (n < 10) = true := by simpa using h
    clear h
    go_enter Tryd.func124, Tryd.ntmps124
    go_wp2_with fail
    go_ret
    exact ⟨by rw [HV.out]; rfl, rfl⟩
  · have HV := Lib.hid (show ((hexC n.toNat).toNat : Int) = 97 + n - 10 by unfold hexC; rw [if_neg (by omega)]; simp; omega)
    have q : decide (n < 10) = false := by simpa using h
    clear h
    go_enter Tryd.func124, Tryd.ntmps124
    go_wp2_with fail
    go_ret
    exact ⟨by rw [HV.out]; rfl, rfl⟩

theorem wrap_small (n : Int) (h0 : 0 ≤ n) (h1 : n ≤ 9223372036854775807) : IntKind.i64.wrap n = n := by
  simp [IntKind.wrap, IntKind.signed, IntKind.bits]
  omega
theorem hi_wrap (c : UInt8) : IntKind.i64.wrap ((IntKind.i64.wrap (c.toNat : Int)).tdiv 16) = (c.toNat : Int) / 16 := by
  have hc := c.toNat_lt
  rw [wrap_small (c.toNat : Int) (by omega) (by omega), Int.tdiv_eq_ediv_of_nonneg (by omega), wrap_small _ (by omega) (by omega)]
theorem lo_wrap (c : UInt8) : (IntKind.i64.wrap (c.toNat : Int)).tmod 16 = (c.toNat : Int) % 16 := by
  have hc := c.toNat_lt
  rw [wrap_small (c.toNat : Int) (by omega) (by omega), Int.tmod_eq_emod_of_nonneg (by omega)]
set_option maxRecDepth 100000 in
set_option maxHeartbeats 600000 in
theorem rdigits_any (s : ByteArray) (w : World) (hs : s.size ≤ 65536) :
    Calls Tryd.prog 105 #[.string s] w fun e w' => ∃ v', e = .returned v' ∧ OwnB w' w.heap.size v' (hexL s.toList) ∧ Below w.heap.size w w' := by
  have hB := Below.refl w.heap.size w
  go_enter Tryd.func105, Tryd.ntmps105
  go_wp2_with fail
  go_loopw [3, 4] (fun b i wr => ∃ (j : Nat), j ≤ s.size ∧ i = .int .i64 j ∧ OwnB wr w.heap.size b (hexL (s.toList.take j)) ∧ Below w.heap.size w wr) (fun _ i _ => s.size - (intOf i).toNat)
  case atStart => exact ⟨0, Nat.zero_le _, rfl, OwnB.nil _ _, hB⟩
  case round =>
    clear hB
    obtain ⟨j, hj, rfl, hO, hB⟩ := hrel
    by_cases hlt : j < s.size
    · have q3 : decide (j < s.size) = true := by simpa using hlt
      have hlt2 := s[j].toNat_lt
      have e1 := hi_wrap s[j]
      have e2 := lo_wrap s[j]
      have T1 := Lib.hid (show ((s[j].toNat : Int) / 16).toNat = s[j].toNat / 16 by omega)
      have T2 := Lib.hid (show ((s[j].toNat : Int) % 16).toNat = s[j].toNat % 16 by omega)
      have hsz := hB.size
      have hlen : (hexL (s.toList.take j)).length ≤ 300000 := by
        rw [hexL_length, List.length_take]; omega
      obtain ⟨L, hL⟩ : ∃ L, hexL (s.toList.take j) = L := ⟨_, rfl⟩
      rw [hL] at hO hlen
      have HL := Lib.hid hL
      have HO := Lib.hid hO
      have hO' : wr.drew.ownsRow w.heap.size 5 1 u3 L.length (bv L) := hO
      obtain ⟨i0, hinf, hz0, hz1, hz2⟩ := info_parts Tryd.info5
      clear hO hL
      go_wp2_with fail
      go_region_held3 (fun _ => True) (trivial) (first
        | (go_at_call 124; refine (rdigit_any _ _ (by omega) (by omega)).mono ?_; rintro e w9 ⟨rfl, rfl⟩)
        | (refine step_append_lies _ rfl (.tmp 11) (.tmp 24) 111 rfl w.heap.size 5 i0 (.int .u8 0) 1 1 Tryd.underlying111 hinf hz0 hz1 hz2 rfl (by decide) u3 _ _ (by simp [Act.eval, Act.put]) (hO'.alloc _) ⟨wr.heap.size, 0, none⟩ 2 2 (bv [_, _]) (by simp [Act.eval, Act.put]) (by simp [bv]) (bv_cells_two wr.drew _ _ _) (bv_one _) (by decide) (by unfold maxLen; omega) (by omega) (by simp; omega) _ rfl ?_; intro g cap w3 hO3 hg3 hlies hgl))
      all_goals
        go_wp2_with fail
        have hOx := own_push (M := hexL (s.toList.take (j + 1))) hO3 rfl (by rw [hexL_take hlt, ← HL.out, T1.out, T2.out])
        have hBx : Below w.heap.size w w3 := ((hB.drew).alloc hsz _).grown hg3 (by simp; omega) (fun k hk => (World.ownsRow.lt HO.out k hk).1)
        refine ⟨?_, by simp [intOf]; omega⟩
        exact ⟨j + 1, by omega, rfl, hOx, hBx⟩
    · have q3 : decide (j < s.size) = false := by simpa using hlt
      go_wp2_with fail
      go_ret
      have e : s.toList.take j = s.toList := List.take_of_length_le (by rw [size_of]; omega)
      exact ⟨_, rfl, by rw [e] at hO; exact hO, hB⟩
end Go.Proofs.YtcgphlilijeifaaDoor.L
end
section
/-
  The document's answer for texts: bytes between quotes.
-/
namespace Go.Proofs.YtcgphlilijeifaaDoor.L
open Go.RowKit
open V (Pt)

theorem ownB_lit (w : World) (c : UInt8) : OwnB (w.alloc (.cells #[.int .u8 (c.toNat : Int)] 5)) w.heap.size (.slice (some ⟨w.heap.size, 0, none⟩) 1 1) [c] := by
  exact ⟨by simp [bv], .inr ⟨w.heap.size, 1, #[.int .u8 (c.toNat : Int)], rfl, Nat.le_refl _, heap_alloc_new w _, Nat.le_refl _, by unfold maxLen; decide, rfl, by simp [bv]⟩⟩

set_option maxRecDepth 100000 in
set_option maxHeartbeats 1500000 in
theorem rquoted_any (s : ByteArray) (q : UInt8) (w : World) (hs : s.size ≤ 65536) :
    Calls Tryd.prog 106 #[.string s, .int .u8 (q.toNat : Int)] w fun e w' => ∃ v', e = .returned v' ∧ OwnB w' w.heap.size v' (q :: (escL q s.toList ++ [q])) ∧ Below w.heap.size w w' := by
  have hB : Below w.heap.size w (w.alloc (.cells #[.int .u8 (q.toNat : Int)] 5)) := (Below.refl _ w).alloc (Nat.le_refl _) _
  have hO1 := ownB_lit w q
  go_enter Tryd.func106, Tryd.ntmps106
  go_wp2_with fail
  go_loopw [5, 6] (fun b i wr => ∃ (j : Nat), j ≤ s.size ∧ i = .int .i64 j ∧ OwnB wr w.heap.size b (q :: escL q (s.toList.take j)) ∧ Below w.heap.size w wr) (fun _ i _ => s.size - (intOf i).toNat)
  case atStart => exact ⟨0, Nat.zero_le _, rfl, hO1, hB⟩
  case round =>
    clear hB hO1
    obtain ⟨j, hj, rfl, hO, hB⟩ := hrel
    have hsz := hB.size
    have hlen : (q :: escL q (s.toList.take j)).length ≤ 400000 := by
      have := escL_len q (s.toList.take j)
      rw [List.length_cons]; rw [List.length_take] at this; omega
    obtain ⟨L, hL⟩ : ∃ L, q :: escL q (s.toList.take j) = L := ⟨_, rfl⟩
    rw [hL] at hO hlen
    have HL := Lib.hid hL
    by_cases hlt : j < s.size
    · have q3 : decide (j < s.size) = true := by simpa using hlt
      have HT := Lib.hid (escL_take q hlt)
      clear hL
      by_cases hc1 : s[j] = q
      · have HE := Lib.hid (show escB q s[j] = [92, s[j]] by unfold escB; rw [if_pos (.inl hc1)])
        have e1 : ((s[j].toNat : Int) == (q.toNat : Int)) = true := by rw [hc1]; simp
        have e1b : (s[j].toNat == q.toNat) = true := by rw [hc1]; simp
        clear hc1
        go_wp2_with (at_builtin; refine wpList_append_bytes rfl (.tmp 26) (.tmp 28) 111 rfl Tryd.underlying111 Tryd.info5 rfl (hO.alloc _) _ [92, s[j]] 2 _ rfl rfl (bv_cells_two _ 92 s[j] _) (by omega) (hB.alloc hsz _) (by simp; omega) ?_; intro v2 w2 hO2 hB2 hs2)
        refine ⟨?_, by simp [intOf]; omega⟩
        exact ⟨j + 1, by omega, rfl, by rw [HT.out, HE.out]; rw [← HL.out] at hO2; simpa using hO2, hB2⟩
      have e1 : ((s[j].toNat : Int) == (q.toNat : Int)) = false := by
        rw [beq_eq_false_iff_ne]
        exact fun e => hc1 (UInt8.toNat_inj.1 (by omega))
      have e1b : (s[j].toNat == q.toNat) = false := by
        rw [beq_eq_false_iff_ne]
        exact fun e => hc1 (UInt8.toNat_inj.1 e)
      by_cases hc2 : s[j] = 92
      · have e2 : ((s[j].toNat : Int) == 92) = true := u8_eqb (d := 92) rfl hc2
        have HE := Lib.hid (show escB q s[j] = [92, s[j]] by unfold escB; rw [if_pos (.inr hc2)])
        clear hc1 hc2
        go_wp2_with (at_builtin; refine wpList_append_bytes rfl (.tmp 26) (.tmp 28) 111 rfl Tryd.underlying111 Tryd.info5 rfl (hO.alloc _) _ [92, s[j]] 2 _ rfl rfl (bv_cells_two _ 92 s[j] _) (by omega) (hB.alloc hsz _) (by simp; omega) ?_; intro v2 w2 hO2 hB2 hs2)
        refine ⟨?_, by simp [intOf]; omega⟩
        exact ⟨j + 1, by omega, rfl, by rw [HT.out, HE.out]; rw [← HL.out] at hO2; simpa using hO2, hB2⟩
      have e2 : ((s[j].toNat : Int) == 92) = false := u8_neb (d := 92) rfl hc2
      by_cases hp1 : 32 ≤ s[j].toNat
      · have g1 : decide ((32 : Int) ≤ (s[j].toNat : Int)) = true := decide_eq_true (by omega)
        by_cases hp2 : s[j].toNat ≤ 126
        · have g2 : decide ((s[j].toNat : Int) ≤ 126) = true := decide_eq_true (by omega)
          have HE := Lib.hid (show escB q s[j] = [s[j]] by unfold escB; rw [if_neg (by simp [hc1, hc2]), if_pos (by simp [plainB, hp1, hp2])])
          clear hc1 hc2 hp1 hp2
          go_wp2_with (at_builtin; refine wpList_append_bytes rfl (.tmp 36) (.tmp 38) 111 rfl Tryd.underlying111 Tryd.info5 rfl (hO.alloc _) _ [s[j]] 1 _ rfl rfl (bv_cells_one _ s[j] _) (by omega) (hB.alloc hsz _) (by simp; omega) ?_; intro v2 w2 hO2 hB2 hs2)
          refine ⟨?_, by simp [intOf]; omega⟩
          exact ⟨j + 1, by omega, rfl, by rw [HT.out, HE.out]; rw [← HL.out] at hO2; simpa using hO2, hB2⟩
        · have g2 : decide ((s[j].toNat : Int) ≤ 126) = false := decide_eq_false (by omega)
          have HE := Lib.hid (show escB q s[j] = 92 :: 120 :: hex2 s[j] by unfold escB; rw [if_neg (by simp [hc1, hc2]), if_neg (by simp [plainB, hp2])])
          clear hc1 hc2 hp1 hp2
          have hlt2 := s[j].toNat_lt
          have e3 := hi_wrap s[j]
          have e4 := lo_wrap s[j]
          have T1 := Lib.hid (show ((s[j].toNat : Int) / 16).toNat = s[j].toNat / 16 by omega)
          have T2 := Lib.hid (show ((s[j].toNat : Int) % 16).toNat = s[j].toNat % 16 by omega)
          go_wp2_with fail
          refine (rdigit_any _ _ (by omega) (by omega)).mono ?_
          rintro e w9 ⟨rfl, rfl⟩
          go_wp2_with fail
          refine (rdigit_any _ _ (by omega) (by omega)).mono ?_
          rintro e w8 ⟨rfl, rfl⟩
          rw [T1.out, T2.out]
          go_wp2_with (at_builtin; refine wpList_append_bytes rfl (.tmp 40) (.tmp 49) 111 rfl Tryd.underlying111 Tryd.info5 rfl (hO.alloc _) _ [92, 120, hexC (s[j].toNat / 16), hexC (s[j].toNat % 16)] 4 _ rfl rfl (bv_cells_four _ 92 120 _ _ _) (by omega) (hB.alloc hsz _) (by simp; omega) ?_; intro v2 w2 hO2 hB2 hs2)
          refine ⟨?_, by simp [intOf]; omega⟩
          exact ⟨j + 1, by omega, rfl, by rw [HT.out, HE.out]; rw [← HL.out] at hO2; simpa [hex2] using hO2, hB2⟩
      · have g1 : decide ((32 : Int) ≤ (s[j].toNat : Int)) = false := decide_eq_false (by omega)
        have HE := Lib.hid (show escB q s[j] = 92 :: 120 :: hex2 s[j] by unfold escB; rw [if_neg (by simp [hc1, hc2]), if_neg (by simp [plainB, hp1])])
        clear hc1 hc2 hp1
        have hlt2 := s[j].toNat_lt
        have e3 := hi_wrap s[j]
        have e4 := lo_wrap s[j]
        have T1 := Lib.hid (show ((s[j].toNat : Int) / 16).toNat = s[j].toNat / 16 by omega)
        have T2 := Lib.hid (show ((s[j].toNat : Int) % 16).toNat = s[j].toNat % 16 by omega)
        go_wp2_with fail
        refine (rdigit_any _ _ (by omega) (by omega)).mono ?_
        rintro e w9 ⟨rfl, rfl⟩
        go_wp2_with fail
        refine (rdigit_any _ _ (by omega) (by omega)).mono ?_
        rintro e w8 ⟨rfl, rfl⟩
        rw [T1.out, T2.out]
        go_wp2_with (at_builtin; refine wpList_append_bytes rfl (.tmp 40) (.tmp 49) 111 rfl Tryd.underlying111 Tryd.info5 rfl (hO.alloc _) _ [92, 120, hexC (s[j].toNat / 16), hexC (s[j].toNat % 16)] 4 _ rfl rfl (bv_cells_four _ 92 120 _ _ _) (by omega) (hB.alloc hsz _) (by simp; omega) ?_; intro v2 w2 hO2 hB2 hs2)
        refine ⟨?_, by simp [intOf]; omega⟩
        exact ⟨j + 1, by omega, rfl, by rw [HT.out, HE.out]; rw [← HL.out] at hO2; simpa [hex2] using hO2, hB2⟩
    · have q3 : decide (j < s.size) = false := by simpa using hlt
      have e : s.toList.take j = s.toList := List.take_of_length_le (by rw [size_of]; omega)
      rw [e] at HL
      clear hL
      go_wp2_with (at_builtin; refine wpList_append_bytes rfl (.tmp 51) (.tmp 53) 111 rfl Tryd.underlying111 Tryd.info5 rfl (hO.alloc _) _ [q] 1 _ rfl rfl (bv_cells_one _ q _) (by omega) (hB.alloc hsz _) (by simp; omega) ?_; intro v2 w2 hO2 hB2 hs2)
      go_ret
      exact ⟨_, rfl, by rw [← HL.out] at hO2; simpa using hO2, hB2⟩
end Go.Proofs.YtcgphlilijeifaaDoor.L
end
section
/-
  Rows of bytes that grow while all that is no row of bytes stays; a row appended to a row.
-/
namespace Go.Proofs.YtcgphlilijeifaaDoor.L
open Go.RowKit
open V (Pt)

/-- Nothing below B has turned, nor anything that is no row of bytes. -/
structure Kp (B : Nat) (w w' : World) : Prop where
  below : Below B w w'
  far : ∀ (k : Nat) (cur : Array Value) (e : TypeId) (r : Nat × Nat), w.heap[k]? = some (Obj.cells cur e r) → e ≠ 5 → w'.heap[k]? = w.heap[k]?
theorem Kp.refl (B : Nat) (w : World) : Kp B w w := ⟨Below.refl B w, fun _ _ _ _ _ _ => rfl⟩
theorem Kp.trans {B : Nat} {a b c : World} (h : Kp B a b) (k : Kp B b c) : Kp B a c :=
  ⟨h.below.trans k.below, fun i cur e r hi he => (k.far i cur e r ((h.far i cur e r hi he).trans hi) he).trans (h.far i cur e r hi he)⟩
theorem Kp.of_below {B : Nat} {w w' : World} (h : Below w.heap.size w w') (hB : B ≤ w.heap.size) : Kp B w w' :=
  ⟨h.mono hB, fun k _ _ _ hk _ => h.block k (Array.getElem?_eq_some_iff.1 hk).1⟩
theorem Kp.size {B : Nat} {w w' : World} (h : Kp B w w') : w.heap.size ≤ w'.heap.size := h.below.size
theorem Kp.alloc {B : Nat} {w w' : World} (h : Kp B w w') (hs : B ≤ w'.heap.size) (o : Obj) : Kp B w (w'.alloc o) := h.trans (Kp.of_below ((Below.refl _ _).alloc (Nat.le_refl _) o) hs)
theorem Kp.grown {B : Nat} {w w' w'' : World} {v : Value} {l : List UInt8} (h : Kp B w w') (hO : OwnB w' B v l) (hg : w'.grownBy w'' v.ownBlock) (hs : B ≤ w'.heap.size) : Kp B w w'' := by
  refine ⟨h.below.grown hg hs (fun k hk => (World.ownsRow.lt hO k hk).1), fun k cur e r hk he => ?_⟩
  have h2 := (h.far k cur e r hk he).trans hk
  refine (hg.block k (Array.getElem?_eq_some_iff.1 h2).1 (fun ek => ?_)).trans (h.far k cur e r hk he)
  rcases hO.2 with ⟨rfl, _⟩ | ⟨g, cap, cu, rfl, _, hgg, _⟩
  · cases ek
  · injection ek with ek
    subst ek
    rw [h2] at hgg
    injection hgg with hgg
    injection hgg with _ h5 _
    exact he h5

theorem wpList_app_bytes {P : Program} {ops : Array Oper} {rest : List Oper} {o : Oper} {a : Act} {Q : Exit → Act → World → Prop} {W w : World} (hgd : o.guard = none) (s x : Operand) (t : TypeId)
    (ho : o.op = .call { callee := .builtin .append, args := #[s, x], argTypes := #[t, t] })
    (ht : P.underlying t = some (.slice 5)) (hinfo : (P.info? 5).map (fun i => (i.zero, i.size, i.bytes)) = some (some (.int .u8 0), 1, 1))
    {base : Nat} {v : Value} {l : List UInt8} (hs : a.eval s = v) (hown : OwnB w base v l)
    (ad : Addr) (m : List UInt8) (k c : Nat) (hk : m.length = k) (hx : a.eval x = .slice (some ad) k c) (hnews : ∀ j u, (bv m)[j]? = some u → w.cell? (ad.add j) = some u)
    (hlen : l.length + k ≤ 140737488355328) (hB : Kp base W w) (hbase : base ≤ w.heap.size)
    (h : ∀ v' w', OwnB w' base v' (l ++ m) → Kp base W w' → base ≤ w'.heap.size → wpList P ops Q rest (a.put o.dst v') w') : wpList P ops Q (o :: rest) a w := by
  subst hk
  obtain ⟨i0, hi, hz0, hz1, hz2⟩ := info_parts hinfo
  refine wpList_append_own w hgd s x t ho base 5 i0 (.int .u8 0) 1 1 ht hi hz0 hz1 hz2 rfl (by decide) v l.length (bv l) hs hown ad m.length c (bv m) hx (by simp [bv_length]) hnews (bv_one m) (by unfold maxLen; omega) (by omega) hbase ?_
  intro v' w' ho' hg _
  refine h v' w' ?_ (hB.grown hown hg hbase) (Nat.le_trans hbase hg.size)
  unfold OwnB
  rw [bv_append] at ho'
  simpa using ho'
theorem wpList_app_str {P : Program} {ops : Array Oper} {rest : List Oper} {o : Oper} {a : Act} {Q : Exit → Act → World → Prop} {W w : World} (hgd : o.guard = none) (s x : Operand) (t u : TypeId)
    (ho : o.op = .call { callee := .builtin .append, args := #[s, x], argTypes := #[t, u] })
    (ht : P.underlying t = some (.slice 5)) (hu : P.underlying u = some .string) (hinfo : (P.info? 5).map (fun i => (i.zero, i.size, i.bytes)) = some (some (.int .u8 0), 1, 1))
    {base : Nat} {v : Value} {l : List UInt8} (hs : a.eval s = v) (hown : OwnB w base v l)
    (m : ByteArray) (hx : a.eval x = .string m)
    (hlen : l.length + m.size ≤ 140737488355328) (hB : Kp base W w) (hbase : base ≤ w.heap.size)
    (h : ∀ v' w', OwnB w' base v' (l ++ m.toList) → Kp base W w' → base ≤ w'.heap.size → wpList P ops Q rest (a.put o.dst v') w') : wpList P ops Q (o :: rest) a w := by
  obtain ⟨i0, hi, hz0, hz1, hz2⟩ := info_parts hinfo
  refine Lib.wpList_append_own_string w hgd s x t u ho base 5 i0 ht hu hi hz0 hz1 hz2 v l.length (bv l) hs hown m hx (by unfold maxLen; omega) (by omega) hbase ?_
  intro v' w' ho' hg _
  refine h v' w' ?_ (hB.grown hown hg hbase) (Nat.le_trans hbase hg.size)
  unfold OwnB
  rw [str_bv, bv_append] at ho'
  rw [List.length_append, size_of]
  exact ho'
/-- Nothing appended. -/
theorem run_append_none {P : Program} (w : World) (t ty : TypeId) (i : TypeInfo) (ht : P.underlying t = some (.slice 5)) (hi : P.info? 5 = some i) (hs : i.size = 1) {base : Nat} {v : Value} {l : List UInt8} (hO : OwnB w base v l) :
    (Builtin.append_ #[t, t] ty #[v, .slice none 0 0]).run P w = .ok v w := by
  rcases hO.2 with ⟨rfl, _⟩ | ⟨g, cap, cur, rfl, _, hgg, hnc, _⟩
  · simp [Builtin.append_, run_underlying ht, sizeOf, typeInfo, hi, Builtin.lenOf, Builtin.firstCells]
  · simp [Builtin.append_, run_underlying ht, sizeOf, typeInfo, hi, Builtin.lenOf, Builtin.firstCells, hnc, hs, storeCells]
/-- A row of the call's own, which may be nil, appended. -/
theorem wpList_app_row {P : Program} {ops : Array Oper} {rest : List Oper} {o : Oper} {a : Act} {Q : Exit → Act → World → Prop} {W w : World} (hgd : o.guard = none) (s x : Operand) (t : TypeId)
    (ho : o.op = .call { callee := .builtin .append, args := #[s, x], argTypes := #[t, t] })
    (ht : P.underlying t = some (.slice 5)) (hinfo : (P.info? 5).map (fun i => (i.zero, i.size, i.bytes)) = some (some (.int .u8 0), 1, 1))
    {base base2 : Nat} {v u : Value} {l m : List UInt8} (hs : a.eval s = v) (hown : OwnB w base v l) (hx : a.eval x = u) (hm : OwnB w base2 u m)
    (hlen : l.length + m.length ≤ 140737488355328) (hB : Kp base W w) (hbase : base ≤ w.heap.size)
    (h : ∀ v' w', OwnB w' base v' (l ++ m) → Kp base W w' → base ≤ w'.heap.size → wpList P ops Q rest (a.put o.dst v') w') : wpList P ops Q (o :: rest) a w := by
  rcases id hm.2 with ⟨rfl, hn⟩ | ⟨g, cap, cur, rfl, _⟩
  · have : m = [] := List.eq_nil_of_length_eq_zero hn
    subst this
    obtain ⟨i0, hi, hz0, hz1, hz2⟩ := info_parts hinfo
    refine wpList_plain hgd fun K hK => ?_
    have hr := run_append_none (P := P) w t o.type i0 ht hi hz1 hown
    unfold Oper.wp execOp
    simp only [ho, resolve, invoke, builtin, Sem.run_bind, Sem.run_pure, Result.andThen_ok, List.map_toArray, List.map_cons, List.map_nil, hs, hx, hr]
    exact hK _ _ (h v w (by rw [List.append_nil]; exact hown) hB hbase)
  · exact wpList_app_bytes hgd s x t ho ht hinfo hs hown ⟨g, 0, none⟩ m m.length cap rfl hx (fun j u hj => World.ownsRow.cells hm (g := g) rfl j u hj) hlen hB hbase h

theorem bv_cells_oneH (w : World) (c : UInt8) (T : TypeId) (H : Nat) (h : w.heap.size = H) : ∀ j u, (bv [c])[j]? = some u → (w.alloc (.cells #[.int .u8 (c.toNat : Int)] T)).cell? ((⟨H, 0, none⟩ : Addr).add j) = some u := by
  subst h
  exact bv_cells_one w c T
/-- A part in a block of its own. -/
def BoxAt (w : World) (T : Nat) (p : Pt) (v : Value) : Prop := w.heap[T]? = some (Obj.cells #[.int .u8 p.kind, .bool p.yes, .bool p.neg, .string p.mag, .string p.raw, v] 27 (0, 0))
theorem BoxAt.kp {B : Nat} {w w' : World} {T : Nat} {p : Pt} {v : Value} (h : BoxAt w T p v) (k : Kp B w w') : BoxAt w' T p v := (k.far T _ 27 _ h (by decide)).trans h
theorem BoxAt.cell {w : World} {T : Nat} {p : Pt} {v : Value} (h : BoxAt w T p v) : w.cell? ⟨T, 0, none⟩ = some (.int .u8 p.kind) ∧ w.cell? ⟨T, 1, none⟩ = some (.bool p.yes) ∧ w.cell? ⟨T, 2, none⟩ = some (.bool p.neg) ∧
    w.cell? ⟨T, 3, none⟩ = some (.string p.mag) ∧ w.cell? ⟨T, 4, none⟩ = some (.string p.raw) ∧ w.cell? ⟨T, 5, none⟩ = some v :=
  ⟨cell_of_row w T 0 _ _ _ h, cell_of_row w T 1 _ _ _ h, cell_of_row w T 2 _ _ _ h, cell_of_row w T 3 _ _ _ h, cell_of_row w T 4 _ _ _ h, cell_of_row w T 5 _ _ _ h⟩
theorem BoxAt.new (w : World) (p : Pt) (v : Value) : BoxAt (w.alloc (.cells #[.int .u8 p.kind, .bool p.yes, .bool p.neg, .string p.mag, .string p.raw, v] 27)) w.heap.size p v := heap_alloc_new w _

/-- What the document's text tells. -/
def RPost (B : Nat) (l : List UInt8) (p : Pt) (w : World) (e : Ending) (w' : World) : Prop :=
  ∃ v' M, e = .returned v' ∧ OwnB w' B v' M ∧ Kp B w w' ∧ B ≤ w'.heap.size ∧ ((l ++ textP p).length ≤ 65536 → M = l ++ textP p) ∧ (65536 < (l ++ textP p).length → 65536 < M.length) ∧ M.length ≤ max l.length (400000 + 1100 * V.depthP p)
theorem hexL_len2 (s : List UInt8) : (hexL s).length = 2 * s.length := hexL_length s
theorem leaf_len {p : Pt} (hm : V.mayB p = true) (h7 : p.kind ≠ 7) : (textP p).length ≤ 262200 := by
  obtain ⟨c0, c1, c2, c3, c4, c5, c6, c7⟩ := canonP hm
  have hr := raw_le hm
  rw [← size_of] at hr
  rw [textP_eq]
  split
  · simp [nullT]
  split
  · split <;> simp [yesT, noT]
  split
  · rename_i k2
    have h := digitsV_len p.neg p.mag.toList
    have := (chk_zero_iff.1 (c5 k2)).1
    omega
  unfold rawL
  have e1 := escL_len 39 p.raw.toList
  have e2 := escL_len 34 p.raw.toList
  split
  · rw [List.length_cons, hexL_length]; omega
  split
  · rw [List.length_cons, hexL_length]; omega
  split
  · rw [List.length_cons, List.length_append, List.length_singleton]; omega
  · rw [List.length_cons, List.length_append, List.length_singleton]; omega
theorem rpost_leaf {B : Nat} {l : List UInt8} {p : Pt} {w w' : World} {v' : Value} (hm : V.mayB p = true) (h7 : p.kind ≠ 7) (hl : l.length ≤ 65536) (hO : OwnB w' B v' (l ++ textP p)) (hB : Kp B w w') (hs : B ≤ w'.heap.size) : RPost B l p w (.returned v') w' := by
  refine ⟨v', _, rfl, hO, hB, hs, fun _ => rfl, fun h => h, ?_⟩
  have := leaf_len hm h7
  rw [List.length_append]
  omega
theorem rpost_long {B : Nat} {l : List UInt8} {p : Pt} {w w' : World} {v' : Value} (hl : 65536 < l.length) (hO : OwnB w' B v' l) (hB : Kp B w w') (hs : B ≤ w'.heap.size) : RPost B l p w (.returned v') w' := by
  refine ⟨v', l, rfl, hO, hB, hs, fun h => ?_, fun _ => hl, by omega⟩
  rw [List.length_append] at h
  omega
end Go.Proofs.YtcgphlilijeifaaDoor.L
end
section
/-
  The document's text: all but tuples (printed by wip/tools/mk-litk.py).
-/
namespace Go.Proofs.YtcgphlilijeifaaDoor.L
open Go.RowKit
open V (Pt)

set_option maxRecDepth 100000 in
set_option maxHeartbeats 1500000 in
theorem text_long (p : Pt) (B : Nat) (v : Value) (l : List UInt8) (w : World) (a : Option Addr) (cap : Nat) (hsz : B ≤ w.heap.size) (hO : OwnB w B v l) (hl : 65536 < l.length) :
    Calls Tryd.prog 77 #[v, .agg #[.int .u8 p.kind, .bool p.yes, .bool p.neg, .string p.mag, .string p.raw, .slice a p.items.length cap]] w (RPost B l p w) := by
  obtain ⟨n, a1, cap1, rfl, hn⟩ := ownb_form hO
  have q0 := last_gt (Nat.not_le_of_lt hl) hn.out
  have hB : Kp B w (w.alloc (.cells #[.int .u8 p.kind, .bool p.yes, .bool p.neg, .string p.mag, .string p.raw, .slice a p.items.length cap] 27)) := (Kp.refl B w).alloc hsz _
  go_enter Tryd.func77, Tryd.ntmps77
  go_wp2_with (at_builtin; refine wpList_len rfl (.tmp 8) 111 rfl slice111 rfl ?_)
  go_ret
  exact rpost_long hl (hO.alloc _) hB (by simp; omega)

set_option maxRecDepth 100000 in
set_option maxHeartbeats 1500000 in
theorem text_null (p : Pt) (hm : V.mayB p = true) (hk : p.kind = 0) (B : Nat) (v : Value) (l : List UInt8) (w : World) (a : Option Addr) (cap : Nat) (hsz : B ≤ w.heap.size) (hO : OwnB w B v l) (hl : l.length ≤ 65536) :
    Calls Tryd.prog 77 #[v, .agg #[.int .u8 p.kind, .bool p.yes, .bool p.neg, .string p.mag, .string p.raw, .slice a p.items.length cap]] w (RPost B l p w) := by
  have HT := Lib.hid (show nullS.toList = textP p by rw [textP_eq, if_pos hk, nullS_text])
  have q1 : ((p.kind : Int) == 1) = false := beq_eq_false_iff_ne.2 (by omega)
  have q2 : ((p.kind : Int) == 2) = false := beq_eq_false_iff_ne.2 (by omega)
  have q3 : ((p.kind : Int) == 3) = false := beq_eq_false_iff_ne.2 (by omega)
  have q4 : ((p.kind : Int) == 4) = false := beq_eq_false_iff_ne.2 (by omega)
  have q5 : ((p.kind : Int) == 5) = false := beq_eq_false_iff_ne.2 (by omega)
  have q6 : ((p.kind : Int) == 6) = false := beq_eq_false_iff_ne.2 (by omega)
  have q7 : ((p.kind : Int) == 7) = false := beq_eq_false_iff_ne.2 (by omega)
  obtain ⟨n, a1, cap1, rfl, hn⟩ := ownb_form hO
  have hn2 : n ≤ 65536 := by rw [hn.out]; exact hl
  have q0 := last_le hl hn.out
  have HM := Lib.hid hm
  have hB : Kp B w (w.alloc (.cells #[.int .u8 p.kind, .bool p.yes, .bool p.neg, .string p.mag, .string p.raw, .slice a p.items.length cap] 27)) := (Kp.refl B w).alloc hsz _
  have h7 : p.kind ≠ 7 := by omega
  have H7 := Lib.hid h7
  clear hk hm h7
  go_enter Tryd.func77, Tryd.ntmps77
  go_wp2_with (at_builtin; first
    | refine wpList_len rfl (.tmp 8) 111 rfl slice111 rfl ?_
    | (refine wpList_app_str rfl (.tmp 94) (.const (.string nullS)) 111 9 rfl Tryd.underlying111 (by kernel_rfl) Tryd.info5 rfl (hO.alloc _) nullS rfl (by first | (show _ + 4 ≤ _; omega) | omega) hB (by simp; omega) ?_; intro v2 w2 hO2 hB2 hs2))
  go_ret
  rw [HT.out] at hO2
  exact rpost_leaf HM.out H7.out hl hO2 hB2 hs2

set_option maxRecDepth 100000 in
set_option maxHeartbeats 1500000 in
theorem text_true (p : Pt) (hm : V.mayB p = true) (hk : p.kind = 1) (hy : p.yes = true) (B : Nat) (v : Value) (l : List UInt8) (w : World) (a : Option Addr) (cap : Nat) (hsz : B ≤ w.heap.size) (hO : OwnB w B v l) (hl : l.length ≤ 65536) :
    Calls Tryd.prog 77 #[v, .agg #[.int .u8 p.kind, .bool p.yes, .bool p.neg, .string p.mag, .string p.raw, .slice a p.items.length cap]] w (RPost B l p w) := by
  have HT := Lib.hid (show yesS.toList = textP p by rw [textP_eq, if_neg (by omega), if_pos hk, hy, yesS_text]; rfl)
  have q1 : ((p.kind : Int) == 1) = true := beq_iff_eq.2 (by omega)
  obtain ⟨n, a1, cap1, rfl, hn⟩ := ownb_form hO
  have hn2 : n ≤ 65536 := by rw [hn.out]; exact hl
  have q0 := last_le hl hn.out
  have HM := Lib.hid hm
  have hB : Kp B w (w.alloc (.cells #[.int .u8 p.kind, .bool p.yes, .bool p.neg, .string p.mag, .string p.raw, .slice a p.items.length cap] 27)) := (Kp.refl B w).alloc hsz _
  have H7 := Lib.hid (show p.kind ≠ 7 by omega)
  rw [hy] at hB ⊢
  clear hk hm hy
  go_enter Tryd.func77, Tryd.ntmps77
  go_wp2_with (at_builtin; first
    | refine wpList_len rfl (.tmp 8) 111 rfl slice111 rfl ?_
    | (refine wpList_app_str rfl (.tmp 18) (.const (.string yesS)) 111 9 rfl Tryd.underlying111 (by kernel_rfl) Tryd.info5 rfl (hO.alloc _) yesS rfl (by first | (show _ + 3 ≤ _; omega) | omega) hB (by simp; omega) ?_; intro v2 w2 hO2 hB2 hs2))
  go_ret
  rw [HT.out] at hO2
  exact rpost_leaf HM.out H7.out hl hO2 hB2 hs2

set_option maxRecDepth 100000 in
set_option maxHeartbeats 1500000 in
theorem text_false (p : Pt) (hm : V.mayB p = true) (hk : p.kind = 1) (hy : p.yes = false) (B : Nat) (v : Value) (l : List UInt8) (w : World) (a : Option Addr) (cap : Nat) (hsz : B ≤ w.heap.size) (hO : OwnB w B v l) (hl : l.length ≤ 65536) :
    Calls Tryd.prog 77 #[v, .agg #[.int .u8 p.kind, .bool p.yes, .bool p.neg, .string p.mag, .string p.raw, .slice a p.items.length cap]] w (RPost B l p w) := by
  have HT := Lib.hid (show noS.toList = textP p by rw [textP_eq, if_neg (by omega), if_pos hk, hy, noS_text]; rfl)
  have q1 : ((p.kind : Int) == 1) = true := beq_iff_eq.2 (by omega)
  obtain ⟨n, a1, cap1, rfl, hn⟩ := ownb_form hO
  have hn2 : n ≤ 65536 := by rw [hn.out]; exact hl
  have q0 := last_le hl hn.out
  have HM := Lib.hid hm
  have hB : Kp B w (w.alloc (.cells #[.int .u8 p.kind, .bool p.yes, .bool p.neg, .string p.mag, .string p.raw, .slice a p.items.length cap] 27)) := (Kp.refl B w).alloc hsz _
  have H7 := Lib.hid (show p.kind ≠ 7 by omega)
  rw [hy] at hB ⊢
  clear hk hm hy
  go_enter Tryd.func77, Tryd.ntmps77
  go_wp2_with (at_builtin; first
    | refine wpList_len rfl (.tmp 8) 111 rfl slice111 rfl ?_
    | (refine wpList_app_str rfl (.tmp 20) (.const (.string noS)) 111 9 rfl Tryd.underlying111 (by kernel_rfl) Tryd.info5 rfl (hO.alloc _) noS rfl (by first | (show _ + 2 ≤ _; omega) | omega) hB (by simp; omega) ?_; intro v2 w2 hO2 hB2 hs2))
  go_ret
  rw [HT.out] at hO2
  exact rpost_leaf HM.out H7.out hl hO2 hB2 hs2

set_option maxRecDepth 100000 in
set_option maxHeartbeats 1500000 in
theorem text_num (p : Pt) (hm : V.mayB p = true) (hk : p.kind = 2) (hc : chk p.neg p.mag.toList = 0) (B : Nat) (v : Value) (l : List UInt8) (w : World) (a : Option Addr) (cap : Nat) (hsz : B ≤ w.heap.size) (hO : OwnB w B v l) (hl : l.length ≤ 65536) :
    Calls Tryd.prog 77 #[v, .agg #[.int .u8 p.kind, .bool p.yes, .bool p.neg, .string p.mag, .string p.raw, .slice a p.items.length cap]] w (RPost B l p w) := by
  have HT := Lib.hid (show textP p = digitsV p.neg p.mag.toList by rw [textP_eq, hk]; rfl)
  have hml : p.mag.size ≤ 255 := by
    have := (chk_zero_iff.1 hc).1
    rw [size_of] at this
    exact this
  have HC := Lib.hid hc
  have q1 : ((p.kind : Int) == 1) = false := beq_eq_false_iff_ne.2 (by omega)
  have q2 : ((p.kind : Int) == 2) = true := beq_iff_eq.2 (by omega)
  obtain ⟨n, a1, cap1, rfl, hn⟩ := ownb_form hO
  have hn2 : n ≤ 65536 := by rw [hn.out]; exact hl
  have q0 := last_le hl hn.out
  have HM := Lib.hid hm
  have hB : Kp B w (w.alloc (.cells #[.int .u8 p.kind, .bool p.yes, .bool p.neg, .string p.mag, .string p.raw, .slice a p.items.length cap] 27)) := (Kp.refl B w).alloc hsz _
  have H7 := Lib.hid (show p.kind ≠ 7 by omega)
  clear hk hm hc
  go_enter Tryd.func77, Tryd.ntmps77
  go_wp2_with (at_builtin; refine wpList_len rfl (.tmp 8) 111 rfl slice111 rfl ?_)
  refine (rprint_ok p.neg p.mag _ HC.out).mono ?_
  rintro e w1 ⟨q, rfl, hqe, hb1⟩
  have HE := Lib.hid (show q.toList = textP p by rw [HT.out]; exact hqe.out)
  have hdl := digitsV_len p.neg p.mag.toList
  rw [← HT.out, ← HE.out, size_of, size_of] at hdl
  have hB1 := hB.trans (Kp.of_below hb1 (by simp; omega))
  have hO1 := (hO.alloc _).below hb1
  have hs1 : B ≤ w1.heap.size := Nat.le_trans (Nat.le_trans hsz hB.size) hb1.size
  clear hb1 hqe hB
  go_wp2_with (at_builtin; refine wpList_app_str rfl (.tmp 30) (.tmp 31) 111 9 rfl Tryd.underlying111 (by kernel_rfl) Tryd.info5 rfl hO1 q rfl (by omega) hB1 hs1 ?_; intro v2 w2 hO2 hB2 hs2)
  go_ret
  rw [HE.out] at hO2
  exact rpost_leaf HM.out H7.out hl hO2 hB2 hs2

set_option maxRecDepth 100000 in
set_option maxHeartbeats 1500000 in
theorem text_3 (p : Pt) (hm : V.mayB p = true) (hk : p.kind = 3) (B : Nat) (v : Value) (l : List UInt8) (w : World) (a : Option Addr) (cap : Nat) (hsz : B ≤ w.heap.size) (hO : OwnB w B v l) (hl : l.length ≤ 65536) :
    Calls Tryd.prog 77 #[v, .agg #[.int .u8 p.kind, .bool p.yes, .bool p.neg, .string p.mag, .string p.raw, .slice a p.items.length cap]] w (RPost B l p w) := by
  have HT := Lib.hid (show 120 :: hexL p.raw.toList = textP p by rw [textP_eq, hk]; rfl)
  have hr := raw_le hm
  have q1 : ((p.kind : Int) == 1) = false := beq_eq_false_iff_ne.2 (by omega)
  have q2 : ((p.kind : Int) == 2) = false := beq_eq_false_iff_ne.2 (by omega)
  have q3 : ((p.kind : Int) == 3) = true := beq_iff_eq.2 (by omega)
  obtain ⟨n, a1, cap1, rfl, hn⟩ := ownb_form hO
  have hn2 : n ≤ 65536 := by rw [hn.out]; exact hl
  have q0 := last_le hl hn.out
  have HM := Lib.hid hm
  have hB : Kp B w (w.alloc (.cells #[.int .u8 p.kind, .bool p.yes, .bool p.neg, .string p.mag, .string p.raw, .slice a p.items.length cap] 27)) := (Kp.refl B w).alloc hsz _
  have H7 := Lib.hid (show p.kind ≠ 7 by omega)
  have hbx := Lib.hid (BoxAt.new w p (.slice a p.items.length cap))
  have hBr := Kp.refl B (w.alloc (.cells #[.int .u8 p.kind, .bool p.yes, .bool p.neg, .string p.mag, .string p.raw, .slice a p.items.length cap] 27))
  clear hk hm
  go_enter Tryd.func77, Tryd.ntmps77
  go_wp2_with (at_builtin; first
    | refine wpList_len rfl (.tmp 8) 111 rfl slice111 rfl ?_
    | (refine wpList_app_bytes rfl (.tmp 35) (.tmp 36) 111 rfl Tryd.underlying111 Tryd.info5 rfl ((hO.alloc _).alloc _) _ [120] 1 _ rfl rfl (bv_cells_oneH _ 120 _ _ (by simp)) (by omega) (hBr.alloc (by simp; omega) _) (by simp; omega) ?_; intro v2 w2 hO2 hB2 hs2; have hbx2 := Lib.hid (hbx.out.kp hB2); obtain ⟨c0, c1, c2, c3, c4, c5⟩ := hbx2.out.cell))
  refine (rdigits_any p.raw w2 hr).mono ?_
  rintro e w3 ⟨v3, rfl, hO3, hb3⟩
  have hO4 := hO2.below hb3
  have hB4 := (hB.trans hB2).trans (Kp.of_below hb3 hs2)
  have hs4 := Nat.le_trans hs2 hb3.size
  have hl3 := hexL_length p.raw.toList
  rw [size_of] at hl3
  clear c0 c1 c2 c3 c4 c5 hbx2 hb3 hB2 hO2
  go_wp2_with (at_builtin; refine wpList_app_row rfl (.tmp 38) (.tmp 41) 111 rfl Tryd.underlying111 Tryd.info5 rfl hO4 rfl hO3 (by simp; omega) hB4 hs4 ?_; intro v5 w5 hO5 hB5 hs5)
  go_ret
  rw [List.append_assoc, List.singleton_append, HT.out] at hO5
  exact rpost_leaf HM.out H7.out hl hO5 hB5 hs5

set_option maxRecDepth 100000 in
set_option maxHeartbeats 1500000 in
theorem text_4 (p : Pt) (hm : V.mayB p = true) (hk : p.kind = 4) (B : Nat) (v : Value) (l : List UInt8) (w : World) (a : Option Addr) (cap : Nat) (hsz : B ≤ w.heap.size) (hO : OwnB w B v l) (hl : l.length ≤ 65536) :
    Calls Tryd.prog 77 #[v, .agg #[.int .u8 p.kind, .bool p.yes, .bool p.neg, .string p.mag, .string p.raw, .slice a p.items.length cap]] w (RPost B l p w) := by
  have HT := Lib.hid (show 35 :: hexL p.raw.toList = textP p by rw [textP_eq, hk]; rfl)
  have hr := raw_le hm
  have q1 : ((p.kind : Int) == 1) = false := beq_eq_false_iff_ne.2 (by omega)
  have q2 : ((p.kind : Int) == 2) = false := beq_eq_false_iff_ne.2 (by omega)
  have q3 : ((p.kind : Int) == 3) = false := beq_eq_false_iff_ne.2 (by omega)
  have q4 : ((p.kind : Int) == 4) = true := beq_iff_eq.2 (by omega)
  obtain ⟨n, a1, cap1, rfl, hn⟩ := ownb_form hO
  have hn2 : n ≤ 65536 := by rw [hn.out]; exact hl
  have q0 := last_le hl hn.out
  have HM := Lib.hid hm
  have hB : Kp B w (w.alloc (.cells #[.int .u8 p.kind, .bool p.yes, .bool p.neg, .string p.mag, .string p.raw, .slice a p.items.length cap] 27)) := (Kp.refl B w).alloc hsz _
  have H7 := Lib.hid (show p.kind ≠ 7 by omega)
  have hbx := Lib.hid (BoxAt.new w p (.slice a p.items.length cap))
  have hBr := Kp.refl B (w.alloc (.cells #[.int .u8 p.kind, .bool p.yes, .bool p.neg, .string p.mag, .string p.raw, .slice a p.items.length cap] 27))
  clear hk hm
  go_enter Tryd.func77, Tryd.ntmps77
  go_wp2_with (at_builtin; first
    | refine wpList_len rfl (.tmp 8) 111 rfl slice111 rfl ?_
    | (refine wpList_app_bytes rfl (.tmp 45) (.tmp 46) 111 rfl Tryd.underlying111 Tryd.info5 rfl ((hO.alloc _).alloc _) _ [35] 1 _ rfl rfl (bv_cells_oneH _ 35 _ _ (by simp)) (by omega) (hBr.alloc (by simp; omega) _) (by simp; omega) ?_; intro v2 w2 hO2 hB2 hs2; have hbx2 := Lib.hid (hbx.out.kp hB2); obtain ⟨c0, c1, c2, c3, c4, c5⟩ := hbx2.out.cell))
  refine (rdigits_any p.raw w2 hr).mono ?_
  rintro e w3 ⟨v3, rfl, hO3, hb3⟩
  have hO4 := hO2.below hb3
  have hB4 := (hB.trans hB2).trans (Kp.of_below hb3 hs2)
  have hs4 := Nat.le_trans hs2 hb3.size
  have hl3 := hexL_length p.raw.toList
  rw [size_of] at hl3
  clear c0 c1 c2 c3 c4 c5 hbx2 hb3 hB2 hO2
  go_wp2_with (at_builtin; refine wpList_app_row rfl (.tmp 48) (.tmp 51) 111 rfl Tryd.underlying111 Tryd.info5 rfl hO4 rfl hO3 (by simp; omega) hB4 hs4 ?_; intro v5 w5 hO5 hB5 hs5)
  go_ret
  rw [List.append_assoc, List.singleton_append, HT.out] at hO5
  exact rpost_leaf HM.out H7.out hl hO5 hB5 hs5

set_option maxRecDepth 100000 in
set_option maxHeartbeats 1500000 in
theorem text_5 (p : Pt) (hm : V.mayB p = true) (hk : p.kind = 5) (B : Nat) (v : Value) (l : List UInt8) (w : World) (a : Option Addr) (cap : Nat) (hsz : B ≤ w.heap.size) (hO : OwnB w B v l) (hl : l.length ≤ 65536) :
    Calls Tryd.prog 77 #[v, .agg #[.int .u8 p.kind, .bool p.yes, .bool p.neg, .string p.mag, .string p.raw, .slice a p.items.length cap]] w (RPost B l p w) := by
  have HT := Lib.hid (show 39 :: (escL 39 p.raw.toList ++ [39]) = textP p by rw [textP_eq, hk]; rfl)
  have hr := raw_le hm
  have q1 : ((p.kind : Int) == 1) = false := beq_eq_false_iff_ne.2 (by omega)
  have q2 : ((p.kind : Int) == 2) = false := beq_eq_false_iff_ne.2 (by omega)
  have q3 : ((p.kind : Int) == 3) = false := beq_eq_false_iff_ne.2 (by omega)
  have q4 : ((p.kind : Int) == 4) = false := beq_eq_false_iff_ne.2 (by omega)
  have q5 : ((p.kind : Int) == 5) = true := beq_iff_eq.2 (by omega)
  obtain ⟨n, a1, cap1, rfl, hn⟩ := ownb_form hO
  have hn2 : n ≤ 65536 := by rw [hn.out]; exact hl
  have q0 := last_le hl hn.out
  have HM := Lib.hid hm
  have hB : Kp B w (w.alloc (.cells #[.int .u8 p.kind, .bool p.yes, .bool p.neg, .string p.mag, .string p.raw, .slice a p.items.length cap] 27)) := (Kp.refl B w).alloc hsz _
  have H7 := Lib.hid (show p.kind ≠ 7 by omega)
  clear hk hm
  go_enter Tryd.func77, Tryd.ntmps77
  go_wp2_with (at_builtin; refine wpList_len rfl (.tmp 8) 111 rfl slice111 rfl ?_)
  refine (rquoted_any p.raw 39 _ hr).mono ?_
  rintro e w3 ⟨v3, rfl, hO3, hb3⟩
  have hO4 := (hO.alloc _).below hb3
  have hB4 := hB.trans (Kp.of_below hb3 (by simp; omega))
  have hs4 : B ≤ w3.heap.size := Nat.le_trans (Nat.le_trans hsz hB.size) hb3.size
  have hl3 := escL_len 39 p.raw.toList
  rw [size_of] at hl3
  clear hb3 hB hO
  go_wp2_with (at_builtin; refine wpList_app_row rfl (.tmp 55) (.tmp 58) 111 rfl Tryd.underlying111 Tryd.info5 rfl hO4 rfl hO3 (by simp; omega) hB4 hs4 ?_; intro v5 w5 hO5 hB5 hs5)
  go_ret
  rw [HT.out] at hO5
  exact rpost_leaf HM.out H7.out hl hO5 hB5 hs5

set_option maxRecDepth 100000 in
set_option maxHeartbeats 1500000 in
theorem text_6 (p : Pt) (hm : V.mayB p = true) (hk : p.kind = 6) (B : Nat) (v : Value) (l : List UInt8) (w : World) (a : Option Addr) (cap : Nat) (hsz : B ≤ w.heap.size) (hO : OwnB w B v l) (hl : l.length ≤ 65536) :
    Calls Tryd.prog 77 #[v, .agg #[.int .u8 p.kind, .bool p.yes, .bool p.neg, .string p.mag, .string p.raw, .slice a p.items.length cap]] w (RPost B l p w) := by
  have HT := Lib.hid (show 34 :: (escL 34 p.raw.toList ++ [34]) = textP p by rw [textP_eq, hk]; rfl)
  have hr := raw_le hm
  have q1 : ((p.kind : Int) == 1) = false := beq_eq_false_iff_ne.2 (by omega)
  have q2 : ((p.kind : Int) == 2) = false := beq_eq_false_iff_ne.2 (by omega)
  have q3 : ((p.kind : Int) == 3) = false := beq_eq_false_iff_ne.2 (by omega)
  have q4 : ((p.kind : Int) == 4) = false := beq_eq_false_iff_ne.2 (by omega)
  have q5 : ((p.kind : Int) == 5) = false := beq_eq_false_iff_ne.2 (by omega)
  have q6 : ((p.kind : Int) == 6) = true := beq_iff_eq.2 (by omega)
  obtain ⟨n, a1, cap1, rfl, hn⟩ := ownb_form hO
  have hn2 : n ≤ 65536 := by rw [hn.out]; exact hl
  have q0 := last_le hl hn.out
  have HM := Lib.hid hm
  have hB : Kp B w (w.alloc (.cells #[.int .u8 p.kind, .bool p.yes, .bool p.neg, .string p.mag, .string p.raw, .slice a p.items.length cap] 27)) := (Kp.refl B w).alloc hsz _
  have H7 := Lib.hid (show p.kind ≠ 7 by omega)
  clear hk hm
  go_enter Tryd.func77, Tryd.ntmps77
  go_wp2_with (at_builtin; refine wpList_len rfl (.tmp 8) 111 rfl slice111 rfl ?_)
  refine (rquoted_any p.raw 34 _ hr).mono ?_
  rintro e w3 ⟨v3, rfl, hO3, hb3⟩
  have hO4 := (hO.alloc _).below hb3
  have hB4 := hB.trans (Kp.of_below hb3 (by simp; omega))
  have hs4 : B ≤ w3.heap.size := Nat.le_trans (Nat.le_trans hsz hB.size) hb3.size
  have hl3 := escL_len 34 p.raw.toList
  rw [size_of] at hl3
  clear hb3 hB hO
  go_wp2_with (at_builtin; refine wpList_app_row rfl (.tmp 62) (.tmp 65) 111 rfl Tryd.underlying111 Tryd.info5 rfl hO4 rfl hO3 (by simp; omega) hB4 hs4 ?_; intro v5 w5 hO5 hB5 hs5)
  go_ret
  rw [HT.out] at hO5
  exact rpost_leaf HM.out H7.out hl hO5 hB5 hs5

end Go.Proofs.YtcgphlilijeifaaDoor.L
end
