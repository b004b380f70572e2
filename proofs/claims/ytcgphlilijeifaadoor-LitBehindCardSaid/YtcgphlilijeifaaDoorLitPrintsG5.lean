import Derived.Test.YtcgphlilijeifaaDoorLitPrintsG2
import Derived.Test.YtcgphlilijeifaaDoorLitPrintsG4
section
/-
  A part's text, in plain words: hexadecimal digits, quotes, tuples.
-/
namespace Go.Proofs.YtcgphlilijeifaaDoor.L
open V (Pt)

def hexC (n : Nat) : UInt8 := UInt8.ofNat (if n < 10 then 48 + n else 87 + n)
def hex2 (c : UInt8) : List UInt8 := [hexC (c.toNat / 16), hexC (c.toNat % 16)]
def unhex (c : UInt8) : Option Nat := if 48 ≤ c.toNat ∧ c.toNat ≤ 57 then some (c.toNat - 48) else if 97 ≤ c.toNat ∧ c.toNat ≤ 102 then some (c.toNat - 87) else none
theorem unhex_hexC {n : Nat} (h : n < 16) : unhex (hexC n) = some n := by
  have : ∀ i : Fin 16, unhex (hexC i.val) = some i.val := by decide +kernel
  exact this ⟨n, h⟩
theorem u8_all {P : UInt8 → Prop} (h : ∀ i : Fin 256, P (UInt8.ofNat i.val)) (c : UInt8) : P c := by
  have := h ⟨c.toNat, c.toNat_lt⟩
  simpa using this
theorem hexC_unhex {c : UInt8} {n : Nat} (h : unhex c = some n) : hexC n = c ∧ n < 16 := by
  have key : ∀ i : Fin 256, (unhex (UInt8.ofNat i.val)).all (fun n => decide (hexC n = UInt8.ofNat i.val) && decide (n < 16)) = true := by decide +kernel
  have := u8_all (P := fun c => (unhex c).all (fun n => decide (hexC n = c) && decide (n < 16)) = true) key c
  rw [h] at this
  simpa using this
def byte2 (a b : Nat) : UInt8 := UInt8.ofNat (16 * a + b)
theorem hex2_byte2 {a b : Nat} (ha : a < 16) (hb : b < 16) : hex2 (byte2 a b) = [hexC a, hexC b] := by
  have h : (byte2 a b).toNat = 16 * a + b := by simp [byte2]; omega
  unfold hex2
  rw [h]
  have h1 : (16 * a + b) / 16 = a := by omega
  have h2 : (16 * a + b) % 16 = b := by omega
  rw [h1, h2]
theorem byte2_hex (c : UInt8) : byte2 (c.toNat / 16) (c.toNat % 16) = c := by
  unfold byte2
  rw [Nat.div_add_mod]
  simp
def plainB (c : UInt8) : Bool := decide (32 ≤ c.toNat) && decide (c.toNat ≤ 126)
/-- A byte between quotes q. -/
def escB (q c : UInt8) : List UInt8 := if c = q ∨ c = 92 then [92, c] else if plainB c then [c] else 92 :: 120 :: hex2 c
def hexL (s : List UInt8) : List UInt8 := s.flatMap hex2
def escL (q : UInt8) (s : List UInt8) : List UInt8 := s.flatMap (escB q)
def rawL (k : Nat) (s : List UInt8) : List UInt8 :=
  if k = 3 then 120 :: hexL s else if k = 4 then 35 :: hexL s else if k = 5 then 39 :: (escL 39 s ++ [39]) else 34 :: (escL 34 s ++ [34])
def nullT : List UInt8 := [110, 117, 108, 108]
def yesT : List UInt8 := [121, 101, 115]
def noT : List UInt8 := [110, 111]
mutual
/-- A part's text. -/
def textP : Pt → List UInt8
  | .mk k y b m r l => if k = 0 then nullT else if k = 1 then (if y then yesT else noT) else if k = 2 then digitsV b m.toList else if k = 7 then 40 :: ((textR l).drop 1 ++ [41]) else rawL k r.toList
/-- The items' texts, a blank ahead of each. -/
def textR : List Pt → List UInt8
  | [] => []
  | p :: r => 32 :: (textP p ++ textR r)
end
theorem textP_eq (p : Pt) : textP p = if p.kind = 0 then nullT else if p.kind = 1 then (if p.yes then yesT else noT) else if p.kind = 2 then digitsV p.neg p.mag.toList else if p.kind = 7 then 40 :: ((textR p.items).drop 1 ++ [41]) else rawL p.kind p.raw.toList := by
  cases p; rw [textP]; rfl
theorem textR_nil : textR [] = [] := by rw [textR]
theorem textR_cons (p : Pt) (r : List Pt) : textR (p :: r) = 32 :: (textP p ++ textR r) := by rw [textR]
theorem textR_append (l m : List Pt) : textR (l ++ m) = textR l ++ textR m := by
  induction l with
  | nil => simp [textR_nil]
  | cons p r ih => rw [List.cons_append, textR_cons, textR_cons, ih]; simp
theorem textR_snoc (l : List Pt) (p : Pt) : textR (l ++ [p]) = textR l ++ 32 :: textP p := by
  rw [textR_append, textR_cons, textR_nil, List.append_nil]
/-- The items' texts within brackets. -/
def textI (l : List Pt) : List UInt8 := (textR l).drop 1
theorem textI_nil : textI [] = [] := by simp [textI, textR_nil]
theorem textI_one (p : Pt) : textI [p] = textP p := by simp [textI, textR_cons, textR_nil]
theorem textI_snoc {l : List Pt} (h : l ≠ []) (p : Pt) : textI (l ++ [p]) = textI l ++ 32 :: textP p := by
  unfold textI
  rw [textR_snoc]
  cases l with
  | nil => exact absurd rfl h
  | cons q r => rw [textR_cons]; simp
theorem textI_cons (p q : Pt) (r : List Pt) : textI (p :: q :: r) = textP p ++ 32 :: textI (q :: r) := by
  simp [textI, textR_cons]
theorem textP_tuple {p : Pt} (h : p.kind = 7) : textP p = 40 :: (textI p.items ++ [41]) := by
  rw [textP_eq, h]; rfl
theorem textI_take_le (l : List Pt) (k : Nat) : (textR (l.take k)).length ≤ (textR l).length := by
  have h := congrArg List.length (congrArg textR (List.take_append_drop k l))
  rw [textR_append, List.length_append] at h
  omega
end Go.Proofs.YtcgphlilijeifaaDoor.L
end
section
/-
  Reading a text, in plain words; a text that was printed is read as what it was; what is read has just that text.
-/
namespace Go.Proofs.YtcgphlilijeifaaDoor.L
open V (Pt)

/-- What a reader of a part comes to: the part and what stands behind; or how much stood behind the wrong place. -/
inductive Res (α : Type) where
  | ok (x : α) (rest : List UInt8)
  | bad (n : Nat)

def isHex (c : UInt8) : Bool := (unhex c).isSome
/-- Bytes of pairs of digits. -/
def bytesH : List UInt8 → List UInt8
  | a :: b :: r => byte2 ((unhex a).getD 0) ((unhex b).getD 0) :: bytesH r
  | _ => []
/-- What stands between quotes; what stands behind. -/
def quotedF (q : UInt8) : List UInt8 → Option (List UInt8 × List UInt8)
  | [] => none
  | c :: r =>
    if c = q then some ([], r)
    else if plainB c = false then none
    else if c ≠ 92 then (quotedF q r).map fun x => (c :: x.1, x.2)
    else match r with
      | [] => none
      | d :: r2 =>
        if d = q ∨ d = 92 then (quotedF q r2).map fun x => (d :: x.1, x.2)
        else if d = 120 then match r2 with
          | a :: b :: r3 => match unhex a, unhex b with
            | some x, some y => if plainB (byte2 x y) then none else (quotedF q r3).map fun z => (byte2 x y :: z.1, z.2)
            | _, _ => none
          | _ => none
        else none
def mkP (k : Nat) (y : Bool) (r : List UInt8) : Pt := .mk k y false ⟨#[]⟩ ⟨r.toArray⟩ []
/-- Items, k more of them at most behind this one. -/
def itemsF (pf : List UInt8 → Res Pt) : Nat → List UInt8 → Res (List Pt)
  | k, s => match pf s with
    | .bad n => .bad n
    | .ok p (41 :: r) => .ok [p] r
    | .ok p (32 :: r) => match k with
      | 0 => .bad (r.length + 1)
      | k + 1 => match itemsF pf k r with
        | .ok l r2 => .ok (p :: l) r2
        | .bad n => .bad n
    | .ok _ r => .bad r.length
/-- What stands behind an opening bracket. -/
def openF (pf : List UInt8 → Res Pt) (r : List UInt8) : Res Pt :=
  if r.head? = some 41 then .ok (.mk 7 false false ⟨#[]⟩ ⟨#[]⟩ []) r.tail
  else match itemsF pf 1023 r with
    | .ok l r2 => .ok (.mk 7 false false ⟨#[]⟩ ⟨#[]⟩ l) r2
    | .bad n => .bad n
/-- The words. -/
def wordF (s : List UInt8) : Res Pt :=
  if nullT.isPrefixOf s then .ok (mkP 0 false []) (s.drop 4)
  else if yesT.isPrefixOf s then .ok (mkP 1 true []) (s.drop 3)
  else if noT.isPrefixOf s then .ok (mkP 1 false []) (s.drop 2)
  else .bad s.length
def numF (t r s : List UInt8) : Res Pt := if parseE t = 0 then .ok (.mk 2 false (neg t) ⟨(magN (dv (ds t))).toArray⟩ ⟨#[]⟩ []) r else .bad s.length
def digF (c : UInt8) (t r s : List UInt8) : Res Pt := if (c = 35 ∧ t.length ≠ 32) ∨ t.length % 2 ≠ 0 then .bad s.length else .ok (mkP (if c = 35 then 4 else 3) false (bytesH t)) r
def quoF (c : UInt8) (x : Option (List UInt8 × List UInt8)) (s : List UInt8) : Res Pt :=
  match x with
  | some (x, r2) => .ok (mkP (if c = 39 then 5 else 6) false x) r2
  | none => .bad s.length
/-- A part, which may hold m tuples within one another. -/
def partF : Nat → List UInt8 → Res Pt
  | m, s => match s with
    | [] => .bad 0
    | c :: r =>
      if c = 45 ∨ isDigit c = true then numF (c :: r.takeWhile isDigit) (r.dropWhile isDigit) s
      else if c = 120 ∨ c = 35 then digF c (r.takeWhile isHex) (r.dropWhile isHex) s
      else if c = 39 ∨ c = 34 then quoF c (quotedF c r) s
      else if c = 40 then (match m with
        | m + 1 => openF (partF m) r
        | 0 => wordF s)
      else wordF s
theorem partF_nil (m : Nat) : partF m [] = .bad 0 := by rw [partF.eq_def]
theorem partF_num (m : Nat) {c : UInt8} (r : List UInt8) (h : c = 45 ∨ isDigit c = true) : partF m (c :: r) = numF (c :: r.takeWhile isDigit) (r.dropWhile isDigit) (c :: r) := by rw [partF.eq_def]; simp only [if_pos h]
theorem partF_dig (m : Nat) {c : UInt8} (r : List UInt8) (h : c = 120 ∨ c = 35) : partF m (c :: r) = digF c (r.takeWhile isHex) (r.dropWhile isHex) (c :: r) := by
  rw [partF.eq_def]
  rcases h with rfl | rfl
  · rfl
  · rfl
theorem partF_quo (m : Nat) {c : UInt8} (r : List UInt8) (h : c = 39 ∨ c = 34) : partF m (c :: r) = quoF c (quotedF c r) (c :: r) := by
  rw [partF.eq_def]
  rcases h with rfl | rfl
  · rfl
  · rfl
theorem partF_open (m : Nat) (r : List UInt8) : partF (m + 1) (40 :: r) = openF (partF m) r := by rw [partF.eq_def]; rfl
theorem partF_shut (r : List UInt8) : partF 0 (40 :: r) = wordF (40 :: r) := by rw [partF.eq_def]; rfl
theorem partF_word (m : Nat) {c : UInt8} (r : List UInt8) (h1 : ¬ (c = 45 ∨ isDigit c = true)) (h2 : ¬ (c = 120 ∨ c = 35)) (h3 : ¬ (c = 39 ∨ c = 34)) (h4 : c ≠ 40) : partF m (c :: r) = wordF (c :: r) := by
  rw [partF.eq_def]; simp only [if_neg h1, if_neg h2, if_neg h3, if_neg h4]
theorem itemsF_eq (pf : List UInt8 → Res Pt) (k : Nat) (s : List UInt8) : itemsF pf k s = match pf s with
    | .bad n => .bad n
    | .ok p (41 :: r) => .ok [p] r
    | .ok p (32 :: r) => (match k with
      | 0 => .bad (r.length + 1)
      | k + 1 => match itemsF pf k r with
        | .ok l r2 => .ok (p :: l) r2
        | .bad n => .bad n)
    | .ok _ r => .bad r.length := by rw [itemsF.eq_def]
end Go.Proofs.YtcgphlilijeifaaDoor.L
end
section
/-
  A part's text, with a blank, a bracket or nothing behind it, is read as that part.
-/
namespace Go.Proofs.YtcgphlilijeifaaDoor.L
open V (Pt)

/-- Nothing behind, or a blank, or a bracket. -/
def Stop (r : List UInt8) : Prop := ∀ c t, r = c :: t → c = 32 ∨ c = 41
theorem Stop.nil : Stop [] := fun c t h => by cases h
theorem Stop.blank (t : List UInt8) : Stop (32 :: t) := fun c t h => by injection h with h _; exact .inl h.symm
theorem Stop.shut (t : List UInt8) : Stop (41 :: t) := fun c t h => by injection h with h _; exact .inr h.symm
theorem Stop.no {r : List UInt8} (h : Stop r) {f : UInt8 → Bool} (h1 : f 32 = false) (h2 : f 41 = false) : ∀ c t, r = c :: t → f c = false := fun c t e => by
  rcases h c t e with rfl | rfl
  · exact h1
  · exact h2
theorem while_stop {f : UInt8 → Bool} {l r : List UInt8} (h : l.all f = true) (hr : ∀ c t, r = c :: t → f c = false) : (l ++ r).takeWhile f = l ∧ (l ++ r).dropWhile f = r := by
  induction l with
  | nil =>
    cases r with
    | nil => simp
    | cons c t => simp [hr c t rfl]
  | cons c l ih =>
    simp only [List.all_cons, Bool.and_eq_true] at h
    obtain ⟨h1, h2⟩ := ih h.2
    simp [h.1, h1, h2]
theorem hexC_isHex {n : Nat} (h : n < 16) : isHex (hexC n) = true := by unfold isHex; rw [unhex_hexC h]; rfl
theorem hexL_nil : hexL [] = [] := rfl
theorem hexL_cons (c : UInt8) (s : List UInt8) : hexL (c :: s) = hexC (c.toNat / 16) :: hexC (c.toNat % 16) :: hexL s := by simp [hexL, hex2]
theorem hexL_all (s : List UInt8) : (hexL s).all isHex = true := by
  induction s with
  | nil => rfl
  | cons c s ih =>
    have := c.toNat_lt
    rw [hexL_cons, List.all_cons, List.all_cons, ih, hexC_isHex (by omega), hexC_isHex (by omega)]; rfl
theorem hexL_length (s : List UInt8) : (hexL s).length = 2 * s.length := by
  induction s with
  | nil => rfl
  | cons c s ih => rw [hexL_cons, List.length_cons, List.length_cons, ih, List.length_cons]; omega
theorem bytesH_hexL (s : List UInt8) : bytesH (hexL s) = s := by
  induction s with
  | nil => rfl
  | cons c s ih =>
    have := c.toNat_lt
    rw [hexL_cons, bytesH, ih, unhex_hexC (by omega), unhex_hexC (by omega)]
    simp only [Option.getD_some]
    rw [byte2_hex]
theorem escL_cons (q c : UInt8) (s : List UInt8) : escL q (c :: s) = escB q c ++ escL q s := by simp [escL]
theorem quotedF_close (q : UInt8) (r : List UInt8) : quotedF q (q :: r) = some ([], r) := by rw [quotedF.eq_def]; simp
theorem quotedF_lit {q c : UInt8} (h1 : c ≠ q) (h2 : plainB c = true) (h3 : c ≠ 92) (r : List UInt8) : quotedF q (c :: r) = (quotedF q r).map fun x => (c :: x.1, x.2) := by
  rw [quotedF.eq_def]; simp [h1, h2, h3]
theorem p92 : plainB 92 = true := by decide
theorem quotedF_esc2 {q d : UInt8} (h1 : (92 : UInt8) ≠ q) (h2 : d = q ∨ d = 92) (r : List UInt8) : quotedF q (92 :: d :: r) = (quotedF q r).map fun x => (d :: x.1, x.2) := by
  rw [quotedF.eq_def]; simp [h1, h2, p92]
theorem quotedF_hex {q a b : UInt8} {x y : Nat} (h1 : (92 : UInt8) ≠ q) (h2 : ¬ ((120 : UInt8) = q ∨ (120 : UInt8) = 92)) (ha : unhex a = some x) (hb : unhex b = some y) (hp : plainB (byte2 x y) = false) (r : List UInt8) :
    quotedF q (92 :: 120 :: a :: b :: r) = (quotedF q r).map fun z => (byte2 x y :: z.1, z.2) := by
  rw [quotedF.eq_def]; simp only [h1, h2, p92, ha, hb, hp]; simp
theorem quotedF_esc {q : UInt8} (hq : q = 39 ∨ q = 34) (s r : List UInt8) : quotedF q (escL q s ++ q :: r) = some (s, r) := by
  have h92 : (92 : UInt8) ≠ q := by rcases hq with rfl | rfl <;> decide
  have h120 : ¬ ((120 : UInt8) = q ∨ (120 : UInt8) = 92) := by rcases hq with rfl | rfl <;> decide
  induction s with
  | nil => exact quotedF_close q r
  | cons c s ih =>
    rw [escL_cons]
    unfold escB
    by_cases h1 : c = q ∨ c = 92
    · rw [if_pos h1]
      simp only [List.cons_append, List.nil_append]
      rw [quotedF_esc2 h92 h1, ih]
      rfl
    · rw [if_neg h1]
      simp only [not_or] at h1
      by_cases h2 : plainB c = true
      · rw [if_pos h2]
        simp only [List.cons_append, List.nil_append]
        rw [quotedF_lit h1.1 h2 h1.2, ih]
        rfl
      · have hlt := c.toNat_lt
        rw [if_neg h2]
        simp only [hex2, List.cons_append, List.nil_append]
        rw [quotedF_hex h92 h120 (unhex_hexC (by omega)) (unhex_hexC (by omega)) (by rw [byte2_hex]; simpa using h2), ih, byte2_hex]
        rfl
theorem ba_of (b : ByteArray) : (⟨b.toList.toArray⟩ : ByteArray) = b := V.ba_same (by rw [Lib.toList_data])

/-- What a part that may be has beside its own fields: nothing. -/
theorem canonP {p : Pt} (h : V.mayB p = true) : p.kind ≤ 7 ∧ (p.kind ≠ 1 → p.yes = false) ∧ (p.kind ≠ 2 → p.neg = false ∧ p.mag = ⟨#[]⟩) ∧ (p.kind ≠ 7 → p.items = []) ∧ (p.kind = 0 ∨ p.kind = 1 ∨ p.kind = 2 ∨ p.kind = 7 → p.raw = ⟨#[]⟩) ∧
    (p.kind = 2 → chk p.neg p.mag.toList = 0) ∧ (p.kind = 4 → p.raw.size = 16) ∧ (p.kind = 7 → p.items.length ≤ 1024) := by
  have h1 := V.mayB_ok h
  unfold V.okOne at h1
  simp only [Bool.and_eq_true, decide_eq_true_eq] at h1
  obtain ⟨⟨⟨⟨h0, h2⟩, h3⟩, h4⟩, h5⟩ := h1
  have nil : ∀ b : ByteArray, b.toList.isEmpty = true → b = ⟨#[]⟩ := fun b hb => V.ba_same (by rw [List.isEmpty_iff.1 hb, Lib.toList_data])
  refine ⟨h0, fun k => ?_, fun k => ?_, fun k => ?_, fun k => ?_, fun k => ?_, fun k => ?_, fun k => ?_⟩
  · simpa [k] using h2
  · have : p.neg = false ∧ p.mag.toList = [] := by simpa [k] using h3
    exact ⟨this.1, nil _ (by rw [this.2]; rfl)⟩
  · have : (p.kind == 7) = false := by simpa using k
    rw [this, Bool.false_or, List.isEmpty_iff] at h4
    exact h4
  · refine nil _ ?_
    rcases k with k | k | k | k <;> simp [k] at h5 ⊢
    · exact h5
    · exact h5
    · exact h5.1
    · exact h5.1
  · simp [k] at h5
    exact h5.2
  · simpa [k] using h5
  · simp [k] at h5
    exact h5.2

theorem textP_head {p : Pt} (h : V.mayB p = true) : ∃ c t, textP p = c :: t ∧ c ≠ 41 := by
  rw [textP_eq]
  split
  · exact ⟨_, _, rfl, by decide⟩
  split
  · split
    · exact ⟨_, _, rfl, by decide⟩
    · exact ⟨_, _, rfl, by decide⟩
  split
  · rename_i hk
    unfold digitsV
    split
    · exact ⟨_, _, rfl, by decide⟩
    · rename_i hm
      cases hb : p.neg with
      | true => exact ⟨_, _, rfl, by decide⟩
      | false =>
        simp only [Bool.false_eq_true, if_false, List.nil_append]
        obtain ⟨_, _, h3⟩ := chk_zero_iff.1 ((canonP h).2.2.2.2.2.1 hk)
        obtain ⟨c, t, hc, _⟩ := dec_head (nv p.mag.toList) (fun e => hm (nv_zero h3 e))
        have := dec_digits (nv p.mag.toList)
        rw [hc, List.all_cons, Bool.and_eq_true] at this
        exact ⟨c, t, hc, by rintro rfl; exact absurd this.1 (by decide)⟩
  split
  · exact ⟨_, _, rfl, by decide⟩
  · unfold rawL
    split
    · exact ⟨_, _, rfl, by decide⟩
    split
    · exact ⟨_, _, rfl, by decide⟩
    split
    · exact ⟨_, _, rfl, by decide⟩
    · exact ⟨_, _, rfl, by decide⟩

/-- The digits of a number, read. -/
theorem num_read {b : Bool} {m : List UInt8} (h : chk b m = 0) (k : Nat) {r : List UInt8} (hr : Stop r) : partF k (digitsV b m ++ r) = .ok (.mk 2 false b ⟨m.toArray⟩ ⟨#[]⟩ []) r := by
  obtain ⟨h1, h2, h3⟩ := parse_print h
  obtain ⟨hg, _⟩ := parseE_zero h1
  have hd := good_digits hg
  have hns := hr.no (f := isDigit) (by decide) (by decide)
  obtain ⟨c, t, hct, hc, ht⟩ : ∃ c t, digitsV b m = c :: t ∧ (c = 45 ∨ isDigit c = true) ∧ t.all isDigit = true := by
    cases hv : digitsV b m with
    | nil =>
      rw [hv] at hg
      exact absurd hg (by decide)
    | cons c t =>
      refine ⟨c, t, rfl, ?_⟩
      rw [hv] at hd
      by_cases hn : neg (c :: t) = true
      · have e : c = 45 := by simpa [neg] using hn
        have : ds (c :: t) = t := by unfold ds; rw [if_pos hn]; rfl
        rw [this] at hd
        exact ⟨.inl e, hd⟩
      · have : ds (c :: t) = c :: t := by unfold ds; rw [if_neg hn]
        rw [this, List.all_cons, Bool.and_eq_true] at hd
        exact ⟨.inr hd.1, hd.2⟩
  obtain ⟨w1, w2⟩ := while_stop ht hns
  rw [hct, List.cons_append, partF_num k _ hc]
  unfold numF
  rw [w1, w2, ← hct, h1, h2, h3]
  rfl
end Go.Proofs.YtcgphlilijeifaaDoor.L
end
section
/-
  T1: a part's text is read as the part.
-/
namespace Go.Proofs.YtcgphlilijeifaaDoor.L
open V (Pt)

theorem hex_read (k : Nat) (s r : List UInt8) (hr : Stop r) : partF k (120 :: (hexL s ++ r)) = .ok (mkP 3 false s) r := by
  obtain ⟨w1, w2⟩ := while_stop (hexL_all s) (hr.no (f := isHex) (by decide) (by decide))
  rw [partF_dig k _ (.inl rfl), w1, w2]
  unfold digF
  rw [if_neg (by rw [hexL_length]; simp), bytesH_hexL]
  rfl
theorem id_read (k : Nat) (s r : List UInt8) (h : s.length = 16) (hr : Stop r) : partF k (35 :: (hexL s ++ r)) = .ok (mkP 4 false s) r := by
  obtain ⟨w1, w2⟩ := while_stop (hexL_all s) (hr.no (f := isHex) (by decide) (by decide))
  rw [partF_dig k _ (.inr rfl), w1, w2]
  unfold digF
  rw [if_neg (by rw [hexL_length, h]; simp), bytesH_hexL]
  rfl
theorem name_read (k : Nat) (s r : List UInt8) : partF k (39 :: (escL 39 s ++ 39 :: r)) = .ok (mkP 5 false s) r := by
  rw [partF_quo k _ (.inl rfl), quotedF_esc (.inl rfl)]; rfl
theorem text_read (k : Nat) (s r : List UInt8) : partF k (34 :: (escL 34 s ++ 34 :: r)) = .ok (mkP 6 false s) r := by
  rw [partF_quo k _ (.inr rfl), quotedF_esc (.inr rfl)]; rfl
theorem word_read (k : Nat) (r : List UInt8) : partF k (nullT ++ r) = .ok (mkP 0 false []) r ∧ partF k (yesT ++ r) = .ok (mkP 1 true []) r ∧ partF k (noT ++ r) = .ok (mkP 1 false []) r := by
  refine ⟨?_, ?_, ?_⟩
  · show partF k (110 :: 117 :: 108 :: 108 :: r) = _
    rw [partF_word k _ (by decide) (by decide) (by decide) (by decide)]
    simp [wordF, nullT, List.isPrefixOf]
  · show partF k (121 :: 101 :: 115 :: r) = _
    rw [partF_word k _ (by decide) (by decide) (by decide) (by decide)]
    simp [wordF, nullT, yesT, List.isPrefixOf]
  · show partF k (110 :: 111 :: r) = _
    rw [partF_word k _ (by decide) (by decide) (by decide) (by decide)]
    simp [wordF, nullT, yesT, noT, List.isPrefixOf]
theorem items_read (pf : List UInt8 → Res Pt) (p : Pt) (l : List Pt) (h : ∀ q ∈ p :: l, ∀ r, Stop r → pf (textP q ++ r) = .ok q r) (k : Nat) (hk : l.length ≤ k) (r : List UInt8) : itemsF pf k (textI (p :: l) ++ 41 :: r) = .ok (p :: l) r := by
  induction l generalizing p k with
  | nil =>
    rw [textI_one, itemsF_eq, h p (List.mem_cons_self ..) _ (Stop.shut r)]
    rfl
  | cons q l ih =>
    obtain ⟨k, rfl⟩ : ∃ j, k = j + 1 := ⟨k - 1, by simp at hk; omega⟩
    rw [textI_cons, List.append_assoc, List.cons_append, itemsF_eq, h p (List.mem_cons_self ..) _ (Stop.blank _)]
    simp only
    rw [ih q (fun x hx => h x (List.mem_cons_of_mem _ hx)) k (by simp at hk; omega)]
theorem tuple_read (m : Nat) (l : List Pt) (h : ∀ q ∈ l, ∀ r, Stop r → partF m (textP q ++ r) = .ok q r) (hm : ∀ q ∈ l, V.mayB q = true) (hl : l.length ≤ 1024) (r : List UInt8) :
    partF (m + 1) (40 :: (textI l ++ 41 :: r)) = .ok (.mk 7 false false ⟨#[]⟩ ⟨#[]⟩ l) r := by
  rw [partF_open]
  unfold openF
  cases l with
  | nil => simp [textI_nil]
  | cons p l =>
    have hr := items_read (partF m) p l h 1023 (by simp at hl; omega) r
    obtain ⟨c, t, hc, hne⟩ := textP_head (hm p (List.mem_cons_self ..))
    have hh : ∃ u, textI (p :: l) ++ 41 :: r = c :: u := by
      cases l with
      | nil => rw [textI_one, hc]; exact ⟨_, rfl⟩
      | cons q l => rw [textI_cons, hc]; exact ⟨_, rfl⟩
    obtain ⟨u, hu⟩ := hh
    rw [hr, hu, if_neg (by simpa using hne)]
/-- T1. -/
theorem part_read (p : Pt) : ∀ m, V.mayB p = true → V.depthP p ≤ m → ∀ r, Stop r → partF m (textP p ++ r) = .ok p r := by
  induction p using Pt.ind with
  | h p ih =>
  intro m hm hd r hr
  obtain ⟨h0, h1, h2, h3, h4, h5, h6, h7⟩ := canonP hm
  have he := Pt.eta p
  by_cases k0 : p.kind = 0
  · rw [textP_eq, if_pos k0, (word_read m r).1, he, k0, h1 (by omega), (h2 (by omega)).1, (h2 (by omega)).2, h4 (by omega), h3 (by omega)]
    rfl
  by_cases k1 : p.kind = 1
  · rw [textP_eq, if_neg k0, if_pos k1]
    cases hy : p.yes with
    | true =>
      rw [if_pos rfl, (word_read m r).2.1, he, k1, hy, (h2 (by omega)).1, (h2 (by omega)).2, h4 (by omega), h3 (by omega)]
      rfl
    | false =>
      rw [if_neg (by simp), (word_read m r).2.2, he, k1, hy, (h2 (by omega)).1, (h2 (by omega)).2, h4 (by omega), h3 (by omega)]
      rfl
  by_cases k2 : p.kind = 2
  · rw [textP_eq, if_neg k0, if_neg k1, if_pos k2, num_read (h5 k2) m hr, ba_of]
    conv => rhs; rw [he]
    rw [k2, h1 (by omega), h4 (by omega), h3 (by omega)]
  by_cases k7 : p.kind = 7
  · have hdd : V.depthP p = V.depthL p.items + 1 := by rw [V.depthP_eq, if_pos k7]
    obtain ⟨j, rfl⟩ : ∃ j, m = j + 1 := ⟨m - 1, by omega⟩
    rw [textP_tuple k7, List.cons_append, List.append_assoc, List.singleton_append]
    rw [tuple_read j p.items (fun q hq r hr => ih q hq j (V.mayB_item hm hq) (by have := (V.depthL_le p.items j).1 (by omega) q hq; exact this) r hr) (fun q hq => V.mayB_item hm hq) (h7 k7) r]
    conv => rhs; rw [he]
    rw [k7, h1 (by omega), (h2 (by omega)).1, (h2 (by omega)).2, h4 (by omega)]
  · have hraw : ∀ k, p.kind = k → mkP k false p.raw.toList = p := fun k hk => by
      conv => rhs; rw [he]
      rw [hk, h1 k1, (h2 k2).1, (h2 k2).2, h3 k7]
      unfold mkP
      rw [ba_of]
    rw [textP_eq, if_neg k0, if_neg k1, if_neg k2, if_neg k7]
    unfold rawL
    by_cases k3 : p.kind = 3
    · rw [if_pos k3, List.cons_append, hex_read m _ r hr, hraw 3 k3]
    by_cases k4 : p.kind = 4
    · rw [if_neg k3, if_pos k4, List.cons_append, id_read m _ r (by rw [Lib.toList_data, ← Lib.size_eq]; exact h6 k4) hr, hraw 4 k4]
    by_cases k5 : p.kind = 5
    · rw [if_neg k3, if_neg k4, if_pos k5, List.cons_append, List.append_assoc, List.singleton_append, name_read, hraw 5 k5]
    · rw [if_neg k3, if_neg k4, if_neg k5, List.cons_append, List.append_assoc, List.singleton_append, text_read, hraw 6 (by omega)]
end Go.Proofs.YtcgphlilijeifaaDoor.L
end
section
/-
  T2: what is read has just that text, and may be.
-/
namespace Go.Proofs.YtcgphlilijeifaaDoor.L
open V (Pt)

theorem toList_mk (l : List UInt8) : (⟨l.toArray⟩ : ByteArray).toList = l := by rw [Lib.toList_data]
theorem size_mk (l : List UInt8) : (⟨l.toArray⟩ : ByteArray).size = l.length := by rw [Lib.size_eq]
theorem chk_eq (b : Bool) (m : List UInt8) : V.chk b m = chk b m := rfl
theorem hexL_bytesH : ∀ (n : Nat) (t : List UInt8), t.length = 2 * n → t.all isHex = true → hexL (bytesH t) = t ∧ (bytesH t).length = n := by
  intro n
  induction n with
  | zero =>
    intro t h _
    have : t = [] := List.eq_nil_of_length_eq_zero (by omega)
    subst this
    exact ⟨rfl, rfl⟩
  | succ n ih =>
    intro t h hx
    match t, h, hx with
    | a :: b :: t, h, hx =>
      simp only [List.all_cons, Bool.and_eq_true] at hx
      obtain ⟨i1, i2⟩ := ih t (by simp at h; omega) hx.2.2
      obtain ⟨x, hxa⟩ := Option.isSome_iff_exists.1 hx.1
      obtain ⟨y, hyb⟩ := Option.isSome_iff_exists.1 hx.2.1
      obtain ⟨ex, lx⟩ := hexC_unhex hxa
      obtain ⟨ey, ly⟩ := hexC_unhex hyb
      have e : hexL [byte2 x y] = [a, b] := by
        have := hex2_byte2 lx ly
        simp only [hexL, List.flatMap_cons, List.flatMap_nil, List.append_nil, this, ex, ey]
      rw [bytesH, hxa, hyb]
      simp only [Option.getD_some]
      refine ⟨?_, by simp [i2]⟩
      have hc : hexL (byte2 x y :: bytesH t) = hexL [byte2 x y] ++ hexL (bytesH t) := by simp [hexL]
      rw [hc, e, i1]; rfl
    | [a], h, _ => simp at h; omega
theorem quotedF_back {q : UInt8} (hq : q = 39 ∨ q = 34) : ∀ (n : Nat) (r x r2 : List UInt8), r.length ≤ n → quotedF q r = some (x, r2) → r = escL q x ++ q :: r2 ∧ x.length + r2.length < r.length := by
  have h92 : (92 : UInt8) ≠ q := by rcases hq with rfl | rfl <;> decide
  have h120 : ¬ ((120 : UInt8) = q ∨ (120 : UInt8) = 92) := by rcases hq with rfl | rfl <;> decide
  intro n
  induction n with
  | zero =>
    intro r x r2 hn h
    have : r = [] := List.eq_nil_of_length_eq_zero (by omega)
    subst this
    rw [quotedF.eq_def] at h; simp at h
  | succ n ih =>
    intro r x r2 hn h
    match r with
    | [] => rw [quotedF.eq_def] at h; simp at h
    | c :: r =>
      by_cases h1 : c = q
      · subst h1
        rw [quotedF_close] at h
        simp only [Option.some.injEq, Prod.mk.injEq] at h
        obtain ⟨rfl, rfl⟩ := h
        exact ⟨rfl, by simp⟩
      by_cases h2 : plainB c = true
      · by_cases h3 : c = 92
        · subst h3
          match r with
          | [] => rw [quotedF.eq_def] at h; simp [h1, p92] at h
          | d :: r =>
            by_cases h4 : d = q ∨ d = 92
            · rw [quotedF_esc2 h92 h4, Option.map_eq_some_iff] at h
              obtain ⟨⟨y, r3⟩, hy, he⟩ := h
              simp only [Prod.mk.injEq] at he
              obtain ⟨rfl, rfl⟩ := he
              obtain ⟨i1, i2⟩ := ih r y r3 (by simp at hn; omega) hy
              refine ⟨?_, by simp; omega⟩
              rw [escL_cons]
              unfold escB
              rw [if_pos h4, i1]
              rfl
            · by_cases h5 : d = 120
              · subst h5
                have h6 : ¬ (120 : UInt8) = q := fun e => h4 (.inl e)
                match r with
                | [] => rw [quotedF.eq_def] at h; simp [h1, p92, h6] at h
                | [a] => rw [quotedF.eq_def] at h; simp [h1, p92, h6] at h
                | a :: b :: r =>
                  cases ha : unhex a with
                  | none => rw [quotedF.eq_def] at h; simp [h1, p92, h6, ha] at h
                  | some u =>
                    cases hb : unhex b with
                    | none => rw [quotedF.eq_def] at h; simp [h1, p92, h6, ha, hb] at h
                    | some v =>
                      by_cases hp : plainB (byte2 u v) = true
                      · rw [quotedF.eq_def] at h; simp [h1, p92, h6, ha, hb, hp] at h
                      · rw [quotedF_hex h92 h120 ha hb (by simpa using hp), Option.map_eq_some_iff] at h
                        obtain ⟨⟨y, r3⟩, hy, he⟩ := h
                        simp only [Prod.mk.injEq] at he
                        obtain ⟨rfl, rfl⟩ := he
                        obtain ⟨i1, i2⟩ := ih r y r3 (by simp at hn; omega) hy
                        refine ⟨?_, by simp; omega⟩
                        obtain ⟨eu, lu⟩ := hexC_unhex ha
                        obtain ⟨ev, lv⟩ := hexC_unhex hb
                        have hne : ¬ (byte2 u v = q ∨ byte2 u v = 92) := by
                          rintro (e | e)
                          · rw [e] at hp; rcases hq with rfl | rfl <;> exact hp (by decide)
                          · rw [e] at hp; exact hp p92
                        rw [escL_cons]
                        unfold escB
                        rw [if_neg hne, if_neg hp, hex2_byte2 lu lv, eu, ev, i1]
                        rfl
              · rw [quotedF.eq_def] at h; simp [h1, p92, h4, h5] at h
        · rw [quotedF_lit h1 h2 h3, Option.map_eq_some_iff] at h
          obtain ⟨⟨y, r3⟩, hy, he⟩ := h
          simp only [Prod.mk.injEq] at he
          obtain ⟨rfl, rfl⟩ := he
          obtain ⟨i1, i2⟩ := ih r y r3 (by simp at hn; omega) hy
          refine ⟨?_, by simp; omega⟩
          rw [escL_cons]
          unfold escB
          rw [if_neg (by simp [h1, h3]), if_pos h2, i1]
          rfl
      · rw [quotedF.eq_def] at h; simp [h1, h2] at h

theorem may_raw {k : Nat} {y : Bool} {r : List UInt8} (h : (k = 0 ∧ r = []) ∨ (k = 1 ∧ r = []) ∨ ((k = 3 ∨ k = 5 ∨ k = 6) ∧ r.length ≤ 65536) ∨ (k = 4 ∧ r.length = 16)) (hy : k ≠ 1 → y = false) : V.mayB (mkP k y r) = true := by
  have e : (⟨r.toArray⟩ : ByteArray).size = r.length := size_mk r
  have e2 : (⟨#[]⟩ : ByteArray).toList = [] := by rw [Lib.toList_data]
  have hk7 : ¬ k = 7 := by omega
  rw [V.mayB_eq]
  show (V.okOne (mkP k y r) && (!(k == 7) || _)) = true
  have : (k == 7) = false := by simpa using hk7
  rw [this]
  simp only [Bool.not_false, Bool.true_or, Bool.and_true]
  unfold V.okOne mkP
  simp only [Pt.kind, Pt.yes, Pt.neg, Pt.mag, Pt.items, Pt.raw, e, e2, toList_mk]
  rcases h with ⟨rfl, rfl⟩ | ⟨rfl, rfl⟩ | ⟨rfl | rfl | rfl, h⟩ | ⟨rfl, h⟩
  · rw [hy (by decide)]; decide
  · cases y <;> decide
  · rw [hy (by decide)]; simp [h]
  · rw [hy (by decide)]; simp [h]
  · rw [hy (by decide)]; simp [h]
  · rw [hy (by decide)]; simp [h]
theorem may_num {b : Bool} {m : List UInt8} (h : chk b m = 0) : V.mayB (.mk 2 false b ⟨m.toArray⟩ ⟨#[]⟩ []) = true := by
  have e2 : (⟨#[]⟩ : ByteArray).toList = [] := by rw [Lib.toList_data]
  rw [V.mayB_eq]
  unfold V.okOne
  simp only [Pt.kind, Pt.yes, Pt.neg, Pt.mag, Pt.items, Pt.raw, toList_mk, e2, chk_eq, h]
  simp
theorem may_tuple {l : List Pt} (h : l.length ≤ 1024) (ha : ∀ q ∈ l, V.mayB q = true) : V.mayB (.mk 7 false false ⟨#[]⟩ ⟨#[]⟩ l) = true := by
  have e2 : (⟨#[]⟩ : ByteArray).toList = [] := by rw [Lib.toList_data]
  rw [V.mayB_eq]
  unfold V.okOne
  simp only [Pt.kind, Pt.yes, Pt.neg, Pt.mag, Pt.items, Pt.raw, e2]
  simpa [h] using ha
theorem depth_not {p : Pt} (h : p.kind ≠ 7) (m : Nat) : V.depthP p ≤ m := by rw [V.depthP_eq, if_neg h]; exact Nat.zero_le _

/-- What reading has come to. -/
def Back (m : Nat) (s : List UInt8) (p : Pt) (r : List UInt8) : Prop := s = textP p ++ r ∧ V.depthP p ≤ m ∧ (s.length ≤ 65536 → V.mayB p = true)
theorem num_back {c : UInt8} {t : List UInt8} {p : Pt} {r : List UInt8} (m : Nat) (_hc : c = 45 ∨ isDigit c = true) (h : numF (c :: t.takeWhile isDigit) (t.dropWhile isDigit) (c :: t) = .ok p r) : Back m (c :: t) p r := by
  unfold numF at h
  split at h
  · rename_i hz
    injection h with h1 h2
    obtain ⟨k1, k2⟩ := print_parse hz
    subst h1 h2
    refine ⟨?_, by refine depth_not ?_ m; show (2 : Nat) ≠ 7; decide, fun _ => may_num k1⟩
    rw [textP_eq]
    show c :: t = digitsV (neg (c :: t.takeWhile isDigit)) (⟨(magN (dv (ds (c :: t.takeWhile isDigit)))).toArray⟩ : ByteArray).toList ++ _
    rw [toList_mk, k2, List.cons_append, List.takeWhile_append_dropWhile]
  · cases h
theorem while_all (f : UInt8 → Bool) (t : List UInt8) : (t.takeWhile f).all f = true := List.all_takeWhile
theorem dig_back {c : UInt8} {t : List UInt8} {p : Pt} {r : List UInt8} (m : Nat) (hc : c = 120 ∨ c = 35) (h : digF c (t.takeWhile isHex) (t.dropWhile isHex) (c :: t) = .ok p r) : Back m (c :: t) p r := by
  unfold digF at h
  split at h
  · cases h
  · rename_i hn
    simp only [not_or, not_and, ne_eq, Classical.not_not] at hn
    injection h with h1 h2
    obtain ⟨k1, k2⟩ := hexL_bytesH ((t.takeWhile isHex).length / 2) _ (by omega) (while_all isHex t)
    have hle : (t.takeWhile isHex).length ≤ t.length := (List.takeWhile_sublist _).length_le
    subst h2
    rcases hc with rfl | rfl
    · have h1 : mkP 3 false (bytesH (t.takeWhile isHex)) = p := h1
      subst h1
      refine ⟨?_, by refine depth_not ?_ m; show (3 : Nat) ≠ 7; decide, fun hl => may_raw (.inr (.inr (.inl ⟨.inl rfl, by simp at hl; omega⟩))) (fun _ => rfl)⟩
      rw [textP_eq]
      show 120 :: t = 120 :: hexL (⟨(bytesH (t.takeWhile isHex)).toArray⟩ : ByteArray).toList ++ _
      rw [toList_mk, k1, List.cons_append, List.takeWhile_append_dropWhile]
    · have h1 : mkP 4 false (bytesH (t.takeWhile isHex)) = p := h1
      subst h1
      have h32 := hn.1 rfl
      refine ⟨?_, by refine depth_not ?_ m; show (4 : Nat) ≠ 7; decide, fun hl => may_raw (.inr (.inr (.inr ⟨rfl, by omega⟩))) (fun _ => rfl)⟩
      rw [textP_eq]
      show 35 :: t = 35 :: hexL (⟨(bytesH (t.takeWhile isHex)).toArray⟩ : ByteArray).toList ++ _
      rw [toList_mk, k1, List.cons_append, List.takeWhile_append_dropWhile]
theorem quo_back {c : UInt8} {t : List UInt8} {p : Pt} {r : List UInt8} (m : Nat) (hc : c = 39 ∨ c = 34) (h : quoF c (quotedF c t) (c :: t) = .ok p r) : Back m (c :: t) p r := by
  unfold quoF at h
  split at h
  · rename_i x r2 hq
    injection h with h1 h2
    subst h2
    obtain ⟨k1, k2⟩ := quotedF_back hc t.length t x r2 (Nat.le_refl _) hq
    rcases hc with rfl | rfl
    · have h1 : mkP 5 false x = p := h1
      subst h1
      refine ⟨?_, by refine depth_not ?_ m; show (5 : Nat) ≠ 7; decide, fun hl => may_raw (.inr (.inr (.inl ⟨.inr (.inl rfl), by simp at hl; omega⟩))) (fun _ => rfl)⟩
      rw [textP_eq]
      show 39 :: t = 39 :: (escL 39 (⟨x.toArray⟩ : ByteArray).toList ++ [39]) ++ _
      rw [toList_mk, k1]
      simp
    · have h1 : mkP 6 false x = p := h1
      subst h1
      refine ⟨?_, by refine depth_not ?_ m; show (6 : Nat) ≠ 7; decide, fun hl => may_raw (.inr (.inr (.inl ⟨.inr (.inr rfl), by simp at hl; omega⟩))) (fun _ => rfl)⟩
      rw [textP_eq]
      show 34 :: t = 34 :: (escL 34 (⟨x.toArray⟩ : ByteArray).toList ++ [34]) ++ _
      rw [toList_mk, k1]
      simp
  · cases h
theorem prefix_drop {w s : List UInt8} (h : w.isPrefixOf s = true) : s = w ++ s.drop w.length := by
  obtain ⟨t, rfl⟩ := List.isPrefixOf_iff_prefix.1 h
  simp
theorem word_back {s : List UInt8} {p : Pt} {r : List UInt8} (m : Nat) (h : wordF s = .ok p r) : Back m s p r := by
  unfold wordF at h
  split at h
  · rename_i hp
    injection h with h1 h2
    subst h1 h2
    exact ⟨by rw [textP_eq]; exact prefix_drop hp, depth_not (by decide) m, fun _ => may_raw (.inl ⟨rfl, rfl⟩) (fun _ => rfl)⟩
  split at h
  · rename_i hp
    injection h with h1 h2
    subst h1 h2
    exact ⟨by rw [textP_eq]; exact prefix_drop hp, depth_not (by decide) m, fun _ => may_raw (.inr (.inl ⟨rfl, rfl⟩)) (fun h => absurd rfl h)⟩
  split at h
  · rename_i hp
    injection h with h1 h2
    subst h1 h2
    exact ⟨by rw [textP_eq]; exact prefix_drop hp, depth_not (by decide) m, fun _ => may_raw (.inr (.inl ⟨rfl, rfl⟩)) (fun h => absurd rfl h)⟩
  · cases h
theorem items_back {m : Nat} {pf : List UInt8 → Res Pt} (hpf : ∀ s p r, pf s = .ok p r → Back m s p r) : ∀ (k : Nat) (s : List UInt8) (l : List Pt) (r : List UInt8), itemsF pf k s = .ok l r →
    l ≠ [] ∧ l.length ≤ k + 1 ∧ s = textI l ++ 41 :: r ∧ (∀ q ∈ l, V.depthP q ≤ m) ∧ (s.length ≤ 65536 → ∀ q ∈ l, V.mayB q = true) := by
  intro k
  induction k with
  | zero =>
    intro s l r h
    rw [itemsF_eq] at h
    split at h
    · cases h
    · rename_i p r' hp
      injection h with h1 h2
      subst h1 h2
      obtain ⟨b1, b2, b3⟩ := hpf _ _ _ hp
      exact ⟨by simp, by simp, by rw [textI_one]; exact b1, by simpa using b2, by simpa using b3⟩
    · cases h
    · cases h
  | succ k ih =>
    intro s l r h
    rw [itemsF_eq] at h
    split at h
    · cases h
    · rename_i p r' hp
      injection h with h1 h2
      subst h1 h2
      obtain ⟨b1, b2, b3⟩ := hpf _ _ _ hp
      exact ⟨by simp, by simp, by rw [textI_one]; exact b1, by simpa using b2, by simpa using b3⟩
    · rename_i p r' hp
      simp only at h
      split at h
      · rename_i l2 r2 hi
        injection h with h1 h2
        subst h1 h2
        obtain ⟨b1, b2, b3⟩ := hpf _ _ _ hp
        obtain ⟨i1, i2, i3, i4, i5⟩ := ih _ _ _ hi
        refine ⟨by simp, by simp; omega, ?_, ?_, fun hl => ?_⟩
        · cases l2 with
          | nil => exact absurd rfl i1
          | cons q l2 => rw [textI_cons, b1, i3]; simp
        · intro q hq
          rcases List.mem_cons.1 hq with rfl | hq
          · exact b2
          · exact i4 q hq
        · intro q hq
          rcases List.mem_cons.1 hq with rfl | hq
          · exact b3 hl
          · have e := congrArg List.length b1
            simp at e
            exact i5 (by omega) q hq
      · cases h
    · cases h
/-- T2. -/
theorem part_back : ∀ (m : Nat) (s : List UInt8) (p : Pt) (r : List UInt8), partF m s = .ok p r → Back m s p r := by
  intro m
  induction m with
  | zero =>
    intro s p r h
    match s with
    | [] => rw [partF_nil] at h; cases h
    | c :: t =>
      by_cases h1 : c = 45 ∨ isDigit c = true
      · rw [partF_num _ _ h1] at h; exact num_back _ h1 h
      by_cases h2 : c = 120 ∨ c = 35
      · rw [partF_dig _ _ h2] at h; exact dig_back _ h2 h
      by_cases h3 : c = 39 ∨ c = 34
      · rw [partF_quo _ _ h3] at h; exact quo_back _ h3 h
      by_cases h4 : c = 40
      · subst h4; rw [partF_shut] at h; exact word_back _ h
      · rw [partF_word _ _ h1 h2 h3 h4] at h; exact word_back _ h
  | succ m ih =>
    intro s p r h
    match s with
    | [] => rw [partF_nil] at h; cases h
    | c :: t =>
      by_cases h1 : c = 45 ∨ isDigit c = true
      · rw [partF_num _ _ h1] at h; exact num_back _ h1 h
      by_cases h2 : c = 120 ∨ c = 35
      · rw [partF_dig _ _ h2] at h; exact dig_back _ h2 h
      by_cases h3 : c = 39 ∨ c = 34
      · rw [partF_quo _ _ h3] at h; exact quo_back _ h3 h
      by_cases h4 : c = 40
      · subst h4
        rw [partF_open] at h
        unfold openF at h
        split at h
        · rename_i hh
          injection h with e1 e2
          subst e1 e2
          refine ⟨?_, ?_, fun _ => may_tuple (by simp) (by simp)⟩
          · rw [textP_tuple rfl]
            cases t with
            | nil => simp at hh
            | cons d t =>
              obtain rfl : d = 41 := by simpa using hh
              simp [Pt.items, textI_nil]
          · rw [V.depthP_eq]; simp [Pt.kind, Pt.items, V.depthL_nil]
        · split at h
          · rename_i l r2 hi
            injection h with e1 e2
            subst e1 e2
            obtain ⟨i1, i2, i3, i4, i5⟩ := items_back ih _ _ _ _ hi
            refine ⟨?_, ?_, fun hl => may_tuple (by omega) (i5 (by simp at hl; omega))⟩
            · rw [textP_tuple rfl, i3]
              simp [Pt.items]
            · rw [V.depthP_eq]
              simp only [Pt.kind, Pt.items, if_true]
              have := (V.depthL_le l m).2 i4
              omega
          · cases h
      · rw [partF_word _ _ h1 h2 h3 h4] at h; exact word_back _ h
end Go.Proofs.YtcgphlilijeifaaDoor.L
end
