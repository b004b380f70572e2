import Derived.KernelRfl
import Derived.Test.YtcgphlilijeifaaDoorLitPrintsG0
import Derived.Test.YtcgphlilijeifaaDoorLitPrintsG3
import Derived.Test.YtcgphlilijeifaaDoorLitPrintsG1
/-
  The plain laws of numbers: their bytes stand as they do; there and back by bytes and by digits.
-/
namespace Go.Proofs.YtcgphlilijeifaaDoor

theorem cmp_pre (p a b : List UInt8) : cmp (p ++ a) (p ++ b) = cmp a b := by
  induction p with
  | nil => rfl
  | cons c r ih => simp [cmp, ih]
theorem cmp_head {c d : UInt8} (a b : List UInt8) (h : c.toNat < d.toNat) : cmp (c :: a) (d :: b) = -1 := by
  simp only [cmp]
  rw [if_pos (UInt8.lt_iff_toNat_lt.2 h)]
theorem cmp_len (a b x y : List UInt8) (hl : a.length = b.length) (hne : a ≠ b) : cmp (a ++ x) (b ++ y) = cmp a b :=
  cmp_append a b x y (fun e => hne (cmp_zero e)) (fun p => hne (p.eq_of_length hl)) (fun p => hne (p.eq_of_length hl.symm).symm)
theorem cmp_flip (a b : List UInt8) (hl : a.length = b.length) : cmp (a.map (255 - ·)) (b.map (255 - ·)) = cmp b a := by
  induction a generalizing b with
  | nil => cases b with
    | nil => rfl
    | cons _ _ => simp at hl
  | cons c r ih => cases b with
    | nil => simp at hl
    | cons d q =>
      have hc := sub255n c
      have hd := sub255n d
      have hc2 := c.toNat_lt
      have hd2 := d.toNat_lt
      simp only [List.map_cons, cmp, UInt8.lt_iff_toNat_lt]
      rw [ih q (by simpa using hl), hc, hd]
      by_cases h1 : c.toNat < d.toNat
      · rw [if_neg (by omega), if_pos (by omega), if_neg (by omega), if_pos h1]
      · by_cases h2 : d.toNat < c.toNat
        · rw [if_pos (by omega), if_pos h2]
        · rw [if_neg (by omega), if_neg (by omega), if_neg h2, if_neg h1]
theorem u8n (n : Nat) (h : n < 256) : (UInt8.ofNat n).toNat = n := by rw [UInt8.toNat_ofNat']; omega

theorem head_true {a : List UInt8} (h : chk true a = 0) : ∃ c r, putBytes true a = c :: r ∧ c.toNat < 128 := by
  obtain ⟨h1, h2, _⟩ := chk_zero_iff.1 h
  have h3 : 0 < a.length := List.length_pos_iff.2 fun e => by simpa using h2 e
  unfold putBytes putHead
  by_cases hk : a.length ≤ 126
  · simp only [if_true, if_pos hk]
    exact ⟨_, _, rfl, by rw [u8n _ (by omega)]; omega⟩
  · simp only [if_true, if_neg hk]
    exact ⟨_, _, rfl, by decide⟩
theorem head_false {a : List UInt8} (h : chk false a = 0) : ∃ c r, putBytes false a = c :: r ∧ 128 ≤ c.toNat := by
  obtain ⟨h1, _, _⟩ := chk_zero_iff.1 h
  unfold putBytes putHead
  by_cases hk : a.length ≤ 126
  · simp only [Bool.false_eq_true, if_false, if_pos hk]
    exact ⟨_, _, rfl, by rw [u8n _ (by omega)]; omega⟩
  · simp only [Bool.false_eq_true, if_false, if_neg hk]
    exact ⟨_, _, rfl, by decide⟩
theorem plus_lt {a b : List UInt8} (x y : List UInt8) (ha : chk false a = 0) (hb : chk false b = 0) (h : a.length < b.length) : cmp (putBytes false a ++ x) (putBytes false b ++ y) = -1 := by
  have h1 := (chk_zero_iff.1 ha).1
  have h2 := (chk_zero_iff.1 hb).1
  unfold putBytes putHead
  by_cases hk : a.length ≤ 126 <;> by_cases hj : b.length ≤ 126 <;> simp only [Bool.false_eq_true, if_false, hk, hj, if_true, List.cons_append]
  · exact cmp_head _ _ (by rw [u8n _ (by omega), u8n _ (by omega)]; omega)
  · exact cmp_head _ _ (by rw [u8n _ (by omega)]; have : (255 : UInt8).toNat = 255 := rfl; omega)
  · omega
  · rw [show (255 : UInt8) :: UInt8.ofNat a.length :: ([] ++ a ++ x) = [255] ++ (UInt8.ofNat a.length :: ([] ++ a ++ x)) from rfl, show (255 : UInt8) :: UInt8.ofNat b.length :: ([] ++ b ++ y) = [255] ++ (UInt8.ofNat b.length :: ([] ++ b ++ y)) from rfl, cmp_pre]
    exact cmp_head _ _ (by rw [u8n _ (by omega), u8n _ (by omega)]; omega)
theorem minus_lt {a b : List UInt8} (x y : List UInt8) (ha : chk true a = 0) (hb : chk true b = 0) (h : b.length < a.length) : cmp (putBytes true a ++ x) (putBytes true b ++ y) = -1 := by
  have h1 := (chk_zero_iff.1 ha).1
  have h2 := (chk_zero_iff.1 hb).1
  have h3 : 0 < b.length := List.length_pos_iff.2 fun e => by simpa using (chk_zero_iff.1 hb).2.1 e
  unfold putBytes putHead
  by_cases hk : a.length ≤ 126 <;> by_cases hj : b.length ≤ 126 <;> simp only [hk, hj, if_true, if_false, List.cons_append]
  · exact cmp_head _ _ (by rw [u8n _ (by omega), u8n _ (by omega)]; omega)
  · omega
  · exact cmp_head _ _ (by rw [u8n _ (by omega)]; have : (1 : UInt8).toNat = 1 := rfl; omega)
  · rw [show (1 : UInt8) :: UInt8.ofNat (255 - a.length) :: ([] ++ a.map (255 - ·) ++ x) = [1] ++ (UInt8.ofNat (255 - a.length) :: ([] ++ a.map (255 - ·) ++ x)) from rfl, show (1 : UInt8) :: UInt8.ofNat (255 - b.length) :: ([] ++ b.map (255 - ·) ++ y) = [1] ++ (UInt8.ofNat (255 - b.length) :: ([] ++ b.map (255 - ·) ++ y)) from rfl, cmp_pre]
    exact cmp_head _ _ (by rw [u8n _ (by omega), u8n _ (by omega)]; omega)
theorem swap_neg {a b : List UInt8} (h : cmp b a = -1) : cmp a b = 1 := by rw [cmp_swap b a, h]; rfl

/-- THE ORDER: the bytes of two numbers, whatever stands behind, stand as the numbers do. -/
theorem put_order {x y : Bool} {a b : List UInt8} (u v : List UInt8) (ha : chk x a = 0) (hb : chk y b = 0) (hne : ¬ (x = y ∧ a = b)) : cmp (putBytes x a ++ u) (putBytes y b ++ v) = ncmp x a y b := by
  cases x <;> cases y <;> simp only [ncmp, if_true, if_false, Bool.false_eq_true]
  · have hab : a ≠ b := fun e => hne ⟨rfl, e⟩
    unfold mcmp
    by_cases h1 : a.length < b.length
    · rw [if_pos h1, plus_lt u v ha hb h1]
    · by_cases h2 : b.length < a.length
      · rw [if_neg h1, if_pos h2]
        exact swap_neg (plus_lt v u hb ha h2)
      · have hl : a.length = b.length := by omega
        rw [if_neg h1, if_neg h2]
        unfold putBytes
        rw [hl, List.append_assoc, List.append_assoc, cmp_pre]
        exact cmp_len _ _ _ _ hl hab
  · obtain ⟨c, r, e1, h1⟩ := head_false ha
    obtain ⟨d, q, e2, h2⟩ := head_true hb
    rw [e1, e2]
    exact swap_neg (cmp_head _ _ (by omega))
  · obtain ⟨c, r, e1, h1⟩ := head_true ha
    obtain ⟨d, q, e2, h2⟩ := head_false hb
    rw [e1, e2]
    exact cmp_head _ _ (by omega)
  · have hab : a ≠ b := fun e => hne ⟨rfl, e⟩
    unfold mcmp
    by_cases h1 : b.length < a.length
    · rw [if_pos h1, minus_lt u v ha hb h1]
    · by_cases h2 : a.length < b.length
      · rw [if_neg h1, if_pos h2]
        exact swap_neg (minus_lt v u hb ha h2)
      · have hl : a.length = b.length := by omega
        rw [if_neg h1, if_neg h2]
        unfold putBytes
        rw [hl, List.append_assoc, List.append_assoc, cmp_pre]
        simp only [if_true]
        rw [cmp_len _ _ _ _ (by simpa using hl) (fun e => hab (by have h3 := cmp_flip a b hl; rw [e, cmp_self] at h3; exact (cmp_zero h3.symm).symm)), cmp_flip a b hl]

/-- There and back by bytes. -/
theorem at0 (pre r : List UInt8) (c : UInt8) : (pre ++ (c :: r))[pre.length]? = some c := by simp
theorem at1 (pre r : List UInt8) (c d : UInt8) : (pre ++ (c :: d :: r))[pre.length + 1]? = some d := by
  rw [List.getElem?_append_right (by omega)]
  simp
theorem sizeE_put {b : Bool} {m : List UInt8} (h : chk b m = 0) (pre r : List UInt8) : sizeE (pre ++ (putHead b m.length ++ r)) pre.length = .ok (m.length, b, pre.length + (putHead b m.length).length) := by
  obtain ⟨h1, h2, _⟩ := chk_zero_iff.1 h
  have e255 : (255 : UInt8).toNat = 255 := rfl
  have e1 : (1 : UInt8).toNat = 1 := rfl
  unfold sizeE putHead
  cases b
  · by_cases hk : m.length ≤ 126
    · have e := u8n (128 + m.length) (by omega)
      simp only [Bool.false_eq_true, if_false, if_pos hk, List.cons_append, List.nil_append, at0, e]
      rw [if_neg (by omega), if_pos (by omega)]
      simp
    · have e := u8n m.length (by omega)
      simp only [Bool.false_eq_true, if_false, if_neg hk, List.cons_append, List.nil_append, at0, at1, e, e255]
      rw [if_pos trivial, if_pos (by omega)]
      simp
  · have h3 : 0 < m.length := List.length_pos_iff.2 fun e => by simpa using h2 e
    by_cases hk : m.length ≤ 126
    · have e := u8n (128 - m.length) (by omega)
      simp only [if_true, if_pos hk, List.cons_append, List.nil_append, at0, e]
      rw [if_neg (by omega), if_neg (by omega), if_pos (by omega), show 128 - (128 - m.length) = m.length by omega]
      simp
    · have e := u8n (255 - m.length) (by omega)
      simp only [if_true, if_neg hk, List.cons_append, List.nil_append, at0, at1, e, e1]
      rw [if_neg (by omega), if_neg (by omega), if_neg (by omega), if_pos (by omega), show 255 - (255 - m.length) = m.length by omega]
      simp
theorem magE_put {b : Bool} {m : List UInt8} (h : m.head? ≠ some 0) (pre post : List UInt8) : magE (pre ++ (m.map (fl b) ++ post)) b pre.length m.length = .ok m := by
  cases m with
  | nil => rfl
  | cons c r =>
    have hc : c ≠ 0 := fun e => h (by simp [e])
    have h0 : (pre ++ ((c :: r).map (fl b) ++ post))[pre.length]? = some (fl b c) := by
      rw [List.getElem?_append_right (Nat.le_refl _)]; simp
    have hon := onE_first (l := pre ++ ((c :: r).map (fl b) ++ post)) (below := b) (f := pre.length) (k := (c :: r).length) (by simp) h0 (by rw [fl_fl]; exact hc)
    rw [hon, if_pos (by simp)]
    unfold readL
    rw [List.drop_left, List.take_left' (by simp), map_fl_fl]
theorem takeE_put {b : Bool} {m : List UInt8} (h : chk b m = 0) (pre post : List UInt8) : takeE (pre ++ (putBytes b m ++ post)) pre.length = .ok (b, m, pre.length + (putBytes b m).length) := by
  have e1 := sizeE_put h pre (m.map (fl b) ++ post)
  have e2 := magE_put (b := b) (chk_zero_iff.1 h).2.2 (pre ++ putHead b m.length) post
  have e3 : putBytes b m = putHead b m.length ++ m.map (fl b) := by unfold putBytes; rw [fl_eq]
  rw [List.length_append, List.append_assoc] at e2
  rw [e3, List.append_assoc]
  unfold takeE
  rw [e1]
  simp only [e2]
  simp
  omega
/-- What is read is just the bytes of the number that it is. -/
theorem sizeE_reads {l : List UInt8} {a k f : Nat} {b : Bool} (h : sizeE l a = .ok (k, b, f)) : (l.drop a).take (f - a) = putHead b k ∧ (b = true → 0 < k) := by
  unfold sizeE at h
  split at h
  · exact nomatch h
  · rename_i c hc
    obtain ⟨hl, hc⟩ := List.getElem?_eq_some_iff.1 hc
    have hc2 := c.toNat_lt
    have one : (l.drop a).take 1 = [c] := by rw [List.drop_eq_getElem_cons hl, hc]; rfl
    split at h
    · rename_i h255
      split at h
      · exact nomatch h
      · rename_i n hn
        obtain ⟨hl2, hn⟩ := List.getElem?_eq_some_iff.1 hn
        split at h
        · rename_i h126
          simp only [Except.ok.injEq, Prod.mk.injEq] at h
          obtain ⟨rfl, rfl, rfl⟩ := h
          refine ⟨?_, by simp⟩
          have two : (l.drop a).take 2 = [c, n] := by rw [List.drop_eq_getElem_cons hl, List.drop_eq_getElem_cons hl2, hc, hn]; rfl
          rw [show a + 2 - a = 2 by omega, two]
          unfold putHead
          rw [if_neg (by simp), if_neg (by omega), show c = 255 from UInt8.toNat_inj.1 h255]
          exact congrArg (fun z => [255, z]) (UInt8.toNat_inj.1 (u8n _ n.toNat_lt).symm)
        · exact nomatch h
    · rename_i h255
      split at h
      · rename_i h128
        simp only [Except.ok.injEq, Prod.mk.injEq] at h
        obtain ⟨rfl, rfl, rfl⟩ := h
        refine ⟨?_, by simp⟩
        rw [show a + 1 - a = 1 by omega, one]
        unfold putHead
        rw [if_neg (by simp), if_pos (by omega)]
        exact congrArg (fun z => [z]) (UInt8.toNat_inj.1 (by rw [u8n _ (by omega)]; omega))
      · rename_i h128
        split at h
        · rename_i h2
          simp only [Except.ok.injEq, Prod.mk.injEq] at h
          obtain ⟨rfl, rfl, rfl⟩ := h
          refine ⟨?_, fun _ => by omega⟩
          rw [show a + 1 - a = 1 by omega, one]
          unfold putHead
          rw [if_pos rfl, if_pos (by omega)]
          exact congrArg (fun z => [z]) (UInt8.toNat_inj.1 (by rw [u8n _ (by omega)]; omega))
        · split at h
          · rename_i h1
            split at h
            · exact nomatch h
            · rename_i n hn
              obtain ⟨hl2, hn⟩ := List.getElem?_eq_some_iff.1 hn
              have hn2 := n.toNat_lt
              split at h
              · rename_i h126
                simp only [Except.ok.injEq, Prod.mk.injEq] at h
                obtain ⟨rfl, rfl, rfl⟩ := h
                refine ⟨?_, fun _ => by omega⟩
                have two : (l.drop a).take 2 = [c, n] := by rw [List.drop_eq_getElem_cons hl, List.drop_eq_getElem_cons hl2, hc, hn]; rfl
                rw [show a + 2 - a = 2 by omega, two]
                unfold putHead
                rw [if_pos rfl, if_neg (by omega), show c = 1 from UInt8.toNat_inj.1 h1]
                exact congrArg (fun z => [1, z]) (UInt8.toNat_inj.1 (by rw [u8n _ (by omega)]; omega))
              · exact nomatch h
          · exact nomatch h
theorem sizeE_err {l : List UInt8} {a p : Nat} (h : sizeE l a = .error p) (ha : a ≤ l.length) : a ≤ p ∧ p ≤ l.length := by
  unfold sizeE at h
  split at h
  · simp only [Except.error.injEq] at h; omega
  · rename_i c hc
    have h1 := (List.getElem?_eq_some_iff.1 hc).1
    repeat' split at h
    all_goals first | (simp only [Except.error.injEq] at h; omega) | exact absurd h (by simp)
theorem magE_reads {l m : List UInt8} {f k : Nat} {b : Bool} (h : magE l b f k = .ok m) (hf : f ≤ l.length) : m = readL l b f k ∧ f + k ≤ l.length ∧ m.head? ≠ some 0 := by
  unfold magE at h
  by_cases hk : k = 0
  · rw [if_pos hk] at h
    cases h
    subst hk
    exact ⟨by rw [readL_zero], by omega, by simp⟩
  · rw [if_neg hk] at h
    split at h
    · exact nomatch h
    · rename_i c hc
      obtain ⟨hl, hc⟩ := List.getElem?_eq_some_iff.1 hc
      split at h
      · exact nomatch h
      · rename_i h0
        split at h
        · rename_i hle
          cases h
          refine ⟨rfl, hle, ?_⟩
          obtain ⟨j, rfl⟩ : ∃ j, k = j + 1 := ⟨k - 1, by omega⟩
          rw [List.drop_eq_getElem_cons hl, hc]
          simpa using h0
        · exact nomatch h
theorem magE_err {l : List UInt8} {f k p : Nat} {b : Bool} (h : magE l b f k = .error p) (hf : f ≤ l.length) : f ≤ p ∧ p ≤ l.length := by
  unfold magE at h
  repeat' split at h
  all_goals first | (simp only [Except.error.injEq] at h; omega) | exact absurd h (by simp)
theorem takeE_reads {l m : List UInt8} {a f : Nat} {b : Bool} (h : takeE l a = .ok (b, m, f)) : chk b m = 0 ∧ a ≤ f ∧ f ≤ l.length ∧ putBytes b m = (l.drop a).take (f - a) := by
  unfold takeE at h
  split at h
  · exact nomatch h
  · rename_i k below f0 hs
    split at h
    · exact nomatch h
    · rename_i m0 hm
      simp only [Except.ok.injEq, Prod.mk.injEq] at h
      obtain ⟨rfl, rfl, rfl⟩ := h
      obtain ⟨g1, g2, g3⟩ := sizeE_ok hs
      obtain ⟨g4, g5⟩ := sizeE_reads hs
      obtain ⟨g6, g7, g8⟩ := magE_reads hm g3
      have hlen : m0.length = k := by rw [g6, readL_length _ _ _ _ g7]
      refine ⟨chk_zero_iff.2 ⟨by omega, fun e => ?_, g8⟩, by omega, g7, ?_⟩
      · cases below
        · rfl
        · have := g5 rfl
          rw [e] at hlen
          simp at hlen
          omega
      · unfold putBytes
        rw [fl_eq, hlen, g6]
        unfold readL
        rw [map_fl_fl, ← g4, show f0 + k - a = (f0 - a) + k by omega, List.take_add, List.drop_drop, show a + (f0 - a) = f0 by omega]
theorem takeE_err {l : List UInt8} {a p : Nat} (h : takeE l a = .error p) (ha : a ≤ l.length) : a ≤ p ∧ p ≤ l.length := by
  unfold takeE at h
  split at h
  · rename_i q hs
    cases h
    exact sizeE_err hs ha
  · rename_i k below f0 hs
    obtain ⟨g1, g2, g3⟩ := sizeE_ok hs
    split at h
    · rename_i q hm
      cases h
      have := magE_err hm g3
      omega
    · exact nomatch h

/-- There and back by digits. -/
theorem digit_ne {c : UInt8} (h : isDigit c = true) : c ≠ 45 := by
  intro e
  rw [e] at h
  exact absurd h (by decide)
/-- The digits of a number. -/
def digitsV (b : Bool) (m : List UInt8) : List UInt8 := if m = [] then [48] else (if b then [45] else []) ++ dec (nv m)
theorem parse_print {b : Bool} {m : List UInt8} (h : chk b m = 0) : parseE (digitsV b m) = 0 ∧ neg (digitsV b m) = b ∧ magN (dv (ds (digitsV b m))) = m := by
  obtain ⟨h1, h2, h3⟩ := chk_zero_iff.1 h
  by_cases hm : m = []
  · have hb := h2 hm
    subst hb hm
    exact ⟨by kernel_rfl, by kernel_rfl, by kernel_rfl⟩
  · have hn : nv m ≠ 0 := fun e => hm (nv_zero h3 e)
    obtain ⟨c, r, hc, h48⟩ := dec_head (nv m) hn
    have hd := dec_digits (nv m)
    have hcd : isDigit c = true := by rw [hc] at hd; simp only [List.all_cons, Bool.and_eq_true] at hd; exact hd.1
    have hg : neg (digitsV b m) = b ∧ ds (digitsV b m) = dec (nv m) := by
      unfold digitsV
      rw [if_neg hm]
      cases b
      · rw [if_neg (by simp), List.nil_append, hc]
        have hng : neg (c :: r) = false := by simpa [neg] using digit_ne hcd
        exact ⟨hng, by unfold ds; rw [hng]; rfl⟩
      · rw [if_pos rfl]
        exact ⟨rfl, rfl⟩
    have hmag : magN (dv (ds (digitsV b m))) = m := by rw [hg.2, dv_dec, magN_of m h3]
    refine ⟨parseE_ok ?_ (by rw [hmag]; omega), hg.1, hmag⟩
    unfold good
    rw [hg.2, hd, hc]
    simp [h48]
theorem parseE_zero {s : List UInt8} (h : parseE s = 0) : good s = true ∧ (magN (dv (ds s))).length ≤ 255 := by
  unfold parseE at h
  split at h
  · rename_i hg
    split at h
    · exact absurd h (by decide)
    · exact ⟨hg, by omega⟩
  · exact absurd h (by decide)
theorem ds_neg (s : List UInt8) (h : ds s ≠ []) : (if neg s then [45] else []) ++ ds s = s := by
  unfold ds at h ⊢
  by_cases hn : neg s = true
  · rw [if_pos hn, if_pos hn]
    cases s with
    | nil => simp [neg] at hn
    | cons c r =>
      have : c = 45 := by simpa [neg] using hn
      rw [this]; rfl
  · rw [if_neg hn, if_neg hn]; rfl
theorem print_parse {s : List UInt8} (h : parseE s = 0) : chk (neg s) (magN (dv (ds s))) = 0 ∧ digitsV (neg s) (magN (dv (ds s))) = s := by
  obtain ⟨hg, hl⟩ := parseE_zero h
  by_cases h1 : s = [48]
  · subst h1
    exact ⟨by kernel_rfl, by kernel_rfl⟩
  · have hh := good_head hg h1
    have hne := good_ne hg
    have hpos := dv_ge (good_digits hg) hh 0 (List.length_pos_iff.2 hne)
    have hm : magN (dv (ds s)) ≠ [] := by
      intro e
      have := magN_nv (dv (ds s))
      rw [e, nv_nil] at this
      simp at hpos
      omega
    refine ⟨chk_zero_iff.2 ⟨hl, fun e => absurd e hm, magN_head _⟩, ?_⟩
    unfold digitsV
    rw [if_neg hm, magN_nv, dec_dv _ (good_digits hg) hh]
    exact ds_neg s hne
theorem parseE_three (s : List UInt8) : parseE s = 0 ∨ parseE s = 20 ∨ parseE s = 21 := by
  unfold parseE
  split
  · split <;> simp
  · simp
end Go.Proofs.YtcgphlilijeifaaDoor
