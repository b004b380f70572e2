import Derived.Test.YtcgphlilijeifaaDoorLitPrintsG35
import Derived.Test.YtcgphlilijeifaaDoorLitPrintsG14
/-
  LitBehind's walk (printed by wip/tools/mk-litlaws.py).
-/
namespace Go.Proofs.YtcgphlilijeifaaDoor.L
open Go.RowKit
open V (Pt)

theorem cat_text (s t : ByteArray) (c : UInt8) : (s ++ ⟨#[c]⟩ ++ t).toList = s.toList ++ c :: t.toList := by
  rw [Lib.toList_data, Lib.toList_data, Lib.toList_data, ByteArray.data_append, Array.toList_append, ByteArray.data_append, Array.toList_append]
  simp
theorem cat_size {x s t : ByteArray} {c : UInt8} (h : x.toList = s.toList ++ c :: t.toList) : x.size = s.size + t.size + 1 := by
  have := congrArg List.length h
  rw [List.length_append, List.length_cons, size_of, size_of, size_of] at this
  omega
theorem in_text (s : ByteArray) : (⟨#[40]⟩ ++ s ++ ⟨#[41]⟩ : ByteArray).toList = 40 :: (s.toList ++ [41]) := by
  rw [Lib.toList_data, Lib.toList_data, ByteArray.data_append, Array.toList_append, ByteArray.data_append, Array.toList_append]
  simp
theorem in_size (s : ByteArray) : (⟨#[40]⟩ ++ s ++ ⟨#[41]⟩ : ByteArray).size = s.size + 2 := by
  have := congrArg List.length (in_text s)
  rw [size_of, List.length_cons, List.length_append, size_of] at this
  simpa using this
set_option maxRecDepth 100000 in
set_option maxHeartbeats 8000000 in
theorem litBehind_any (s t : ByteArray) (w : World) (_w0 : s.size ≤ maxLen) (_w1 : t.size ≤ maxLen) :
    Calls Tryd.prog 12 #[.string s, .string t] w fun e w' => e = .returned (.bool true) ∧ Below w.heap.size w w' := by
  go_enter Tryd.func12, Tryd.ntmps12
  go_wp2_with fail
  refine (awake10_any _).mono ?_
  rintro e w1 ⟨rfl, hB1⟩
  by_cases hbig : 134217728 < s.size
  · have q1 : decide ((134217728 : Int) < (s.size : Int)) = true := by simp; omega
    go_wp2_with fail
    go_ret
    exact ⟨rfl, hB1⟩
  have q1 : decide ((134217728 : Int) < (s.size : Int)) = false := by simp; omega
  by_cases hbig2 : 134217728 < t.size
  · have q2 : decide ((134217728 : Int) < (t.size : Int)) = true := by simp; omega
    go_wp2_with fail
    go_ret
    exact ⟨rfl, hB1⟩
  have q2 : decide ((134217728 : Int) < (t.size : Int)) = false := by simp; omega
  go_wp2_with fail
  refine (lparse_any s _).mono ?_
  rintro e w2 ⟨hb2, ⟨hl, rfl⟩ | ⟨n, hl, hn, _, rfl⟩ | ⟨p, u, hl, hp, hu, rfl⟩⟩
  · have hB2 := V.two hB1 hb2
    go_wp2_with fail
    go_ret
    exact ⟨rfl, hB2⟩
  · have hB2 := V.two hB1 hb2
    go_wp2_with fail
    go_ret
    exact ⟨rfl, hB2⟩
  have hB2 := V.two hB1 hb2
  have hu2 := Lib.hid (hu.wide (Nat.zero_le _) (Nat.le_refl _))
  clear hb2 hu hB1
  have e1 : wrap64 ((s.size : Int) + (t.size : Int)) = (s.size : Int) + (t.size : Int) := by unfold wrap64; omega
  have e2 : wrap64 ((s.size : Int) + (t.size : Int) + 3) = (s.size : Int) + (t.size : Int) + 3 := by unfold wrap64; omega
  by_cases hlong : 65536 < s.size + t.size + 3
  · have q4 : decide ((65536 : Int) < (s.size : Int) + (t.size : Int) + 3) = true := by simp; omega
    go_wp2_with fail
    go_ret
    exact ⟨rfl, hB2⟩
  have q4 : decide ((65536 : Int) < (s.size : Int) + (t.size : Int) + 3) = false := by simp; omega
  have HP := Lib.hid hp
  have KL := Lib.hid hl
  have KN := Lib.hid hlong
  have hsz : s.size ≤ 65536 := by omega
  have htz : t.size ≤ 65536 := by omega
  clear hp hl hlong hbig hbig2
  have hm := (whole_text HP.out).2.2 KL.out
  have HM := Lib.hid hm
  have HD := Lib.hid (whole_text HP.out).2.1
  have hT := cat_text s t 32
  have hS := cat_size hT
  have HB1 := Lib.hid (behind_fails HP.out KL.out hT (.inl rfl))
  have HS1 := Lib.hid (show (s ++ ⟨#[32]⟩ ++ t).size ≤ 65536 by have := KN.out; omega)
  have hT' := cat_text s t 41
  have hS' := cat_size hT'
  have HB2 := Lib.hid (behind_fails HP.out KL.out hT' (.inr rfl))
  have HS2 := Lib.hid (show (s ++ ⟨#[41]⟩ ++ t).size ≤ 65536 by have := KN.out; omega)
  have HT3 := Lib.hid (in_text s)
  have HS3 := Lib.hid (show (⟨#[40]⟩ ++ s ++ ⟨#[41]⟩ : ByteArray).size ≤ 65536 by have := KN.out; have := in_size s; omega)
  have hnil : u = .nilIface ∨ ∃ T x, u = .iface T x := by
    by_cases h0 : p.kind = 0
    · exact .inl (hu2.out.nilOf h0)
    · exact .inr (hu2.out.ifaceOf h0)
  clear hT hS hT' hS' hm
  go_wp2_with fail
  obtain ⟨S1, eS1⟩ : ∃ S1 : ByteArray, S1 = s ++ ({ data := #[32] } : ByteArray) ++ t := ⟨_, rfl⟩
  rw [← eS1] at HS1 HB1 ⊢
  clear eS1
  refine (lparse_any S1 _).mono ?_
  rintro e w3 hx
  obtain ⟨hb3, rfl⟩ := hx.no HS1.out HB1.out.1 HB1.out.2
  have hB3 := V.two hB2 hb3
  have hu3 := Lib.hid (hu2.out.later hb3)
  clear hx hb3 hB2 hu2
  go_wp2_with fail
  obtain ⟨S2, eS2⟩ : ∃ S2 : ByteArray, S2 = s ++ ({ data := #[41] } : ByteArray) ++ t := ⟨_, rfl⟩
  rw [← eS2] at HS2 HB2 ⊢
  clear eS2
  refine (lparse_any S2 _).mono ?_
  rintro e w4 hx
  obtain ⟨hb4, rfl⟩ := hx.no HS2.out HB2.out.1 HB2.out.2
  have hB4 := V.two hB3 hb4
  have hu4 := Lib.hid (hu3.out.later hb4)
  clear hx hb4 hB3 hu3
  go_wp2_with fail
  obtain ⟨S3, eS3⟩ : ∃ S3 : ByteArray, S3 = ({ data := #[40] } : ByteArray) ++ s ++ ({ data := #[41] } : ByteArray) := ⟨_, rfl⟩
  rw [← eS3] at HS3 HT3 ⊢
  clear eS3
  refine (lparse_any S3 _).mono ?_
  rintro e w5 hx
  by_cases hd : V.depthP p = 16
  · obtain ⟨hb5, n, rfl⟩ := hx.bad HS3.out (within_no HP.out KL.out HT3.out hd HS3.out)
    have hB5 := V.two hB4 hb5
    have hu5 := Lib.hid (hu4.out.later hb5)
    have heq : ∀ (w : World), (binOp BinOp.eql 33 .nilIface .nilIface).run Tryd.prog w = .ok (.bool true) w := fun _ => by kernel_rfl
    have HDD := Lib.hid hd
    clear hx hb5 hB4 hu4 hd
    go_wp2_with fail
    refine (V.Depth_any p u _ HM.out (by rw [HDD.out]; decide) hu5.out).mono ?_
    rintro e w6 ⟨rfl, hb6⟩
    have hB6 := V.two hB5 hb6
    rw [HDD.out]
    clear hb6 hB5 hu5
    go_wp2_with fail
    go_ret
    exact ⟨rfl, hB6⟩
  · obtain ⟨hb5, x, hxv, rfl⟩ := hx.yes HS3.out (within_ok HP.out KL.out HT3.out (by have := HD.out; omega))
    have hB5 := V.two hB4 hb5
    have hu5 := Lib.hid (hu4.out.later hb5)
    have hv5 := Lib.hid (hxv.wide (Nat.zero_le _) (Nat.le_refl _))
    have e16 : ((V.depthP p : Int) == 16) = false := by simp; omega
    clear hx hb5 hB4 hu4 hd hxv
    go_wp2_with fail
    refine (V.Depth_any p u _ HM.out (by have := HD.out; omega) hu5.out).mono ?_
    rintro e w6 ⟨rfl, hb6⟩
    have hB6 := V.two hB5 hb6
    have hu6 := Lib.hid (hu5.out.later hb6)
    have hv6 := Lib.hid (hv5.out.later hb6)
    clear hb6 hB5 hu5 hv5
    go_wp2_with fail
    refine (V.AsList_any (.mk 7 false false ⟨#[]⟩ ⟨#[]⟩ [p]) x _ hv6.out (Nat.le_refl 7) true rfl).mono ?_
    rintro e w7 ⟨rfl, rfl⟩
    rw [show ∀ v, V.asked true v = v from fun _ => rfl]
    obtain ⟨a, cap, F, hxx, hC, hF⟩ := hv6.out.tupleOf rfl
    replace hxx : x = .iface 145 (.agg #[.slice a 1 cap]) := hxx
    subst hxx
    obtain ⟨g, rfl, _, _, g0⟩ := hC 0 (Nat.lt_succ_self 0)
    have HF := Lib.hid (show V.VI w6 0 w6.heap.size p (F 0) from hF 0 (Nat.lt_succ_self 0))
    obtain ⟨y, hy⟩ : ∃ y, F 0 = y := ⟨_, rfl⟩
    rw [hy] at g0 HF
    have m1 : ∀ w : World, (method 338 145 (.agg #[.slice (some ⟨g, 0, none⟩) 1 cap]) "Len").run Tryd.prog w = .ok (163, .agg #[.slice (some ⟨g, 0, none⟩) 1 cap]) w := fun _ => by kernel_rfl
    have m2 : ∀ w : World, (method 338 145 (.agg #[.slice (some ⟨g, 0, none⟩) 1 cap]) "At").run Tryd.prog w = .ok (161, .agg #[.slice (some ⟨g, 0, none⟩) 1 cap]) w := fun _ => by kernel_rfl
    clear hC hF hy
    go_wp2_with fail
    refine (V.len_tuple _ _ _ _).mono ?_
    rintro e w8 ⟨rfl, hb8⟩
    have hB8 := V.two hB6 hb8
    have hu8 := Lib.hid (hu6.out.later hb8)
    have hy8 := Lib.hid (HF.out.later hb8)
    have g8 := V.keeps hb8 g0
    clear hb8 hB6 hu6 HF g0 hv6
    go_wp2_with fail
    refine (V.at_in g 1 cap 0 _ _ (by decide) (by decide) g8).mono ?_
    rintro e w9 ⟨rfl, hb9⟩
    have hB9 := V.two hB8 hb9
    have hu9 := Lib.hid (hu8.out.later hb9)
    have hy9 := Lib.hid (hy8.out.later hb9)
    clear hb9 hB8 hu8 hy8 g8
    go_wp2_with fail
    refine (V.Same_any p p _ _ _ HM.out HM.out hy9.out hu9.out).mono ?_
    rintro e w10 ⟨rfl, hb10⟩
    have hB10 := V.two hB9 hb10
    rw [sameP_self]
    clear hb10 hB9 hu9 hy9
    go_wp2_with fail
    go_ret
    exact ⟨rfl, hB10⟩
end Go.Proofs.YtcgphlilijeifaaDoor.L
