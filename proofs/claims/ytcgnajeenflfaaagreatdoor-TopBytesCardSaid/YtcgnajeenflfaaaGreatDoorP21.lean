import Derived.Test.YtcgnajeenflfaaaGreatDoorP17
set_option maxRecDepth 100000
set_option maxHeartbeats 4000000
set_option linter.all false
open Go.Proofs.Tryz Go.RowKit
namespace Go.Proofs.YtcgnajeenflfaaaGreatDoor
namespace Sc
open We (Co)
theorem odd_6 (nm:ByteArray) (dn:Bool) (nu:Nat) (bd lb:Bool) (lm:ByteArray) (hb:Bool) (hm:ByteArray) (mo st:Int) (sh bk:Bool) (fs:List Fd) (a:Option Addr) (c:Nat) (w:World) (Y X:Bool) (hnu:nu≤2)
 (HK:Hid (∀ w:World,Calls prog 145 #[.agg #[.string nm,.int .u8 6,.bool dn,.int .u8 nu,.bool bd,.bool lb,.string lm,.bool hb,.string hm,.int .i64 mo,.int .i64 st,.bool sh,.bool bk,.slice a fs.length c]] w fun e w'=>e=.returned (.bool Y)∧Below w.heap.size w w'))
 (HX:Hid (oddX 6 nu bd lb lm hb hm mo ⟨st,sh,bk⟩ fs Y=X)) :
 Calls prog 82 #[.agg #[.string nm,.int .u8 6,.bool dn,.int .u8 nu,.bool bd,.bool lb,.string lm,.bool hb,.string hm,.int .i64 mo,.int .i64 st,.bool sh,.bool bk,.slice a fs.length c]] w (OddPost X w):=by
 have qn:decide ((2:Int)<(nu:Int))=false:=decide_eq_false (by omega)
 go_enter func82,ntmps82
 go_wp2_with fail
 all_goals first
  | (go_ret;refine⟨congrArg (fun b=>Ending.returned (.bool b)) ?_,zr.alloc lr _⟩;rw[← HX.out];simp[oddX,Co.zero,← List.length_pos_iff, *])
  | skip
 · skip
   generalize hW:w.alloc (.cells _ 79)=W
   have hWz:W.heap.size=w.heap.size+1:=by rw[← hW];simp
   have hBW:Below w.heap.size w W:=by rw[← hW];exact zr.alloc lr _
   have k0:W.cell? ⟨w.heap.size,0,none⟩=some (.string nm):=by rw[← hW,cellA];simp[*]
   have k1:W.cell? ⟨w.heap.size,1,none⟩=some (.int .u8 6):=by rw[← hW,cellA];simp[*]
   have k2:W.cell? ⟨w.heap.size,2,none⟩=some (.bool dn):=by rw[← hW,cellA];simp[*]
   have k3:W.cell? ⟨w.heap.size,3,none⟩=some (.int .u8 nu):=by rw[← hW,cellA];simp[*]
   have k4:W.cell? ⟨w.heap.size,4,none⟩=some (.bool bd):=by rw[← hW,cellA];simp[*]
   have k5:W.cell? ⟨w.heap.size,5,none⟩=some (.bool lb):=by rw[← hW,cellA];simp[*]
   have k6:W.cell? ⟨w.heap.size,6,none⟩=some (.string lm):=by rw[← hW,cellA];simp[*]
   have k7:W.cell? ⟨w.heap.size,7,none⟩=some (.bool hb):=by rw[← hW,cellA];simp[*]
   have k8:W.cell? ⟨w.heap.size,8,none⟩=some (.string hm):=by rw[← hW,cellA];simp[*]
   have k9:W.cell? ⟨w.heap.size,9,none⟩=some (.int .i64 mo):=by rw[← hW,cellA];simp[*]
   have k10:W.cell? ⟨w.heap.size,10,none⟩=some (.int .i64 st):=by rw[← hW,cellA];simp[*]
   have k11:W.cell? ⟨w.heap.size,11,none⟩=some (.bool sh):=by rw[← hW,cellA];simp[*]
   have k12:W.cell? ⟨w.heap.size,12,none⟩=some (.bool bk):=by rw[← hW,cellA];simp[*]
   have k13:W.cell? ⟨w.heap.size,13,none⟩=some (.slice a fs.length c):=by rw[← hW,cellA];simp[*]
   have HWZ:=zh hWz
   clear hW hWz
   have hbd:Below W.heap.size W W.drew:=(Below.refl W.heap.size W).drew
   refine wp_region_held_drew (S:=fun w'=>w'.cell? ⟨w.heap.size,0,none⟩=some (.string nm)∧w'.cell? ⟨w.heap.size,1,none⟩=some (.int .u8 6)∧w'.cell? ⟨w.heap.size,2,none⟩=some (.bool dn)∧w'.cell? ⟨w.heap.size,3,none⟩=some (.int .u8 nu)∧w'.cell? ⟨w.heap.size,4,none⟩=some (.bool bd)∧w'.cell? ⟨w.heap.size,5,none⟩=some (.bool lb)∧w'.cell? ⟨w.heap.size,6,none⟩=some (.string lm)∧w'.cell? ⟨w.heap.size,7,none⟩=some (.bool hb)∧w'.cell? ⟨w.heap.size,8,none⟩=some (.string hm)∧w'.cell? ⟨w.heap.size,9,none⟩=some (.int .i64 mo)∧w'.cell? ⟨w.heap.size,10,none⟩=some (.int .i64 st)∧w'.cell? ⟨w.heap.size,11,none⟩=some (.bool sh)∧w'.cell? ⟨w.heap.size,12,none⟩=some (.bool bk)∧w'.cell? ⟨w.heap.size,13,none⟩=some (.slice a fs.length c)∧Below W.heap.size W w') (by kernel_rfl) ⟨k0,k1,k2,k3,k4,k5,k6,k7,k8,k9,k10,k11,k12,k13,hbd⟩ (fun hHeld=>?_)
   refine tx 1 ?v1a rfl (by kernel_rfl) tq (by rfl) ?hy1a (by assumption) ?rest1a
   case hy1a=>(rintro wS ⟨k0,k1,k2,k3,k4,k5,k6,k7,k8,k9,k10,k11,k12,k13,kb⟩;go_simp;try with_reducible rfl)
   try simp[Act.put]
   refine tx 2 ?v2a rfl (by kernel_rfl) tq (by rfl) ?hy2a (by assumption) ?rest2a
   case hy2a=>(rintro wS ⟨k0,k1,k2,k3,k4,k5,k6,k7,k8,k9,k10,k11,k12,k13,kb⟩;go_simp;try with_reducible rfl)
   try simp[Act.put]
   refine tx 3 ?v3a rfl (by kernel_rfl) tq (by rfl) ?hy3a (by assumption) ?rest3a
   case hy3a=>(rintro wS ⟨k0,k1,k2,k3,k4,k5,k6,k7,k8,k9,k10,k11,k12,k13,kb⟩;go_simp;try with_reducible rfl)
   try simp[Act.put]
   rw[show IntKind.u8.wrap 5=5 by decide]
   refine tx 7 ?v7a rfl (by kernel_rfl) tq (by rfl) ?hy7a (by assumption) ?rest7a
   case hy7a=>(rintro wS ⟨k0,k1,k2,k3,k4,k5,k6,k7,k8,k9,k10,k11,k12,k13,kb⟩;go_simp;try with_reducible rfl)
   try simp[Act.put]
   refine wpAnyH_ready (rs:=[0]) (by kernel_rfl) (by simp) ?_
   refine AllReadyH.cons rfl (fun K hK=>?_) AllReadyH.nil
   go_simp
   obtain⟨k0,k1,k2,k3,k4,k5,k6,k7,k8,k9,k10,k11,k12,k13,kb⟩:=hHeld
   refine(kinds_at _).mono ?_
   rintro e w9 ⟨rfl,hb9,hk9⟩
   have kk:w9.cell? ⟨W.heap.size,21,none⟩=some (.func (.func 145) #[] #[]):=hk9 21
   replace k0:=V.keeps hb9 k0
   replace k1:=V.keeps hb9 k1
   replace k2:=V.keeps hb9 k2
   replace k3:=V.keeps hb9 k3
   replace k4:=V.keeps hb9 k4
   replace k5:=V.keeps hb9 k5
   replace k6:=V.keeps hb9 k6
   replace k7:=V.keeps hb9 k7
   replace k8:=V.keeps hb9 k8
   replace k9:=V.keeps hb9 k9
   replace k10:=V.keeps hb9 k10
   replace k11:=V.keeps hb9 k11
   replace k12:=V.keeps hb9 k12
   replace k13:=V.keeps hb9 k13
   replace kb:=V.two kb hb9
   go_wp2_with fail
   refine hK.out _ _ ⟨k0,k1,k2,k3,k4,k5,k6,k7,k8,k9,k10,k11,k12,k13,kb⟩ (fun hHeld=>?_)
   try simp[Act.put]
   refine tx 4 ?v4a rfl (by kernel_rfl) tq (by rfl) ?hy4a (by assumption) ?rest4a
   case hy4a=>(rintro wS ⟨k0,k1,k2,k3,k4,k5,k6,k7,k8,k9,k10,k11,k12,k13,kb⟩;go_simp;try with_reducible rfl)
   try simp[Act.put]
   refine tx 5 ?v5a rfl (by kernel_rfl) tq (by rfl) ?hy5a (by assumption) ?rest5a
   case hy5a=>(rintro wS ⟨k0,k1,k2,k3,k4,k5,k6,k7,k8,k9,k10,k11,k12,k13,kb⟩;go_simp;try with_reducible rfl)
   try simp[Act.put]
   refine wpAnyH_ready (rs:=[6]) (by kernel_rfl) (by simp) ?_
   refine AllReadyH.cons rfl (fun K hK=>?_) AllReadyH.nil
   go_simp
   go_wp2_with fail
   refine hK.out _ _ hHeld (fun hHeld=>?_)
   try simp[Act.put]
   refine wpAnyH_ready (rs:=[8]) (by kernel_rfl) (by simp) ?_
   refine AllReadyH.cons rfl (fun K hK=>?_) AllReadyH.nil
   go_simp
   obtain⟨k0,k1,k2,k3,k4,k5,k6,k7,k8,k9,k10,k11,k12,k13,kb⟩:=hHeld
   have HK2:=HK.out
   try simp only [eq_false_of_ne_true ‹¬bd=true›] at HK2
   try simp only [‹bd=true›] at HK2
   try simp only [eq_false_of_ne_true ‹¬lb=true›] at HK2
   try simp only [‹lb=true›] at HK2
   try simp only [eq_false_of_ne_true ‹¬hb=true›] at HK2
   try simp only [‹hb=true›] at HK2
   try simp only [‹mo=0›] at HK2
   refine(HK2 _).mono ?_
   rintro e w8 ⟨rfl,hb9⟩
   replace k0:=V.keeps hb9 k0
   replace k1:=V.keeps hb9 k1
   replace k2:=V.keeps hb9 k2
   replace k3:=V.keeps hb9 k3
   replace k4:=V.keeps hb9 k4
   replace k5:=V.keeps hb9 k5
   replace k6:=V.keeps hb9 k6
   replace k7:=V.keeps hb9 k7
   replace k8:=V.keeps hb9 k8
   replace k9:=V.keeps hb9 k9
   replace k10:=V.keeps hb9 k10
   replace k11:=V.keeps hb9 k11
   replace k12:=V.keeps hb9 k12
   replace k13:=V.keeps hb9 k13
   replace kb:=V.two kb hb9
   go_wp2_with fail
   refine hK.out _ _ ⟨k0,k1,k2,k3,k4,k5,k6,k7,k8,k9,k10,k11,k12,k13,kb⟩ (fun hHeld=>?_)
   try simp[Act.put]
   refine tx 9 ?v9a rfl (by kernel_rfl) tq (by rfl) ?hy9a (by assumption) ?rest9a
   case hy9a=>(rintro wS ⟨k0,k1,k2,k3,k4,k5,k6,k7,k8,k9,k10,k11,k12,k13,kb⟩;go_simp;try with_reducible rfl)
   try simp[Act.put]
   refine wpAnyH_done (by kernel_rfl) ?_ _
   go_wp2_with fail
   obtain⟨k0,k1,k2,k3,k4,k5,k6,k7,k8,k9,k10,k11,k12,k13,kb⟩:=hHeld
   go_ret
   refine⟨congrArg (fun b=>Ending.returned (.bool b)) ?_,hBW.trans (kb.mono (by rw[HWZ.out];omega))⟩
   rw[← HX.out]
   simp[oddX,Co.zero,← List.length_pos_iff,Nat.not_lt.2 hnu, *]
theorem odd_7 (nm:ByteArray) (dn:Bool) (nu:Nat) (bd lb:Bool) (lm:ByteArray) (hb:Bool) (hm:ByteArray) (mo st:Int) (sh bk:Bool) (fs:List Fd) (a:Option Addr) (c:Nat) (w:World) (Y X:Bool) (hnu:nu≤2)
 (HK:Hid (∀ w:World,Calls prog 136 #[.agg #[.string nm,.int .u8 7,.bool dn,.int .u8 nu,.bool bd,.bool lb,.string lm,.bool hb,.string hm,.int .i64 mo,.int .i64 st,.bool sh,.bool bk,.slice a fs.length c]] w fun e w'=>e=.returned (.bool Y)∧Below w.heap.size w w'))
 (HX:Hid (oddX 7 nu bd lb lm hb hm mo ⟨st,sh,bk⟩ fs Y=X)) :
 Calls prog 82 #[.agg #[.string nm,.int .u8 7,.bool dn,.int .u8 nu,.bool bd,.bool lb,.string lm,.bool hb,.string hm,.int .i64 mo,.int .i64 st,.bool sh,.bool bk,.slice a fs.length c]] w (OddPost X w):=by
 have qn:decide ((2:Int)<(nu:Int))=false:=decide_eq_false (by omega)
 go_enter func82,ntmps82
 go_wp2_with fail
 all_goals first
  | (go_ret;refine⟨congrArg (fun b=>Ending.returned (.bool b)) ?_,zr.alloc lr _⟩;rw[← HX.out];simp[oddX,Co.zero,← List.length_pos_iff, *])
  | skip
 · skip
   generalize hW:w.alloc (.cells _ 79)=W
   have hWz:W.heap.size=w.heap.size+1:=by rw[← hW];simp
   have hBW:Below w.heap.size w W:=by rw[← hW];exact zr.alloc lr _
   have k0:W.cell? ⟨w.heap.size,0,none⟩=some (.string nm):=by rw[← hW,cellA];simp[*]
   have k1:W.cell? ⟨w.heap.size,1,none⟩=some (.int .u8 7):=by rw[← hW,cellA];simp[*]
   have k2:W.cell? ⟨w.heap.size,2,none⟩=some (.bool dn):=by rw[← hW,cellA];simp[*]
   have k3:W.cell? ⟨w.heap.size,3,none⟩=some (.int .u8 nu):=by rw[← hW,cellA];simp[*]
   have k4:W.cell? ⟨w.heap.size,4,none⟩=some (.bool bd):=by rw[← hW,cellA];simp[*]
   have k5:W.cell? ⟨w.heap.size,5,none⟩=some (.bool lb):=by rw[← hW,cellA];simp[*]
   have k6:W.cell? ⟨w.heap.size,6,none⟩=some (.string lm):=by rw[← hW,cellA];simp[*]
   have k7:W.cell? ⟨w.heap.size,7,none⟩=some (.bool hb):=by rw[← hW,cellA];simp[*]
   have k8:W.cell? ⟨w.heap.size,8,none⟩=some (.string hm):=by rw[← hW,cellA];simp[*]
   have k9:W.cell? ⟨w.heap.size,9,none⟩=some (.int .i64 mo):=by rw[← hW,cellA];simp[*]
   have k10:W.cell? ⟨w.heap.size,10,none⟩=some (.int .i64 st):=by rw[← hW,cellA];simp[*]
   have k11:W.cell? ⟨w.heap.size,11,none⟩=some (.bool sh):=by rw[← hW,cellA];simp[*]
   have k12:W.cell? ⟨w.heap.size,12,none⟩=some (.bool bk):=by rw[← hW,cellA];simp[*]
   have k13:W.cell? ⟨w.heap.size,13,none⟩=some (.slice a fs.length c):=by rw[← hW,cellA];simp[*]
   have HWZ:=zh hWz
   clear hW hWz
   have hbd:Below W.heap.size W W.drew:=(Below.refl W.heap.size W).drew
   refine wp_region_held_drew (S:=fun w'=>w'.cell? ⟨w.heap.size,0,none⟩=some (.string nm)∧w'.cell? ⟨w.heap.size,1,none⟩=some (.int .u8 7)∧w'.cell? ⟨w.heap.size,2,none⟩=some (.bool dn)∧w'.cell? ⟨w.heap.size,3,none⟩=some (.int .u8 nu)∧w'.cell? ⟨w.heap.size,4,none⟩=some (.bool bd)∧w'.cell? ⟨w.heap.size,5,none⟩=some (.bool lb)∧w'.cell? ⟨w.heap.size,6,none⟩=some (.string lm)∧w'.cell? ⟨w.heap.size,7,none⟩=some (.bool hb)∧w'.cell? ⟨w.heap.size,8,none⟩=some (.string hm)∧w'.cell? ⟨w.heap.size,9,none⟩=some (.int .i64 mo)∧w'.cell? ⟨w.heap.size,10,none⟩=some (.int .i64 st)∧w'.cell? ⟨w.heap.size,11,none⟩=some (.bool sh)∧w'.cell? ⟨w.heap.size,12,none⟩=some (.bool bk)∧w'.cell? ⟨w.heap.size,13,none⟩=some (.slice a fs.length c)∧Below W.heap.size W w') (by kernel_rfl) ⟨k0,k1,k2,k3,k4,k5,k6,k7,k8,k9,k10,k11,k12,k13,hbd⟩ (fun hHeld=>?_)
   refine tx 1 ?v1a rfl (by kernel_rfl) tq (by rfl) ?hy1a (by assumption) ?rest1a
   case hy1a=>(rintro wS ⟨k0,k1,k2,k3,k4,k5,k6,k7,k8,k9,k10,k11,k12,k13,kb⟩;go_simp;try with_reducible rfl)
   try simp[Act.put]
   refine tx 2 ?v2a rfl (by kernel_rfl) tq (by rfl) ?hy2a (by assumption) ?rest2a
   case hy2a=>(rintro wS ⟨k0,k1,k2,k3,k4,k5,k6,k7,k8,k9,k10,k11,k12,k13,kb⟩;go_simp;try with_reducible rfl)
   try simp[Act.put]
   refine tx 3 ?v3a rfl (by kernel_rfl) tq (by rfl) ?hy3a (by assumption) ?rest3a
   case hy3a=>(rintro wS ⟨k0,k1,k2,k3,k4,k5,k6,k7,k8,k9,k10,k11,k12,k13,kb⟩;go_simp;try with_reducible rfl)
   try simp[Act.put]
   rw[show IntKind.u8.wrap 6=6 by decide]
   refine tx 7 ?v7a rfl (by kernel_rfl) tq (by rfl) ?hy7a (by assumption) ?rest7a
   case hy7a=>(rintro wS ⟨k0,k1,k2,k3,k4,k5,k6,k7,k8,k9,k10,k11,k12,k13,kb⟩;go_simp;try with_reducible rfl)
   try simp[Act.put]
   refine wpAnyH_ready (rs:=[0]) (by kernel_rfl) (by simp) ?_
   refine AllReadyH.cons rfl (fun K hK=>?_) AllReadyH.nil
   go_simp
   obtain⟨k0,k1,k2,k3,k4,k5,k6,k7,k8,k9,k10,k11,k12,k13,kb⟩:=hHeld
   refine(kinds_at _).mono ?_
   rintro e w9 ⟨rfl,hb9,hk9⟩
   have kk:w9.cell? ⟨W.heap.size,25,none⟩=some (.func (.func 136) #[] #[]):=hk9 25
   replace k0:=V.keeps hb9 k0
   replace k1:=V.keeps hb9 k1
   replace k2:=V.keeps hb9 k2
   replace k3:=V.keeps hb9 k3
   replace k4:=V.keeps hb9 k4
   replace k5:=V.keeps hb9 k5
   replace k6:=V.keeps hb9 k6
   replace k7:=V.keeps hb9 k7
   replace k8:=V.keeps hb9 k8
   replace k9:=V.keeps hb9 k9
   replace k10:=V.keeps hb9 k10
   replace k11:=V.keeps hb9 k11
   replace k12:=V.keeps hb9 k12
   replace k13:=V.keeps hb9 k13
   replace kb:=V.two kb hb9
   go_wp2_with fail
   refine hK.out _ _ ⟨k0,k1,k2,k3,k4,k5,k6,k7,k8,k9,k10,k11,k12,k13,kb⟩ (fun hHeld=>?_)
   try simp[Act.put]
   refine tx 4 ?v4a rfl (by kernel_rfl) tq (by rfl) ?hy4a (by assumption) ?rest4a
   case hy4a=>(rintro wS ⟨k0,k1,k2,k3,k4,k5,k6,k7,k8,k9,k10,k11,k12,k13,kb⟩;go_simp;try with_reducible rfl)
   try simp[Act.put]
   refine tx 5 ?v5a rfl (by kernel_rfl) tq (by rfl) ?hy5a (by assumption) ?rest5a
   case hy5a=>(rintro wS ⟨k0,k1,k2,k3,k4,k5,k6,k7,k8,k9,k10,k11,k12,k13,kb⟩;go_simp;try with_reducible rfl)
   try simp[Act.put]
   refine wpAnyH_ready (rs:=[6]) (by kernel_rfl) (by simp) ?_
   refine AllReadyH.cons rfl (fun K hK=>?_) AllReadyH.nil
   go_simp
   go_wp2_with fail
   refine hK.out _ _ hHeld (fun hHeld=>?_)
   try simp[Act.put]
   refine wpAnyH_ready (rs:=[8]) (by kernel_rfl) (by simp) ?_
   refine AllReadyH.cons rfl (fun K hK=>?_) AllReadyH.nil
   go_simp
   obtain⟨k0,k1,k2,k3,k4,k5,k6,k7,k8,k9,k10,k11,k12,k13,kb⟩:=hHeld
   have HK2:=HK.out
   try simp only [eq_false_of_ne_true ‹¬bd=true›] at HK2
   try simp only [‹bd=true›] at HK2
   try simp only [eq_false_of_ne_true ‹¬lb=true›] at HK2
   try simp only [‹lb=true›] at HK2
   try simp only [eq_false_of_ne_true ‹¬hb=true›] at HK2
   try simp only [‹hb=true›] at HK2
   try simp only [eq_false_of_ne_true ‹¬sh=true›] at HK2
   try simp only [‹sh=true›] at HK2
   try simp only [eq_false_of_ne_true ‹¬bk=true›] at HK2
   try simp only [‹bk=true›] at HK2
   try simp only [‹mo=0›] at HK2
   try simp only [‹st=0›] at HK2
   refine(HK2 _).mono ?_
   rintro e w8 ⟨rfl,hb9⟩
   replace k0:=V.keeps hb9 k0
   replace k1:=V.keeps hb9 k1
   replace k2:=V.keeps hb9 k2
   replace k3:=V.keeps hb9 k3
   replace k4:=V.keeps hb9 k4
   replace k5:=V.keeps hb9 k5
   replace k6:=V.keeps hb9 k6
   replace k7:=V.keeps hb9 k7
   replace k8:=V.keeps hb9 k8
   replace k9:=V.keeps hb9 k9
   replace k10:=V.keeps hb9 k10
   replace k11:=V.keeps hb9 k11
   replace k12:=V.keeps hb9 k12
   replace k13:=V.keeps hb9 k13
   replace kb:=V.two kb hb9
   go_wp2_with fail
   refine hK.out _ _ ⟨k0,k1,k2,k3,k4,k5,k6,k7,k8,k9,k10,k11,k12,k13,kb⟩ (fun hHeld=>?_)
   try simp[Act.put]
   refine tx 9 ?v9a rfl (by kernel_rfl) tq (by rfl) ?hy9a (by assumption) ?rest9a
   case hy9a=>(rintro wS ⟨k0,k1,k2,k3,k4,k5,k6,k7,k8,k9,k10,k11,k12,k13,kb⟩;go_simp;try with_reducible rfl)
   try simp[Act.put]
   refine wpAnyH_done (by kernel_rfl) ?_ _
   go_wp2_with fail
   obtain⟨k0,k1,k2,k3,k4,k5,k6,k7,k8,k9,k10,k11,k12,k13,kb⟩:=hHeld
   go_ret
   refine⟨congrArg (fun b=>Ending.returned (.bool b)) ?_,hBW.trans (kb.mono (by rw[HWZ.out];omega))⟩
   rw[← HX.out]
   simp[oddX,Co.zero,← List.length_pos_iff,Nat.not_lt.2 hnu, *]
