import Derived.Test.YtcgnajeenflfaaaGreatDoorP17
set_option maxRecDepth 100000
set_option maxHeartbeats 4000000
set_option linter.all false
open Go.Proofs.Tryz Go.RowKit
namespace Go.Proofs.YtcgnajeenflfaaaGreatDoor
namespace Sc
open We (Co)
theorem odd_2 (nm:ByteArray) (dn:Bool) (nu:Nat) (bd lb:Bool) (lm:ByteArray) (hb:Bool) (hm:ByteArray) (mo st:Int) (sh bk:Bool) (fs:List Fd) (a:Option Addr) (c:Nat) (w:World) (Y X:Bool) (hnu:nu≤2)
 (HK:Hid (∀ w:World,Calls prog 139 #[.agg #[.string nm,.int .u8 2,.bool dn,.int .u8 nu,.bool bd,.bool lb,.string lm,.bool hb,.string hm,.int .i64 mo,.int .i64 st,.bool sh,.bool bk,.slice a fs.length c]] w fun e w'=>e=.returned (.bool Y)∧Below w.heap.size w w'))
 (HX:Hid (oddX 2 nu bd lb lm hb hm mo ⟨st,sh,bk⟩ fs Y=X)) :
 Calls prog 82 #[.agg #[.string nm,.int .u8 2,.bool dn,.int .u8 nu,.bool bd,.bool lb,.string lm,.bool hb,.string hm,.int .i64 mo,.int .i64 st,.bool sh,.bool bk,.slice a fs.length c]] w (OddPost X w):=by
 have qn:decide ((2:Int)<(nu:Int))=false:=decide_eq_false (by omega)
 go_enter func82,ntmps82
 go_wp2_with fail
 all_goals first
  | (go_ret;refine⟨congrArg (fun b=>Ending.returned (.bool b)) ?_,zr.alloc lr _⟩;rw[← HX.out];simp[oddX,Co.zero,← List.length_pos_iff, *])
  | skip
 · skip
   generalize hW:w.alloc (.cells _ 79)=W
   have hWz:W.heap.size=w.heap.size+1:=by rw[← hW];simp
   have hBW:Below w.heap.size w W:=by rw[← hW];exact zr.alloc lr _
   have k0:W.cell? ⟨w.heap.size,0,none⟩=some (.string nm):=by rw[← hW,cellA];simp[*]
   have k1:W.cell? ⟨w.heap.size,1,none⟩=some (.int .u8 2):=by rw[← hW,cellA];simp[*]
   have k2:W.cell? ⟨w.heap.size,2,none⟩=some (.bool dn):=by rw[← hW,cellA];simp[*]
   have k3:W.cell? ⟨w.heap.size,3,none⟩=some (.int .u8 nu):=by rw[← hW,cellA];simp[*]
   have k4:W.cell? ⟨w.heap.size,4,none⟩=some (.bool bd):=by rw[← hW,cellA];simp[*]
   have k5:W.cell? ⟨w.heap.size,5,none⟩=some (.bool lb):=by rw[← hW,cellA];simp[*]
   have k6:W.cell? ⟨w.heap.size,6,none⟩=some (.string lm):=by rw[← hW,cellA];simp[*]
   have k7:W.cell? ⟨w.heap.size,7,none⟩=some (.bool hb):=by rw[← hW,cellA];simp[*]
   have k8:W.cell? ⟨w.heap.size,8,none⟩=some (.string hm):=by rw[← hW,cellA];simp[*]
   have k9:W.cell? ⟨w.heap.size,9,none⟩=some (.int .i64 mo):=by rw[← hW,cellA];simp[*]
   have k10:W.cell? ⟨w.heap.size,10,none⟩=some (.int .i64 st):=by rw[← hW,cellA];simp[*]
   have k11:W.cell? ⟨w.heap.size,11,none⟩=some (.bool sh):=by rw[← hW,cellA];simp[*]
   have k12:W.cell? ⟨w.heap.size,12,none⟩=some (.bool bk):=by rw[← hW,cellA];simp[*]
   have k13:W.cell? ⟨w.heap.size,13,none⟩=some (.slice a fs.length c):=by rw[← hW,cellA];simp[*]
   have HWZ:=zh hWz
   clear hW hWz
   have hbd:Below W.heap.size W W.drew:=(Below.refl W.heap.size W).drew
   refine wp_region_held_drew (S:=fun w'=>w'.cell? ⟨w.heap.size,0,none⟩=some (.string nm)∧w'.cell? ⟨w.heap.size,1,none⟩=some (.int .u8 2)∧w'.cell? ⟨w.heap.size,2,none⟩=some (.bool dn)∧w'.cell? ⟨w.heap.size,3,none⟩=some (.int .u8 nu)∧w'.cell? ⟨w.heap.size,4,none⟩=some (.bool bd)∧w'.cell? ⟨w.heap.size,5,none⟩=some (.bool lb)∧w'.cell? ⟨w.heap.size,6,none⟩=some (.string lm)∧w'.cell? ⟨w.heap.size,7,none⟩=some (.bool hb)∧w'.cell? ⟨w.heap.size,8,none⟩=some (.string hm)∧w'.cell? ⟨w.heap.size,9,none⟩=some (.int .i64 mo)∧w'.cell? ⟨w.heap.size,10,none⟩=some (.int .i64 st)∧w'.cell? ⟨w.heap.size,11,none⟩=some (.bool sh)∧w'.cell? ⟨w.heap.size,12,none⟩=some (.bool bk)∧w'.cell? ⟨w.heap.size,13,none⟩=some (.slice a fs.length c)∧Below W.heap.size W w') (by kernel_rfl) ⟨k0,k1,k2,k3,k4,k5,k6,k7,k8,k9,k10,k11,k12,k13,hbd⟩ (fun hHeld=>?_)
   refine tx 1 ?v1a rfl (by kernel_rfl) tq (by rfl) ?hy1a (by assumption) ?rest1a
   case hy1a=>(rintro wS ⟨k0,k1,k2,k3,k4,k5,k6,k7,k8,k9,k10,k11,k12,k13,kb⟩;go_simp;try with_reducible rfl)
   try simp[Act.put]
   refine tx 2 ?v2a rfl (by kernel_rfl) tq (by rfl) ?hy2a (by assumption) ?rest2a
   case hy2a=>(rintro wS ⟨k0,k1,k2,k3,k4,k5,k6,k7,k8,k9,k10,k11,k12,k13,kb⟩;go_simp;try with_reducible rfl)
   try simp[Act.put]
   refine tx 3 ?v3a rfl (by kernel_rfl) tq (by rfl) ?hy3a (by assumption) ?rest3a
   case hy3a=>(rintro wS ⟨k0,k1,k2,k3,k4,k5,k6,k7,k8,k9,k10,k11,k12,k13,kb⟩;go_simp;try with_reducible rfl)
   try simp[Act.put]
   rw[show IntKind.u8.wrap 1=1 by decide]
   refine tx 7 ?v7a rfl (by kernel_rfl) tq (by rfl) ?hy7a (by assumption) ?rest7a
   case hy7a=>(rintro wS ⟨k0,k1,k2,k3,k4,k5,k6,k7,k8,k9,k10,k11,k12,k13,kb⟩;go_simp;try with_reducible rfl)
   try simp[Act.put]
   refine wpAnyH_ready (rs:=[0]) (by kernel_rfl) (by simp) ?_
   refine AllReadyH.cons rfl (fun K hK=>?_) AllReadyH.nil
   go_simp
   obtain⟨k0,k1,k2,k3,k4,k5,k6,k7,k8,k9,k10,k11,k12,k13,kb⟩:=hHeld
   refine(kinds_at _).mono ?_
   rintro e w9 ⟨rfl,hb9,hk9⟩
   have kk:w9.cell? ⟨W.heap.size,5,none⟩=some (.func (.func 139) #[] #[]):=hk9 5
   replace k0:=V.keeps hb9 k0
   replace k1:=V.keeps hb9 k1
   replace k2:=V.keeps hb9 k2
   replace k3:=V.keeps hb9 k3
   replace k4:=V.keeps hb9 k4
   replace k5:=V.keeps hb9 k5
   replace k6:=V.keeps hb9 k6
   replace k7:=V.keeps hb9 k7
   replace k8:=V.keeps hb9 k8
   replace k9:=V.keeps hb9 k9
   replace k10:=V.keeps hb9 k10
   replace k11:=V.keeps hb9 k11
   replace k12:=V.keeps hb9 k12
   replace k13:=V.keeps hb9 k13
   replace kb:=V.two kb hb9
   go_wp2_with fail
   refine hK.out _ _ ⟨k0,k1,k2,k3,k4,k5,k6,k7,k8,k9,k10,k11,k12,k13,kb⟩ (fun hHeld=>?_)
   try simp[Act.put]
   refine tx 4 ?v4a rfl (by kernel_rfl) tq (by rfl) ?hy4a (by assumption) ?rest4a
   case hy4a=>(rintro wS ⟨k0,k1,k2,k3,k4,k5,k6,k7,k8,k9,k10,k11,k12,k13,kb⟩;go_simp;try with_reducible rfl)
   try simp[Act.put]
   refine tx 5 ?v5a rfl (by kernel_rfl) tq (by rfl) ?hy5a (by assumption) ?rest5a
   case hy5a=>(rintro wS ⟨k0,k1,k2,k3,k4,k5,k6,k7,k8,k9,k10,k11,k12,k13,kb⟩;go_simp;try with_reducible rfl)
   try simp[Act.put]
   refine wpAnyH_ready (rs:=[6]) (by kernel_rfl) (by simp) ?_
   refine AllReadyH.cons rfl (fun K hK=>?_) AllReadyH.nil
   go_simp
   go_wp2_with fail
   refine hK.out _ _ hHeld (fun hHeld=>?_)
   try simp[Act.put]
   refine wpAnyH_ready (rs:=[8]) (by kernel_rfl) (by simp) ?_
   refine AllReadyH.cons rfl (fun K hK=>?_) AllReadyH.nil
   go_simp
   obtain⟨k0,k1,k2,k3,k4,k5,k6,k7,k8,k9,k10,k11,k12,k13,kb⟩:=hHeld
   have HK2:=HK.out
   try simp only [eq_false_of_ne_true ‹¬bd=true›] at HK2
   try simp only [‹bd=true›] at HK2
   try simp only [eq_false_of_ne_true ‹¬lb=true›] at HK2
   try simp only [‹lb=true›] at HK2
   try simp only [eq_false_of_ne_true ‹¬hb=true›] at HK2
   try simp only [‹hb=true›] at HK2
   try simp only [eq_false_of_ne_true ‹¬sh=true›] at HK2
   try simp only [‹sh=true›] at HK2
   try simp only [eq_false_of_ne_true ‹¬bk=true›] at HK2
   try simp only [‹bk=true›] at HK2
   try simp only [‹mo=0›] at HK2
   try simp only [‹st=0›] at HK2
   refine(HK2 _).mono ?_
   rintro e w8 ⟨rfl,hb9⟩
   replace k0:=V.keeps hb9 k0
   replace k1:=V.keeps hb9 k1
   replace k2:=V.keeps hb9 k2
   replace k3:=V.keeps hb9 k3
   replace k4:=V.keeps hb9 k4
   replace k5:=V.keeps hb9 k5
   replace k6:=V.keeps hb9 k6
   replace k7:=V.keeps hb9 k7
   replace k8:=V.keeps hb9 k8
   replace k9:=V.keeps hb9 k9
   replace k10:=V.keeps hb9 k10
   replace k11:=V.keeps hb9 k11
   replace k12:=V.keeps hb9 k12
   replace k13:=V.keeps hb9 k13
   replace kb:=V.two kb hb9
   go_wp2_with fail
   refine hK.out _ _ ⟨k0,k1,k2,k3,k4,k5,k6,k7,k8,k9,k10,k11,k12,k13,kb⟩ (fun hHeld=>?_)
   try simp[Act.put]
   refine tx 9 ?v9a rfl (by kernel_rfl) tq (by rfl) ?hy9a (by assumption) ?rest9a
   case hy9a=>(rintro wS ⟨k0,k1,k2,k3,k4,k5,k6,k7,k8,k9,k10,k11,k12,k13,kb⟩;go_simp;try with_reducible rfl)
   try simp[Act.put]
   refine wpAnyH_done (by kernel_rfl) ?_ _
   go_wp2_with fail
   obtain⟨k0,k1,k2,k3,k4,k5,k6,k7,k8,k9,k10,k11,k12,k13,kb⟩:=hHeld
   go_ret
   refine⟨congrArg (fun b=>Ending.returned (.bool b)) ?_,hBW.trans (kb.mono (by rw[HWZ.out];omega))⟩
   rw[← HX.out]
   simp[oddX,Co.zero,← List.length_pos_iff,Nat.not_lt.2 hnu, *]
 · skip
   generalize hW:w.alloc (.cells _ 79)=W
   have hWz:W.heap.size=w.heap.size+1:=by rw[← hW];simp
   have hBW:Below w.heap.size w W:=by rw[← hW];exact zr.alloc lr _
   have k0:W.cell? ⟨w.heap.size,0,none⟩=some (.string nm):=by rw[← hW,cellA];simp[*]
   have k1:W.cell? ⟨w.heap.size,1,none⟩=some (.int .u8 2):=by rw[← hW,cellA];simp[*]
   have k2:W.cell? ⟨w.heap.size,2,none⟩=some (.bool dn):=by rw[← hW,cellA];simp[*]
   have k3:W.cell? ⟨w.heap.size,3,none⟩=some (.int .u8 nu):=by rw[← hW,cellA];simp[*]
   have k4:W.cell? ⟨w.heap.size,4,none⟩=some (.bool bd):=by rw[← hW,cellA];simp[*]
   have k5:W.cell? ⟨w.heap.size,5,none⟩=some (.bool lb):=by rw[← hW,cellA];simp[*]
   have k6:W.cell? ⟨w.heap.size,6,none⟩=some (.string lm):=by rw[← hW,cellA];simp[*]
   have k7:W.cell? ⟨w.heap.size,7,none⟩=some (.bool hb):=by rw[← hW,cellA];simp[*]
   have k8:W.cell? ⟨w.heap.size,8,none⟩=some (.string hm):=by rw[← hW,cellA];simp[*]
   have k9:W.cell? ⟨w.heap.size,9,none⟩=some (.int .i64 mo):=by rw[← hW,cellA];simp[*]
   have k10:W.cell? ⟨w.heap.size,10,none⟩=some (.int .i64 st):=by rw[← hW,cellA];simp[*]
   have k11:W.cell? ⟨w.heap.size,11,none⟩=some (.bool sh):=by rw[← hW,cellA];simp[*]
   have k12:W.cell? ⟨w.heap.size,12,none⟩=some (.bool bk):=by rw[← hW,cellA];simp[*]
   have k13:W.cell? ⟨w.heap.size,13,none⟩=some (.slice a fs.length c):=by rw[← hW,cellA];simp[*]
   have HWZ:=zh hWz
   clear hW hWz
   have hbd:Below W.heap.size W W.drew:=(Below.refl W.heap.size W).drew
   refine wp_region_held_drew (S:=fun w'=>w'.cell? ⟨w.heap.size,0,none⟩=some (.string nm)∧w'.cell? ⟨w.heap.size,1,none⟩=some (.int .u8 2)∧w'.cell? ⟨w.heap.size,2,none⟩=some (.bool dn)∧w'.cell? ⟨w.heap.size,3,none⟩=some (.int .u8 nu)∧w'.cell? ⟨w.heap.size,4,none⟩=some (.bool bd)∧w'.cell? ⟨w.heap.size,5,none⟩=some (.bool lb)∧w'.cell? ⟨w.heap.size,6,none⟩=some (.string lm)∧w'.cell? ⟨w.heap.size,7,none⟩=some (.bool hb)∧w'.cell? ⟨w.heap.size,8,none⟩=some (.string hm)∧w'.cell? ⟨w.heap.size,9,none⟩=some (.int .i64 mo)∧w'.cell? ⟨w.heap.size,10,none⟩=some (.int .i64 st)∧w'.cell? ⟨w.heap.size,11,none⟩=some (.bool sh)∧w'.cell? ⟨w.heap.size,12,none⟩=some (.bool bk)∧w'.cell? ⟨w.heap.size,13,none⟩=some (.slice a fs.length c)∧Below W.heap.size W w') (by kernel_rfl) ⟨k0,k1,k2,k3,k4,k5,k6,k7,k8,k9,k10,k11,k12,k13,hbd⟩ (fun hHeld=>?_)
   refine tx 1 ?v1b rfl (by kernel_rfl) tq (by rfl) ?hy1b (by assumption) ?rest1b
   case hy1b=>(rintro wS ⟨k0,k1,k2,k3,k4,k5,k6,k7,k8,k9,k10,k11,k12,k13,kb⟩;go_simp;try with_reducible rfl)
   try simp[Act.put]
   refine tx 2 ?v2b rfl (by kernel_rfl) tq (by rfl) ?hy2b (by assumption) ?rest2b
   case hy2b=>(rintro wS ⟨k0,k1,k2,k3,k4,k5,k6,k7,k8,k9,k10,k11,k12,k13,kb⟩;go_simp;try with_reducible rfl)
   try simp[Act.put]
   refine tx 3 ?v3b rfl (by kernel_rfl) tq (by rfl) ?hy3b (by assumption) ?rest3b
   case hy3b=>(rintro wS ⟨k0,k1,k2,k3,k4,k5,k6,k7,k8,k9,k10,k11,k12,k13,kb⟩;go_simp;try with_reducible rfl)
   try simp[Act.put]
   rw[show IntKind.u8.wrap 1=1 by decide]
   refine tx 7 ?v7b rfl (by kernel_rfl) tq (by rfl) ?hy7b (by assumption) ?rest7b
   case hy7b=>(rintro wS ⟨k0,k1,k2,k3,k4,k5,k6,k7,k8,k9,k10,k11,k12,k13,kb⟩;go_simp;try with_reducible rfl)
   try simp[Act.put]
   refine wpAnyH_ready (rs:=[0]) (by kernel_rfl) (by simp) ?_
   refine AllReadyH.cons rfl (fun K hK=>?_) AllReadyH.nil
   go_simp
   obtain⟨k0,k1,k2,k3,k4,k5,k6,k7,k8,k9,k10,k11,k12,k13,kb⟩:=hHeld
   refine(kinds_at _).mono ?_
   rintro e w9 ⟨rfl,hb9,hk9⟩
   have kk:w9.cell? ⟨W.heap.size,5,none⟩=some (.func (.func 139) #[] #[]):=hk9 5
   replace k0:=V.keeps hb9 k0
   replace k1:=V.keeps hb9 k1
   replace k2:=V.keeps hb9 k2
   replace k3:=V.keeps hb9 k3
   replace k4:=V.keeps hb9 k4
   replace k5:=V.keeps hb9 k5
   replace k6:=V.keeps hb9 k6
   replace k7:=V.keeps hb9 k7
   replace k8:=V.keeps hb9 k8
   replace k9:=V.keeps hb9 k9
   replace k10:=V.keeps hb9 k10
   replace k11:=V.keeps hb9 k11
   replace k12:=V.keeps hb9 k12
   replace k13:=V.keeps hb9 k13
   replace kb:=V.two kb hb9
   go_wp2_with fail
   refine hK.out _ _ ⟨k0,k1,k2,k3,k4,k5,k6,k7,k8,k9,k10,k11,k12,k13,kb⟩ (fun hHeld=>?_)
   try simp[Act.put]
   refine tx 4 ?v4b rfl (by kernel_rfl) tq (by rfl) ?hy4b (by assumption) ?rest4b
   case hy4b=>(rintro wS ⟨k0,k1,k2,k3,k4,k5,k6,k7,k8,k9,k10,k11,k12,k13,kb⟩;go_simp;try with_reducible rfl)
   try simp[Act.put]
   refine tx 5 ?v5b rfl (by kernel_rfl) tq (by rfl) ?hy5b (by assumption) ?rest5b
   case hy5b=>(rintro wS ⟨k0,k1,k2,k3,k4,k5,k6,k7,k8,k9,k10,k11,k12,k13,kb⟩;go_simp;try with_reducible rfl)
   try simp[Act.put]
   refine wpAnyH_ready (rs:=[6]) (by kernel_rfl) (by simp) ?_
   refine AllReadyH.cons rfl (fun K hK=>?_) AllReadyH.nil
   go_simp
   go_wp2_with fail
   refine hK.out _ _ hHeld (fun hHeld=>?_)
   try simp[Act.put]
   refine wpAnyH_ready (rs:=[8]) (by kernel_rfl) (by simp) ?_
   refine AllReadyH.cons rfl (fun K hK=>?_) AllReadyH.nil
   go_simp
   obtain⟨k0,k1,k2,k3,k4,k5,k6,k7,k8,k9,k10,k11,k12,k13,kb⟩:=hHeld
   have HK2:=HK.out
   try simp only [eq_false_of_ne_true ‹¬bd=true›] at HK2
   try simp only [‹bd=true›] at HK2
   try simp only [eq_false_of_ne_true ‹¬lb=true›] at HK2
   try simp only [‹lb=true›] at HK2
   try simp only [eq_false_of_ne_true ‹¬hb=true›] at HK2
   try simp only [‹hb=true›] at HK2
   try simp only [eq_false_of_ne_true ‹¬sh=true›] at HK2
   try simp only [‹sh=true›] at HK2
   try simp only [eq_false_of_ne_true ‹¬bk=true›] at HK2
   try simp only [‹bk=true›] at HK2
   try simp only [‹mo=0›] at HK2
   try simp only [‹st=0›] at HK2
   refine(HK2 _).mono ?_
   rintro e w8 ⟨rfl,hb9⟩
   replace k0:=V.keeps hb9 k0
   replace k1:=V.keeps hb9 k1
   replace k2:=V.keeps hb9 k2
   replace k3:=V.keeps hb9 k3
   replace k4:=V.keeps hb9 k4
   replace k5:=V.keeps hb9 k5
   replace k6:=V.keeps hb9 k6
   replace k7:=V.keeps hb9 k7
   replace k8:=V.keeps hb9 k8
   replace k9:=V.keeps hb9 k9
   replace k10:=V.keeps hb9 k10
   replace k11:=V.keeps hb9 k11
   replace k12:=V.keeps hb9 k12
   replace k13:=V.keeps hb9 k13
   replace kb:=V.two kb hb9
   go_wp2_with fail
   refine hK.out _ _ ⟨k0,k1,k2,k3,k4,k5,k6,k7,k8,k9,k10,k11,k12,k13,kb⟩ (fun hHeld=>?_)
   try simp[Act.put]
   refine tx 9 ?v9b rfl (by kernel_rfl) tq (by rfl) ?hy9b (by assumption) ?rest9b
   case hy9b=>(rintro wS ⟨k0,k1,k2,k3,k4,k5,k6,k7,k8,k9,k10,k11,k12,k13,kb⟩;go_simp;try with_reducible rfl)
   try simp[Act.put]
   refine wpAnyH_done (by kernel_rfl) ?_ _
   go_wp2_with fail
   obtain⟨k0,k1,k2,k3,k4,k5,k6,k7,k8,k9,k10,k11,k12,k13,kb⟩:=hHeld
   go_ret
   refine⟨congrArg (fun b=>Ending.returned (.bool b)) ?_,hBW.trans (kb.mono (by rw[HWZ.out];omega))⟩
   rw[← HX.out]
   simp[oddX,Co.zero,← List.length_pos_iff,Nat.not_lt.2 hnu, *]
 · skip
   generalize hW:w.alloc (.cells _ 79)=W
   have hWz:W.heap.size=w.heap.size+1:=by rw[← hW];simp
   have hBW:Below w.heap.size w W:=by rw[← hW];exact zr.alloc lr _
   have k0:W.cell? ⟨w.heap.size,0,none⟩=some (.string nm):=by rw[← hW,cellA];simp[*]
   have k1:W.cell? ⟨w.heap.size,1,none⟩=some (.int .u8 2):=by rw[← hW,cellA];simp[*]
   have k2:W.cell? ⟨w.heap.size,2,none⟩=some (.bool dn):=by rw[← hW,cellA];simp[*]
   have k3:W.cell? ⟨w.heap.size,3,none⟩=some (.int .u8 nu):=by rw[← hW,cellA];simp[*]
   have k4:W.cell? ⟨w.heap.size,4,none⟩=some (.bool bd):=by rw[← hW,cellA];simp[*]
   have k5:W.cell? ⟨w.heap.size,5,none⟩=some (.bool lb):=by rw[← hW,cellA];simp[*]
   have k6:W.cell? ⟨w.heap.size,6,none⟩=some (.string lm):=by rw[← hW,cellA];simp[*]
   have k7:W.cell? ⟨w.heap.size,7,none⟩=some (.bool hb):=by rw[← hW,cellA];simp[*]
   have k8:W.cell? ⟨w.heap.size,8,none⟩=some (.string hm):=by rw[← hW,cellA];simp[*]
   have k9:W.cell? ⟨w.heap.size,9,none⟩=some (.int .i64 mo):=by rw[← hW,cellA];simp[*]
   have k10:W.cell? ⟨w.heap.size,10,none⟩=some (.int .i64 st):=by rw[← hW,cellA];simp[*]
   have k11:W.cell? ⟨w.heap.size,11,none⟩=some (.bool sh):=by rw[← hW,cellA];simp[*]
   have k12:W.cell? ⟨w.heap.size,12,none⟩=some (.bool bk):=by rw[← hW,cellA];simp[*]
   have k13:W.cell? ⟨w.heap.size,13,none⟩=some (.slice a fs.length c):=by rw[← hW,cellA];simp[*]
   have HWZ:=zh hWz
   clear hW hWz
   have hbd:Below W.heap.size W W.drew:=(Below.refl W.heap.size W).drew
   refine wp_region_held_drew (S:=fun w'=>w'.cell? ⟨w.heap.size,0,none⟩=some (.string nm)∧w'.cell? ⟨w.heap.size,1,none⟩=some (.int .u8 2)∧w'.cell? ⟨w.heap.size,2,none⟩=some (.bool dn)∧w'.cell? ⟨w.heap.size,3,none⟩=some (.int .u8 nu)∧w'.cell? ⟨w.heap.size,4,none⟩=some (.bool bd)∧w'.cell? ⟨w.heap.size,5,none⟩=some (.bool lb)∧w'.cell? ⟨w.heap.size,6,none⟩=some (.string lm)∧w'.cell? ⟨w.heap.size,7,none⟩=some (.bool hb)∧w'.cell? ⟨w.heap.size,8,none⟩=some (.string hm)∧w'.cell? ⟨w.heap.size,9,none⟩=some (.int .i64 mo)∧w'.cell? ⟨w.heap.size,10,none⟩=some (.int .i64 st)∧w'.cell? ⟨w.heap.size,11,none⟩=some (.bool sh)∧w'.cell? ⟨w.heap.size,12,none⟩=some (.bool bk)∧w'.cell? ⟨w.heap.size,13,none⟩=some (.slice a fs.length c)∧Below W.heap.size W w') (by kernel_rfl) ⟨k0,k1,k2,k3,k4,k5,k6,k7,k8,k9,k10,k11,k12,k13,hbd⟩ (fun hHeld=>?_)
   refine tx 1 ?v1c rfl (by kernel_rfl) tq (by rfl) ?hy1c (by assumption) ?rest1c
   case hy1c=>(rintro wS ⟨k0,k1,k2,k3,k4,k5,k6,k7,k8,k9,k10,k11,k12,k13,kb⟩;go_simp;try with_reducible rfl)
   try simp[Act.put]
   refine tx 2 ?v2c rfl (by kernel_rfl) tq (by rfl) ?hy2c (by assumption) ?rest2c
   case hy2c=>(rintro wS ⟨k0,k1,k2,k3,k4,k5,k6,k7,k8,k9,k10,k11,k12,k13,kb⟩;go_simp;try with_reducible rfl)
   try simp[Act.put]
   refine tx 3 ?v3c rfl (by kernel_rfl) tq (by rfl) ?hy3c (by assumption) ?rest3c
   case hy3c=>(rintro wS ⟨k0,k1,k2,k3,k4,k5,k6,k7,k8,k9,k10,k11,k12,k13,kb⟩;go_simp;try with_reducible rfl)
   try simp[Act.put]
   rw[show IntKind.u8.wrap 1=1 by decide]
   refine tx 7 ?v7c rfl (by kernel_rfl) tq (by rfl) ?hy7c (by assumption) ?rest7c
   case hy7c=>(rintro wS ⟨k0,k1,k2,k3,k4,k5,k6,k7,k8,k9,k10,k11,k12,k13,kb⟩;go_simp;try with_reducible rfl)
   try simp[Act.put]
   refine wpAnyH_ready (rs:=[0]) (by kernel_rfl) (by simp) ?_
   refine AllReadyH.cons rfl (fun K hK=>?_) AllReadyH.nil
   go_simp
   obtain⟨k0,k1,k2,k3,k4,k5,k6,k7,k8,k9,k10,k11,k12,k13,kb⟩:=hHeld
   refine(kinds_at _).mono ?_
   rintro e w9 ⟨rfl,hb9,hk9⟩
   have kk:w9.cell? ⟨W.heap.size,5,none⟩=some (.func (.func 139) #[] #[]):=hk9 5
   replace k0:=V.keeps hb9 k0
   replace k1:=V.keeps hb9 k1
   replace k2:=V.keeps hb9 k2
   replace k3:=V.keeps hb9 k3
   replace k4:=V.keeps hb9 k4
   replace k5:=V.keeps hb9 k5
   replace k6:=V.keeps hb9 k6
   replace k7:=V.keeps hb9 k7
   replace k8:=V.keeps hb9 k8
   replace k9:=V.keeps hb9 k9
   replace k10:=V.keeps hb9 k10
   replace k11:=V.keeps hb9 k11
   replace k12:=V.keeps hb9 k12
   replace k13:=V.keeps hb9 k13
   replace kb:=V.two kb hb9
   go_wp2_with fail
   refine hK.out _ _ ⟨k0,k1,k2,k3,k4,k5,k6,k7,k8,k9,k10,k11,k12,k13,kb⟩ (fun hHeld=>?_)
   try simp[Act.put]
   refine tx 4 ?v4c rfl (by kernel_rfl) tq (by rfl) ?hy4c (by assumption) ?rest4c
   case hy4c=>(rintro wS ⟨k0,k1,k2,k3,k4,k5,k6,k7,k8,k9,k10,k11,k12,k13,kb⟩;go_simp;try with_reducible rfl)
   try simp[Act.put]
   refine tx 5 ?v5c rfl (by kernel_rfl) tq (by rfl) ?hy5c (by assumption) ?rest5c
   case hy5c=>(rintro wS ⟨k0,k1,k2,k3,k4,k5,k6,k7,k8,k9,k10,k11,k12,k13,kb⟩;go_simp;try with_reducible rfl)
   try simp[Act.put]
   refine wpAnyH_ready (rs:=[6]) (by kernel_rfl) (by simp) ?_
   refine AllReadyH.cons rfl (fun K hK=>?_) AllReadyH.nil
   go_simp
   go_wp2_with fail
   refine hK.out _ _ hHeld (fun hHeld=>?_)
   try simp[Act.put]
   refine wpAnyH_ready (rs:=[8]) (by kernel_rfl) (by simp) ?_
   refine AllReadyH.cons rfl (fun K hK=>?_) AllReadyH.nil
   go_simp
   obtain⟨k0,k1,k2,k3,k4,k5,k6,k7,k8,k9,k10,k11,k12,k13,kb⟩:=hHeld
   have HK2:=HK.out
   try simp only [eq_false_of_ne_true ‹¬bd=true›] at HK2
   try simp only [‹bd=true›] at HK2
   try simp only [eq_false_of_ne_true ‹¬lb=true›] at HK2
   try simp only [‹lb=true›] at HK2
   try simp only [eq_false_of_ne_true ‹¬hb=true›] at HK2
   try simp only [‹hb=true›] at HK2
   try simp only [eq_false_of_ne_true ‹¬sh=true›] at HK2
   try simp only [‹sh=true›] at HK2
   try simp only [eq_false_of_ne_true ‹¬bk=true›] at HK2
   try simp only [‹bk=true›] at HK2
   try simp only [‹mo=0›] at HK2
   try simp only [‹st=0›] at HK2
   refine(HK2 _).mono ?_
   rintro e w8 ⟨rfl,hb9⟩
   replace k0:=V.keeps hb9 k0
   replace k1:=V.keeps hb9 k1
   replace k2:=V.keeps hb9 k2
   replace k3:=V.keeps hb9 k3
   replace k4:=V.keeps hb9 k4
   replace k5:=V.keeps hb9 k5
   replace k6:=V.keeps hb9 k6
   replace k7:=V.keeps hb9 k7
   replace k8:=V.keeps hb9 k8
   replace k9:=V.keeps hb9 k9
   replace k10:=V.keeps hb9 k10
   replace k11:=V.keeps hb9 k11
   replace k12:=V.keeps hb9 k12
   replace k13:=V.keeps hb9 k13
   replace kb:=V.two kb hb9
   go_wp2_with fail
   refine hK.out _ _ ⟨k0,k1,k2,k3,k4,k5,k6,k7,k8,k9,k10,k11,k12,k13,kb⟩ (fun hHeld=>?_)
   try simp[Act.put]
   refine tx 9 ?v9c rfl (by kernel_rfl) tq (by rfl) ?hy9c (by assumption) ?rest9c
   case hy9c=>(rintro wS ⟨k0,k1,k2,k3,k4,k5,k6,k7,k8,k9,k10,k11,k12,k13,kb⟩;go_simp;try with_reducible rfl)
   try simp[Act.put]
   refine wpAnyH_done (by kernel_rfl) ?_ _
   go_wp2_with fail
   obtain⟨k0,k1,k2,k3,k4,k5,k6,k7,k8,k9,k10,k11,k12,k13,kb⟩:=hHeld
   go_ret
   refine⟨congrArg (fun b=>Ending.returned (.bool b)) ?_,hBW.trans (kb.mono (by rw[HWZ.out];omega))⟩
   rw[← HX.out]
   simp[oddX,Co.zero,← List.length_pos_iff,Nat.not_lt.2 hnu, *]
 · skip
   generalize hW:w.alloc (.cells _ 79)=W
   have hWz:W.heap.size=w.heap.size+1:=by rw[← hW];simp
   have hBW:Below w.heap.size w W:=by rw[← hW];exact zr.alloc lr _
   have k0:W.cell? ⟨w.heap.size,0,none⟩=some (.string nm):=by rw[← hW,cellA];simp[*]
   have k1:W.cell? ⟨w.heap.size,1,none⟩=some (.int .u8 2):=by rw[← hW,cellA];simp[*]
   have k2:W.cell? ⟨w.heap.size,2,none⟩=some (.bool dn):=by rw[← hW,cellA];simp[*]
   have k3:W.cell? ⟨w.heap.size,3,none⟩=some (.int .u8 nu):=by rw[← hW,cellA];simp[*]
   have k4:W.cell? ⟨w.heap.size,4,none⟩=some (.bool bd):=by rw[← hW,cellA];simp[*]
   have k5:W.cell? ⟨w.heap.size,5,none⟩=some (.bool lb):=by rw[← hW,cellA];simp[*]
   have k6:W.cell? ⟨w.heap.size,6,none⟩=some (.string lm):=by rw[← hW,cellA];simp[*]
   have k7:W.cell? ⟨w.heap.size,7,none⟩=some (.bool hb):=by rw[← hW,cellA];simp[*]
   have k8:W.cell? ⟨w.heap.size,8,none⟩=some (.string hm):=by rw[← hW,cellA];simp[*]
   have k9:W.cell? ⟨w.heap.size,9,none⟩=some (.int .i64 mo):=by rw[← hW,cellA];simp[*]
   have k10:W.cell? ⟨w.heap.size,10,none⟩=some (.int .i64 st):=by rw[← hW,cellA];simp[*]
   have k11:W.cell? ⟨w.heap.size,11,none⟩=some (.bool sh):=by rw[← hW,cellA];simp[*]
   have k12:W.cell? ⟨w.heap.size,12,none⟩=some (.bool bk):=by rw[← hW,cellA];simp[*]
   have k13:W.cell? ⟨w.heap.size,13,none⟩=some (.slice a fs.length c):=by rw[← hW,cellA];simp[*]
   have HWZ:=zh hWz
   clear hW hWz
   have hbd:Below W.heap.size W W.drew:=(Below.refl W.heap.size W).drew
   refine wp_region_held_drew (S:=fun w'=>w'.cell? ⟨w.heap.size,0,none⟩=some (.string nm)∧w'.cell? ⟨w.heap.size,1,none⟩=some (.int .u8 2)∧w'.cell? ⟨w.heap.size,2,none⟩=some (.bool dn)∧w'.cell? ⟨w.heap.size,3,none⟩=some (.int .u8 nu)∧w'.cell? ⟨w.heap.size,4,none⟩=some (.bool bd)∧w'.cell? ⟨w.heap.size,5,none⟩=some (.bool lb)∧w'.cell? ⟨w.heap.size,6,none⟩=some (.string lm)∧w'.cell? ⟨w.heap.size,7,none⟩=some (.bool hb)∧w'.cell? ⟨w.heap.size,8,none⟩=some (.string hm)∧w'.cell? ⟨w.heap.size,9,none⟩=some (.int .i64 mo)∧w'.cell? ⟨w.heap.size,10,none⟩=some (.int .i64 st)∧w'.cell? ⟨w.heap.size,11,none⟩=some (.bool sh)∧w'.cell? ⟨w.heap.size,12,none⟩=some (.bool bk)∧w'.cell? ⟨w.heap.size,13,none⟩=some (.slice a fs.length c)∧Below W.heap.size W w') (by kernel_rfl) ⟨k0,k1,k2,k3,k4,k5,k6,k7,k8,k9,k10,k11,k12,k13,hbd⟩ (fun hHeld=>?_)
   refine tx 1 ?v1d rfl (by kernel_rfl) tq (by rfl) ?hy1d (by assumption) ?rest1d
   case hy1d=>(rintro wS ⟨k0,k1,k2,k3,k4,k5,k6,k7,k8,k9,k10,k11,k12,k13,kb⟩;go_simp;try with_reducible rfl)
   try simp[Act.put]
   refine tx 2 ?v2d rfl (by kernel_rfl) tq (by rfl) ?hy2d (by assumption) ?rest2d
   case hy2d=>(rintro wS ⟨k0,k1,k2,k3,k4,k5,k6,k7,k8,k9,k10,k11,k12,k13,kb⟩;go_simp;try with_reducible rfl)
   try simp[Act.put]
   refine tx 3 ?v3d rfl (by kernel_rfl) tq (by rfl) ?hy3d (by assumption) ?rest3d
   case hy3d=>(rintro wS ⟨k0,k1,k2,k3,k4,k5,k6,k7,k8,k9,k10,k11,k12,k13,kb⟩;go_simp;try with_reducible rfl)
   try simp[Act.put]
   rw[show IntKind.u8.wrap 1=1 by decide]
   refine tx 7 ?v7d rfl (by kernel_rfl) tq (by rfl) ?hy7d (by assumption) ?rest7d
   case hy7d=>(rintro wS ⟨k0,k1,k2,k3,k4,k5,k6,k7,k8,k9,k10,k11,k12,k13,kb⟩;go_simp;try with_reducible rfl)
   try simp[Act.put]
   refine wpAnyH_ready (rs:=[0]) (by kernel_rfl) (by simp) ?_
   refine AllReadyH.cons rfl (fun K hK=>?_) AllReadyH.nil
   go_simp
   obtain⟨k0,k1,k2,k3,k4,k5,k6,k7,k8,k9,k10,k11,k12,k13,kb⟩:=hHeld
   refine(kinds_at _).mono ?_
   rintro e w9 ⟨rfl,hb9,hk9⟩
   have kk:w9.cell? ⟨W.heap.size,5,none⟩=some (.func (.func 139) #[] #[]):=hk9 5
   replace k0:=V.keeps hb9 k0
   replace k1:=V.keeps hb9 k1
   replace k2:=V.keeps hb9 k2
   replace k3:=V.keeps hb9 k3
   replace k4:=V.keeps hb9 k4
   replace k5:=V.keeps hb9 k5
   replace k6:=V.keeps hb9 k6
   replace k7:=V.keeps hb9 k7
   replace k8:=V.keeps hb9 k8
   replace k9:=V.keeps hb9 k9
   replace k10:=V.keeps hb9 k10
   replace k11:=V.keeps hb9 k11
   replace k12:=V.keeps hb9 k12
   replace k13:=V.keeps hb9 k13
   replace kb:=V.two kb hb9
   go_wp2_with fail
   refine hK.out _ _ ⟨k0,k1,k2,k3,k4,k5,k6,k7,k8,k9,k10,k11,k12,k13,kb⟩ (fun hHeld=>?_)
   try simp[Act.put]
   refine tx 4 ?v4d rfl (by kernel_rfl) tq (by rfl) ?hy4d (by assumption) ?rest4d
   case hy4d=>(rintro wS ⟨k0,k1,k2,k3,k4,k5,k6,k7,k8,k9,k10,k11,k12,k13,kb⟩;go_simp;try with_reducible rfl)
   try simp[Act.put]
   refine tx 5 ?v5d rfl (by kernel_rfl) tq (by rfl) ?hy5d (by assumption) ?rest5d
   case hy5d=>(rintro wS ⟨k0,k1,k2,k3,k4,k5,k6,k7,k8,k9,k10,k11,k12,k13,kb⟩;go_simp;try with_reducible rfl)
   try simp[Act.put]
   refine wpAnyH_ready (rs:=[6]) (by kernel_rfl) (by simp) ?_
   refine AllReadyH.cons rfl (fun K hK=>?_) AllReadyH.nil
   go_simp
   go_wp2_with fail
   refine hK.out _ _ hHeld (fun hHeld=>?_)
   try simp[Act.put]
   refine wpAnyH_ready (rs:=[8]) (by kernel_rfl) (by simp) ?_
   refine AllReadyH.cons rfl (fun K hK=>?_) AllReadyH.nil
   go_simp
   obtain⟨k0,k1,k2,k3,k4,k5,k6,k7,k8,k9,k10,k11,k12,k13,kb⟩:=hHeld
   have HK2:=HK.out
   try simp only [eq_false_of_ne_true ‹¬bd=true›] at HK2
   try simp only [‹bd=true›] at HK2
   try simp only [eq_false_of_ne_true ‹¬lb=true›] at HK2
   try simp only [‹lb=true›] at HK2
   try simp only [eq_false_of_ne_true ‹¬hb=true›] at HK2
   try simp only [‹hb=true›] at HK2
   try simp only [eq_false_of_ne_true ‹¬sh=true›] at HK2
   try simp only [‹sh=true›] at HK2
   try simp only [eq_false_of_ne_true ‹¬bk=true›] at HK2
   try simp only [‹bk=true›] at HK2
   try simp only [‹mo=0›] at HK2
   try simp only [‹st=0›] at HK2
   refine(HK2 _).mono ?_
   rintro e w8 ⟨rfl,hb9⟩
   replace k0:=V.keeps hb9 k0
   replace k1:=V.keeps hb9 k1
   replace k2:=V.keeps hb9 k2
   replace k3:=V.keeps hb9 k3
   replace k4:=V.keeps hb9 k4
   replace k5:=V.keeps hb9 k5
   replace k6:=V.keeps hb9 k6
   replace k7:=V.keeps hb9 k7
   replace k8:=V.keeps hb9 k8
   replace k9:=V.keeps hb9 k9
   replace k10:=V.keeps hb9 k10
   replace k11:=V.keeps hb9 k11
   replace k12:=V.keeps hb9 k12
   replace k13:=V.keeps hb9 k13
   replace kb:=V.two kb hb9
   go_wp2_with fail
   refine hK.out _ _ ⟨k0,k1,k2,k3,k4,k5,k6,k7,k8,k9,k10,k11,k12,k13,kb⟩ (fun hHeld=>?_)
   try simp[Act.put]
   refine tx 9 ?v9d rfl (by kernel_rfl) tq (by rfl) ?hy9d (by assumption) ?rest9d
   case hy9d=>(rintro wS ⟨k0,k1,k2,k3,k4,k5,k6,k7,k8,k9,k10,k11,k12,k13,kb⟩;go_simp;try with_reducible rfl)
   try simp[Act.put]
   refine wpAnyH_done (by kernel_rfl) ?_ _
   go_wp2_with fail
   obtain⟨k0,k1,k2,k3,k4,k5,k6,k7,k8,k9,k10,k11,k12,k13,kb⟩:=hHeld
   go_ret
   refine⟨congrArg (fun b=>Ending.returned (.bool b)) ?_,hBW.trans (kb.mono (by rw[HWZ.out];omega))⟩
   rw[← HX.out]
   simp[oddX,Co.zero,← List.length_pos_iff,Nat.not_lt.2 hnu, *]
 · skip
   generalize hW:w.alloc (.cells _ 79)=W
   have hWz:W.heap.size=w.heap.size+1:=by rw[← hW];simp
   have hBW:Below w.heap.size w W:=by rw[← hW];exact zr.alloc lr _
   have k0:W.cell? ⟨w.heap.size,0,none⟩=some (.string nm):=by rw[← hW,cellA];simp[*]
   have k1:W.cell? ⟨w.heap.size,1,none⟩=some (.int .u8 2):=by rw[← hW,cellA];simp[*]
   have k2:W.cell? ⟨w.heap.size,2,none⟩=some (.bool dn):=by rw[← hW,cellA];simp[*]
   have k3:W.cell? ⟨w.heap.size,3,none⟩=some (.int .u8 nu):=by rw[← hW,cellA];simp[*]
   have k4:W.cell? ⟨w.heap.size,4,none⟩=some (.bool bd):=by rw[← hW,cellA];simp[*]
   have k5:W.cell? ⟨w.heap.size,5,none⟩=some (.bool lb):=by rw[← hW,cellA];simp[*]
   have k6:W.cell? ⟨w.heap.size,6,none⟩=some (.string lm):=by rw[← hW,cellA];simp[*]
   have k7:W.cell? ⟨w.heap.size,7,none⟩=some (.bool hb):=by rw[← hW,cellA];simp[*]
   have k8:W.cell? ⟨w.heap.size,8,none⟩=some (.string hm):=by rw[← hW,cellA];simp[*]
   have k9:W.cell? ⟨w.heap.size,9,none⟩=some (.int .i64 mo):=by rw[← hW,cellA];simp[*]
   have k10:W.cell? ⟨w.heap.size,10,none⟩=some (.int .i64 st):=by rw[← hW,cellA];simp[*]
   have k11:W.cell? ⟨w.heap.size,11,none⟩=some (.bool sh):=by rw[← hW,cellA];simp[*]
   have k12:W.cell? ⟨w.heap.size,12,none⟩=some (.bool bk):=by rw[← hW,cellA];simp[*]
   have k13:W.cell? ⟨w.heap.size,13,none⟩=some (.slice a fs.length c):=by rw[← hW,cellA];simp[*]
   have HWZ:=zh hWz
   clear hW hWz
   have hbd:Below W.heap.size W W.drew:=(Below.refl W.heap.size W).drew
   refine wp_region_held_drew (S:=fun w'=>w'.cell? ⟨w.heap.size,0,none⟩=some (.string nm)∧w'.cell? ⟨w.heap.size,1,none⟩=some (.int .u8 2)∧w'.cell? ⟨w.heap.size,2,none⟩=some (.bool dn)∧w'.cell? ⟨w.heap.size,3,none⟩=some (.int .u8 nu)∧w'.cell? ⟨w.heap.size,4,none⟩=some (.bool bd)∧w'.cell? ⟨w.heap.size,5,none⟩=some (.bool lb)∧w'.cell? ⟨w.heap.size,6,none⟩=some (.string lm)∧w'.cell? ⟨w.heap.size,7,none⟩=some (.bool hb)∧w'.cell? ⟨w.heap.size,8,none⟩=some (.string hm)∧w'.cell? ⟨w.heap.size,9,none⟩=some (.int .i64 mo)∧w'.cell? ⟨w.heap.size,10,none⟩=some (.int .i64 st)∧w'.cell? ⟨w.heap.size,11,none⟩=some (.bool sh)∧w'.cell? ⟨w.heap.size,12,none⟩=some (.bool bk)∧w'.cell? ⟨w.heap.size,13,none⟩=some (.slice a fs.length c)∧Below W.heap.size W w') (by kernel_rfl) ⟨k0,k1,k2,k3,k4,k5,k6,k7,k8,k9,k10,k11,k12,k13,hbd⟩ (fun hHeld=>?_)
   refine tx 1 ?v1e rfl (by kernel_rfl) tq (by rfl) ?hy1e (by assumption) ?rest1e
   case hy1e=>(rintro wS ⟨k0,k1,k2,k3,k4,k5,k6,k7,k8,k9,k10,k11,k12,k13,kb⟩;go_simp;try with_reducible rfl)
   try simp[Act.put]
   refine tx 2 ?v2e rfl (by kernel_rfl) tq (by rfl) ?hy2e (by assumption) ?rest2e
   case hy2e=>(rintro wS ⟨k0,k1,k2,k3,k4,k5,k6,k7,k8,k9,k10,k11,k12,k13,kb⟩;go_simp;try with_reducible rfl)
   try simp[Act.put]
   refine tx 3 ?v3e rfl (by kernel_rfl) tq (by rfl) ?hy3e (by assumption) ?rest3e
   case hy3e=>(rintro wS ⟨k0,k1,k2,k3,k4,k5,k6,k7,k8,k9,k10,k11,k12,k13,kb⟩;go_simp;try with_reducible rfl)
   try simp[Act.put]
   rw[show IntKind.u8.wrap 1=1 by decide]
   refine tx 7 ?v7e rfl (by kernel_rfl) tq (by rfl) ?hy7e (by assumption) ?rest7e
   case hy7e=>(rintro wS ⟨k0,k1,k2,k3,k4,k5,k6,k7,k8,k9,k10,k11,k12,k13,kb⟩;go_simp;try with_reducible rfl)
   try simp[Act.put]
   refine wpAnyH_ready (rs:=[0]) (by kernel_rfl) (by simp) ?_
   refine AllReadyH.cons rfl (fun K hK=>?_) AllReadyH.nil
   go_simp
   obtain⟨k0,k1,k2,k3,k4,k5,k6,k7,k8,k9,k10,k11,k12,k13,kb⟩:=hHeld
   refine(kinds_at _).mono ?_
   rintro e w9 ⟨rfl,hb9,hk9⟩
   have kk:w9.cell? ⟨W.heap.size,5,none⟩=some (.func (.func 139) #[] #[]):=hk9 5
   replace k0:=V.keeps hb9 k0
   replace k1:=V.keeps hb9 k1
   replace k2:=V.keeps hb9 k2
   replace k3:=V.keeps hb9 k3
   replace k4:=V.keeps hb9 k4
   replace k5:=V.keeps hb9 k5
   replace k6:=V.keeps hb9 k6
   replace k7:=V.keeps hb9 k7
   replace k8:=V.keeps hb9 k8
   replace k9:=V.keeps hb9 k9
   replace k10:=V.keeps hb9 k10
   replace k11:=V.keeps hb9 k11
   replace k12:=V.keeps hb9 k12
   replace k13:=V.keeps hb9 k13
   replace kb:=V.two kb hb9
   go_wp2_with fail
   refine hK.out _ _ ⟨k0,k1,k2,k3,k4,k5,k6,k7,k8,k9,k10,k11,k12,k13,kb⟩ (fun hHeld=>?_)
   try simp[Act.put]
   refine tx 4 ?v4e rfl (by kernel_rfl) tq (by rfl) ?hy4e (by assumption) ?rest4e
   case hy4e=>(rintro wS ⟨k0,k1,k2,k3,k4,k5,k6,k7,k8,k9,k10,k11,k12,k13,kb⟩;go_simp;try with_reducible rfl)
   try simp[Act.put]
   refine tx 5 ?v5e rfl (by kernel_rfl) tq (by rfl) ?hy5e (by assumption) ?rest5e
   case hy5e=>(rintro wS ⟨k0,k1,k2,k3,k4,k5,k6,k7,k8,k9,k10,k11,k12,k13,kb⟩;go_simp;try with_reducible rfl)
   try simp[Act.put]
   refine wpAnyH_ready (rs:=[6]) (by kernel_rfl) (by simp) ?_
   refine AllReadyH.cons rfl (fun K hK=>?_) AllReadyH.nil
   go_simp
   go_wp2_with fail
   refine hK.out _ _ hHeld (fun hHeld=>?_)
   try simp[Act.put]
   refine wpAnyH_ready (rs:=[8]) (by kernel_rfl) (by simp) ?_
   refine AllReadyH.cons rfl (fun K hK=>?_) AllReadyH.nil
   go_simp
   obtain⟨k0,k1,k2,k3,k4,k5,k6,k7,k8,k9,k10,k11,k12,k13,kb⟩:=hHeld
   have HK2:=HK.out
   try simp only [eq_false_of_ne_true ‹¬bd=true›] at HK2
   try simp only [‹bd=true›] at HK2
   try simp only [eq_false_of_ne_true ‹¬lb=true›] at HK2
   try simp only [‹lb=true›] at HK2
   try simp only [eq_false_of_ne_true ‹¬hb=true›] at HK2
   try simp only [‹hb=true›] at HK2
   try simp only [eq_false_of_ne_true ‹¬sh=true›] at HK2
   try simp only [‹sh=true›] at HK2
   try simp only [eq_false_of_ne_true ‹¬bk=true›] at HK2
   try simp only [‹bk=true›] at HK2
   try simp only [‹mo=0›] at HK2
   try simp only [‹st=0›] at HK2
   refine(HK2 _).mono ?_
   rintro e w8 ⟨rfl,hb9⟩
   replace k0:=V.keeps hb9 k0
   replace k1:=V.keeps hb9 k1
   replace k2:=V.keeps hb9 k2
   replace k3:=V.keeps hb9 k3
   replace k4:=V.keeps hb9 k4
   replace k5:=V.keeps hb9 k5
   replace k6:=V.keeps hb9 k6
   replace k7:=V.keeps hb9 k7
   replace k8:=V.keeps hb9 k8
   replace k9:=V.keeps hb9 k9
   replace k10:=V.keeps hb9 k10
   replace k11:=V.keeps hb9 k11
   replace k12:=V.keeps hb9 k12
   replace k13:=V.keeps hb9 k13
   replace kb:=V.two kb hb9
   go_wp2_with fail
   refine hK.out _ _ ⟨k0,k1,k2,k3,k4,k5,k6,k7,k8,k9,k10,k11,k12,k13,kb⟩ (fun hHeld=>?_)
   try simp[Act.put]
   refine tx 9 ?v9e rfl (by kernel_rfl) tq (by rfl) ?hy9e (by assumption) ?rest9e
   case hy9e=>(rintro wS ⟨k0,k1,k2,k3,k4,k5,k6,k7,k8,k9,k10,k11,k12,k13,kb⟩;go_simp;try with_reducible rfl)
   try simp[Act.put]
   refine wpAnyH_done (by kernel_rfl) ?_ _
   go_wp2_with fail
   obtain⟨k0,k1,k2,k3,k4,k5,k6,k7,k8,k9,k10,k11,k12,k13,kb⟩:=hHeld
   go_ret
   refine⟨congrArg (fun b=>Ending.returned (.bool b)) ?_,hBW.trans (kb.mono (by rw[HWZ.out];omega))⟩
   rw[← HX.out]
   simp[oddX,Co.zero,← List.length_pos_iff,Nat.not_lt.2 hnu, *]
 · skip
   generalize hW:w.alloc (.cells _ 79)=W
   have hWz:W.heap.size=w.heap.size+1:=by rw[← hW];simp
   have hBW:Below w.heap.size w W:=by rw[← hW];exact zr.alloc lr _
   have k0:W.cell? ⟨w.heap.size,0,none⟩=some (.string nm):=by rw[← hW,cellA];simp[*]
   have k1:W.cell? ⟨w.heap.size,1,none⟩=some (.int .u8 2):=by rw[← hW,cellA];simp[*]
   have k2:W.cell? ⟨w.heap.size,2,none⟩=some (.bool dn):=by rw[← hW,cellA];simp[*]
   have k3:W.cell? ⟨w.heap.size,3,none⟩=some (.int .u8 nu):=by rw[← hW,cellA];simp[*]
   have k4:W.cell? ⟨w.heap.size,4,none⟩=some (.bool bd):=by rw[← hW,cellA];simp[*]
   have k5:W.cell? ⟨w.heap.size,5,none⟩=some (.bool lb):=by rw[← hW,cellA];simp[*]
   have k6:W.cell? ⟨w.heap.size,6,none⟩=some (.string lm):=by rw[← hW,cellA];simp[*]
   have k7:W.cell? ⟨w.heap.size,7,none⟩=some (.bool hb):=by rw[← hW,cellA];simp[*]
   have k8:W.cell? ⟨w.heap.size,8,none⟩=some (.string hm):=by rw[← hW,cellA];simp[*]
   have k9:W.cell? ⟨w.heap.size,9,none⟩=some (.int .i64 mo):=by rw[← hW,cellA];simp[*]
   have k10:W.cell? ⟨w.heap.size,10,none⟩=some (.int .i64 st):=by rw[← hW,cellA];simp[*]
   have k11:W.cell? ⟨w.heap.size,11,none⟩=some (.bool sh):=by rw[← hW,cellA];simp[*]
   have k12:W.cell? ⟨w.heap.size,12,none⟩=some (.bool bk):=by rw[← hW,cellA];simp[*]
   have k13:W.cell? ⟨w.heap.size,13,none⟩=some (.slice a fs.length c):=by rw[← hW,cellA];simp[*]
   have HWZ:=zh hWz
   clear hW hWz
   have hbd:Below W.heap.size W W.drew:=(Below.refl W.heap.size W).drew
   refine wp_region_held_drew (S:=fun w'=>w'.cell? ⟨w.heap.size,0,none⟩=some (.string nm)∧w'.cell? ⟨w.heap.size,1,none⟩=some (.int .u8 2)∧w'.cell? ⟨w.heap.size,2,none⟩=some (.bool dn)∧w'.cell? ⟨w.heap.size,3,none⟩=some (.int .u8 nu)∧w'.cell? ⟨w.heap.size,4,none⟩=some (.bool bd)∧w'.cell? ⟨w.heap.size,5,none⟩=some (.bool lb)∧w'.cell? ⟨w.heap.size,6,none⟩=some (.string lm)∧w'.cell? ⟨w.heap.size,7,none⟩=some (.bool hb)∧w'.cell? ⟨w.heap.size,8,none⟩=some (.string hm)∧w'.cell? ⟨w.heap.size,9,none⟩=some (.int .i64 mo)∧w'.cell? ⟨w.heap.size,10,none⟩=some (.int .i64 st)∧w'.cell? ⟨w.heap.size,11,none⟩=some (.bool sh)∧w'.cell? ⟨w.heap.size,12,none⟩=some (.bool bk)∧w'.cell? ⟨w.heap.size,13,none⟩=some (.slice a fs.length c)∧Below W.heap.size W w') (by kernel_rfl) ⟨k0,k1,k2,k3,k4,k5,k6,k7,k8,k9,k10,k11,k12,k13,hbd⟩ (fun hHeld=>?_)
   refine tx 1 ?v1f rfl (by kernel_rfl) tq (by rfl) ?hy1f (by assumption) ?rest1f
   case hy1f=>(rintro wS ⟨k0,k1,k2,k3,k4,k5,k6,k7,k8,k9,k10,k11,k12,k13,kb⟩;go_simp;try with_reducible rfl)
   try simp[Act.put]
   refine tx 2 ?v2f rfl (by kernel_rfl) tq (by rfl) ?hy2f (by assumption) ?rest2f
   case hy2f=>(rintro wS ⟨k0,k1,k2,k3,k4,k5,k6,k7,k8,k9,k10,k11,k12,k13,kb⟩;go_simp;try with_reducible rfl)
   try simp[Act.put]
   refine tx 3 ?v3f rfl (by kernel_rfl) tq (by rfl) ?hy3f (by assumption) ?rest3f
   case hy3f=>(rintro wS ⟨k0,k1,k2,k3,k4,k5,k6,k7,k8,k9,k10,k11,k12,k13,kb⟩;go_simp;try with_reducible rfl)
   try simp[Act.put]
   rw[show IntKind.u8.wrap 1=1 by decide]
   refine tx 7 ?v7f rfl (by kernel_rfl) tq (by rfl) ?hy7f (by assumption) ?rest7f
   case hy7f=>(rintro wS ⟨k0,k1,k2,k3,k4,k5,k6,k7,k8,k9,k10,k11,k12,k13,kb⟩;go_simp;try with_reducible rfl)
   try simp[Act.put]
   refine wpAnyH_ready (rs:=[0]) (by kernel_rfl) (by simp) ?_
   refine AllReadyH.cons rfl (fun K hK=>?_) AllReadyH.nil
   go_simp
   obtain⟨k0,k1,k2,k3,k4,k5,k6,k7,k8,k9,k10,k11,k12,k13,kb⟩:=hHeld
   refine(kinds_at _).mono ?_
   rintro e w9 ⟨rfl,hb9,hk9⟩
   have kk:w9.cell? ⟨W.heap.size,5,none⟩=some (.func (.func 139) #[] #[]):=hk9 5
   replace k0:=V.keeps hb9 k0
   replace k1:=V.keeps hb9 k1
   replace k2:=V.keeps hb9 k2
   replace k3:=V.keeps hb9 k3
   replace k4:=V.keeps hb9 k4
   replace k5:=V.keeps hb9 k5
   replace k6:=V.keeps hb9 k6
   replace k7:=V.keeps hb9 k7
   replace k8:=V.keeps hb9 k8
   replace k9:=V.keeps hb9 k9
   replace k10:=V.keeps hb9 k10
   replace k11:=V.keeps hb9 k11
   replace k12:=V.keeps hb9 k12
   replace k13:=V.keeps hb9 k13
   replace kb:=V.two kb hb9
   go_wp2_with fail
   refine hK.out _ _ ⟨k0,k1,k2,k3,k4,k5,k6,k7,k8,k9,k10,k11,k12,k13,kb⟩ (fun hHeld=>?_)
   try simp[Act.put]
   refine tx 4 ?v4f rfl (by kernel_rfl) tq (by rfl) ?hy4f (by assumption) ?rest4f
   case hy4f=>(rintro wS ⟨k0,k1,k2,k3,k4,k5,k6,k7,k8,k9,k10,k11,k12,k13,kb⟩;go_simp;try with_reducible rfl)
   try simp[Act.put]
   refine tx 5 ?v5f rfl (by kernel_rfl) tq (by rfl) ?hy5f (by assumption) ?rest5f
   case hy5f=>(rintro wS ⟨k0,k1,k2,k3,k4,k5,k6,k7,k8,k9,k10,k11,k12,k13,kb⟩;go_simp;try with_reducible rfl)
   try simp[Act.put]
   refine wpAnyH_ready (rs:=[6]) (by kernel_rfl) (by simp) ?_
   refine AllReadyH.cons rfl (fun K hK=>?_) AllReadyH.nil
   go_simp
   go_wp2_with fail
   refine hK.out _ _ hHeld (fun hHeld=>?_)
   try simp[Act.put]
   refine wpAnyH_ready (rs:=[8]) (by kernel_rfl) (by simp) ?_
   refine AllReadyH.cons rfl (fun K hK=>?_) AllReadyH.nil
   go_simp
   obtain⟨k0,k1,k2,k3,k4,k5,k6,k7,k8,k9,k10,k11,k12,k13,kb⟩:=hHeld
   have HK2:=HK.out
   try simp only [eq_false_of_ne_true ‹¬bd=true›] at HK2
   try simp only [‹bd=true›] at HK2
   try simp only [eq_false_of_ne_true ‹¬lb=true›] at HK2
   try simp only [‹lb=true›] at HK2
   try simp only [eq_false_of_ne_true ‹¬hb=true›] at HK2
   try simp only [‹hb=true›] at HK2
   try simp only [eq_false_of_ne_true ‹¬sh=true›] at HK2
   try simp only [‹sh=true›] at HK2
   try simp only [eq_false_of_ne_true ‹¬bk=true›] at HK2
   try simp only [‹bk=true›] at HK2
   try simp only [‹mo=0›] at HK2
   try simp only [‹st=0›] at HK2
   refine(HK2 _).mono ?_
   rintro e w8 ⟨rfl,hb9⟩
   replace k0:=V.keeps hb9 k0
   replace k1:=V.keeps hb9 k1
   replace k2:=V.keeps hb9 k2
   replace k3:=V.keeps hb9 k3
   replace k4:=V.keeps hb9 k4
   replace k5:=V.keeps hb9 k5
   replace k6:=V.keeps hb9 k6
   replace k7:=V.keeps hb9 k7
   replace k8:=V.keeps hb9 k8
   replace k9:=V.keeps hb9 k9
   replace k10:=V.keeps hb9 k10
   replace k11:=V.keeps hb9 k11
   replace k12:=V.keeps hb9 k12
   replace k13:=V.keeps hb9 k13
   replace kb:=V.two kb hb9
   go_wp2_with fail
   refine hK.out _ _ ⟨k0,k1,k2,k3,k4,k5,k6,k7,k8,k9,k10,k11,k12,k13,kb⟩ (fun hHeld=>?_)
   try simp[Act.put]
   refine tx 9 ?v9f rfl (by kernel_rfl) tq (by rfl) ?hy9f (by assumption) ?rest9f
   case hy9f=>(rintro wS ⟨k0,k1,k2,k3,k4,k5,k6,k7,k8,k9,k10,k11,k12,k13,kb⟩;go_simp;try with_reducible rfl)
   try simp[Act.put]
   refine wpAnyH_done (by kernel_rfl) ?_ _
   go_wp2_with fail
   obtain⟨k0,k1,k2,k3,k4,k5,k6,k7,k8,k9,k10,k11,k12,k13,kb⟩:=hHeld
   go_ret
   refine⟨congrArg (fun b=>Ending.returned (.bool b)) ?_,hBW.trans (kb.mono (by rw[HWZ.out];omega))⟩
   rw[← HX.out]
   simp[oddX,Co.zero,← List.length_pos_iff,Nat.not_lt.2 hnu, *]
