import Derived.Test.YtcgnajeenflfaaaGreatDoorP11
set_option maxRecDepth 100000
set_option maxHeartbeats 4000000
set_option linter.all false
open Go.Proofs.Tryz Go.RowKit
namespace Go.Proofs.YtcgnajeenflfaaaGreatDoor
namespace Sc
open We (Co)
theorem bJr (nm:ByteArray) (dn:Bool) (nu:Nat) (bd lb:Bool) (lm:ByteArray) (hb:Bool) (hm:ByteArray) (mo st:Int) (sh bk:Bool) (fs:List Fd) (a:Option Addr) (c:Nat) (w:World) (Y X:Bool) (hnu:nu≤2)
 (HK:Hid (∀ w:World,Calls prog 139 #[.agg #[.string nm,.int .u8 2,.bool dn,.int .u8 nu,.bool bd,.bool lb,.string lm,.bool hb,.string hm,.int .i64 mo,.int .i64 st,.bool sh,.bool bk,.slice a fs.length c]] w fun e w'=>e=.returned (.bool Y)∧Below w.heap.size w w'))
 (HX:Hid (jN 2 nu bd lb lm hb hm mo ⟨st,sh,bk⟩ fs Y=X)) :
 Calls prog 82 #[.agg #[.string nm,.int .u8 2,.bool dn,.int .u8 nu,.bool bd,.bool lb,.string lm,.bool hb,.string hm,.int .i64 mo,.int .i64 st,.bool sh,.bool bk,.slice a fs.length c]] w (nM X w):=by
 have qn:decide ((2:Int)<(nu:Int))=false:=decide_eq_false (by omega);go_enter func82,ntmps82;go_wp2_with fail;all_goals first
  | (go_ret;refine⟨congrArg (fun b=>Ending.returned (.bool b)) ?_,zr.alloc lr _⟩;rw[← HX.out];simp[jN,Co.zero,← List.length_pos_iff, *])
  | skip
 · skip
   generalize hW:w.alloc (.cells _ 79)=W;have rZ:W.heap.size=w.heap.size+1:=by rw[← hW];simp
   have hBW:Below w.heap.size w W:=by rw[← hW];exact zr.alloc lr _
   have k0:W.cell? ⟨w.heap.size,0,none⟩=some (.string nm):=by rw[← hW,aA];simp[*]
   have k1:W.cell? ⟨w.heap.size,1,none⟩=some (.int .u8 2):=by rw[← hW,aA];simp[*]
   have k2:W.cell? ⟨w.heap.size,2,none⟩=some (.bool dn):=by rw[← hW,aA];simp[*]
   have k3:W.cell? ⟨w.heap.size,3,none⟩=some (.int .u8 nu):=by rw[← hW,aA];simp[*]
   have k4:W.cell? ⟨w.heap.size,4,none⟩=some (.bool bd):=by rw[← hW,aA];simp[*]
   have k5:W.cell? ⟨w.heap.size,5,none⟩=some (.bool lb):=by rw[← hW,aA];simp[*]
   have k6:W.cell? ⟨w.heap.size,6,none⟩=some (.string lm):=by rw[← hW,aA];simp[*]
   have k7:W.cell? ⟨w.heap.size,7,none⟩=some (.bool hb):=by rw[← hW,aA];simp[*]
   have k8:W.cell? ⟨w.heap.size,8,none⟩=some (.string hm):=by rw[← hW,aA];simp[*]
   have k9:W.cell? ⟨w.heap.size,9,none⟩=some (.int .i64 mo):=by rw[← hW,aA];simp[*]
   have k10:W.cell? ⟨w.heap.size,10,none⟩=some (.int .i64 st):=by rw[← hW,aA];simp[*]
   have k11:W.cell? ⟨w.heap.size,11,none⟩=some (.bool sh):=by rw[← hW,aA];simp[*]
   have k12:W.cell? ⟨w.heap.size,12,none⟩=some (.bool bk):=by rw[← hW,aA];simp[*]
   have k13:W.cell? ⟨w.heap.size,13,none⟩=some (.slice a fs.length c):=by rw[← hW,aA];simp[*]
   have HWZ:=zh rZ;clear hW rZ;have hbd:Below W.heap.size W W.drew:=(Below.refl W.heap.size W).drew;refine wp_region_held_drew (S:=fun w'=>w'.cell? ⟨w.heap.size,0,none⟩=some (.string nm)∧w'.cell? ⟨w.heap.size,1,none⟩=some (.int .u8 2)∧w'.cell? ⟨w.heap.size,2,none⟩=some (.bool dn)∧w'.cell? ⟨w.heap.size,3,none⟩=some (.int .u8 nu)∧w'.cell? ⟨w.heap.size,4,none⟩=some (.bool bd)∧w'.cell? ⟨w.heap.size,5,none⟩=some (.bool lb)∧w'.cell? ⟨w.heap.size,6,none⟩=some (.string lm)∧w'.cell? ⟨w.heap.size,7,none⟩=some (.bool hb)∧w'.cell? ⟨w.heap.size,8,none⟩=some (.string hm)∧w'.cell? ⟨w.heap.size,9,none⟩=some (.int .i64 mo)∧w'.cell? ⟨w.heap.size,10,none⟩=some (.int .i64 st)∧w'.cell? ⟨w.heap.size,11,none⟩=some (.bool sh)∧w'.cell? ⟨w.heap.size,12,none⟩=some (.bool bk)∧w'.cell? ⟨w.heap.size,13,none⟩=some (.slice a fs.length c)∧Below W.heap.size W w') (by kernel_rfl) ⟨k0,k1,k2,k3,k4,k5,k6,k7,k8,k9,k10,k11,k12,k13,hbd⟩ (fun hHeld=>?_);refine tx 1 ?v1a rfl (by kernel_rfl) tq (by rfl) ?yG (by assumption) ?yH;case yG=>(rintro wS ⟨k0,k1,k2,k3,k4,k5,k6,k7,k8,k9,k10,k11,k12,k13,kb⟩;go_simp;try with_reducible rfl)
   try simp[Act.put]
   refine tx 2 ?v2a rfl (by kernel_rfl) tq (by rfl) ?yI (by assumption) ?yJ;case yI=>(rintro wS ⟨k0,k1,k2,k3,k4,k5,k6,k7,k8,k9,k10,k11,k12,k13,kb⟩;go_simp;try with_reducible rfl)
   try simp[Act.put]
   refine tx 3 ?v3a rfl (by kernel_rfl) tq (by rfl) ?yK (by assumption) ?yL;case yK=>(rintro wS ⟨k0,k1,k2,k3,k4,k5,k6,k7,k8,k9,k10,k11,k12,k13,kb⟩;go_simp;try with_reducible rfl)
   try simp[Act.put]
   rw[show IntKind.u8.wrap 1=1 by decide];refine tx 7 ?v7a rfl (by kernel_rfl) tq (by rfl) ?yM (by assumption) ?yN;case yM=>(rintro wS ⟨k0,k1,k2,k3,k4,k5,k6,k7,k8,k9,k10,k11,k12,k13,kb⟩;go_simp;try with_reducible rfl)
   try simp[Act.put]
   refine wpAnyH_ready (rs:=[0]) (by kernel_rfl) (by simp) ?_;refine AllReadyH.cons rfl (fun K hK=>?_) AllReadyH.nil;go_simp;obtain⟨k0,k1,k2,k3,k4,k5,k6,k7,k8,k9,k10,k11,k12,k13,kb⟩:=hHeld;refine(gM _).mono ?_;rintro e w9 ⟨rfl,aB,xM⟩;have kk:w9.cell? ⟨W.heap.size,5,none⟩=some (.func (.func 139) #[] #[]):=xM 5;replace k0:=V.keeps aB k0;replace k1:=V.keeps aB k1;replace k2:=V.keeps aB k2;replace k3:=V.keeps aB k3;replace k4:=V.keeps aB k4;replace k5:=V.keeps aB k5;replace k6:=V.keeps aB k6;replace k7:=V.keeps aB k7;replace k8:=V.keeps aB k8;replace k9:=V.keeps aB k9;replace k10:=V.keeps aB k10;replace k11:=V.keeps aB k11;replace k12:=V.keeps aB k12;replace k13:=V.keeps aB k13;replace kb:=V.two kb aB;go_wp2_with fail;refine hK.out _ _ ⟨k0,k1,k2,k3,k4,k5,k6,k7,k8,k9,k10,k11,k12,k13,kb⟩ (fun hHeld=>?_);try simp[Act.put]
   refine tx 4 ?v4a rfl (by kernel_rfl) tq (by rfl) ?yO (by assumption) ?yP;case yO=>(rintro wS ⟨k0,k1,k2,k3,k4,k5,k6,k7,k8,k9,k10,k11,k12,k13,kb⟩;go_simp;try with_reducible rfl)
   try simp[Act.put]
   refine tx 5 ?v5a rfl (by kernel_rfl) tq (by rfl) ?yQ (by assumption) ?yR;case yQ=>(rintro wS ⟨k0,k1,k2,k3,k4,k5,k6,k7,k8,k9,k10,k11,k12,k13,kb⟩;go_simp;try with_reducible rfl)
   try simp[Act.put]
   refine wpAnyH_ready (rs:=[6]) (by kernel_rfl) (by simp) ?_;refine AllReadyH.cons rfl (fun K hK=>?_) AllReadyH.nil;go_simp;go_wp2_with fail;refine hK.out _ _ hHeld (fun hHeld=>?_);try simp[Act.put]
   refine wpAnyH_ready (rs:=[8]) (by kernel_rfl) (by simp) ?_;refine AllReadyH.cons rfl (fun K hK=>?_) AllReadyH.nil;go_simp;obtain⟨k0,k1,k2,k3,k4,k5,k6,k7,k8,k9,k10,k11,k12,k13,kb⟩:=hHeld;have bG:=HK.out;try simp only [eq_false_of_ne_true ‹¬bd=true›] at bG
   try simp only [‹bd=true›] at bG
   try simp only [eq_false_of_ne_true ‹¬lb=true›] at bG
   try simp only [‹lb=true›] at bG
   try simp only [eq_false_of_ne_true ‹¬hb=true›] at bG
   try simp only [‹hb=true›] at bG
   try simp only [eq_false_of_ne_true ‹¬sh=true›] at bG
   try simp only [‹sh=true›] at bG
   try simp only [eq_false_of_ne_true ‹¬bk=true›] at bG
   try simp only [‹bk=true›] at bG
   try simp only [‹mo=0›] at bG
   try simp only [‹st=0›] at bG
   refine(bG _).mono ?_;rintro e w8 ⟨rfl,aB⟩;replace k0:=V.keeps aB k0;replace k1:=V.keeps aB k1;replace k2:=V.keeps aB k2;replace k3:=V.keeps aB k3;replace k4:=V.keeps aB k4;replace k5:=V.keeps aB k5;replace k6:=V.keeps aB k6;replace k7:=V.keeps aB k7;replace k8:=V.keeps aB k8;replace k9:=V.keeps aB k9;replace k10:=V.keeps aB k10;replace k11:=V.keeps aB k11;replace k12:=V.keeps aB k12;replace k13:=V.keeps aB k13;replace kb:=V.two kb aB;go_wp2_with fail;refine hK.out _ _ ⟨k0,k1,k2,k3,k4,k5,k6,k7,k8,k9,k10,k11,k12,k13,kb⟩ (fun hHeld=>?_);try simp[Act.put]
   refine tx 9 ?v9a rfl (by kernel_rfl) tq (by rfl) ?yS (by assumption) ?yT;case yS=>(rintro wS ⟨k0,k1,k2,k3,k4,k5,k6,k7,k8,k9,k10,k11,k12,k13,kb⟩;go_simp;try with_reducible rfl)
   try simp[Act.put]
   refine wpAnyH_done (by kernel_rfl) ?_ _;go_wp2_with fail;obtain⟨k0,k1,k2,k3,k4,k5,k6,k7,k8,k9,k10,k11,k12,k13,kb⟩:=hHeld;go_ret;refine⟨congrArg (fun b=>Ending.returned (.bool b)) ?_,hBW.trans (kb.mono (by rw[HWZ.out];omega))⟩;rw[← HX.out];simp[jN,Co.zero,← List.length_pos_iff,Nat.not_lt.2 hnu, *]
 · skip
   generalize hW:w.alloc (.cells _ 79)=W;have rZ:W.heap.size=w.heap.size+1:=by rw[← hW];simp
   have hBW:Below w.heap.size w W:=by rw[← hW];exact zr.alloc lr _
   have k0:W.cell? ⟨w.heap.size,0,none⟩=some (.string nm):=by rw[← hW,aA];simp[*]
   have k1:W.cell? ⟨w.heap.size,1,none⟩=some (.int .u8 2):=by rw[← hW,aA];simp[*]
   have k2:W.cell? ⟨w.heap.size,2,none⟩=some (.bool dn):=by rw[← hW,aA];simp[*]
   have k3:W.cell? ⟨w.heap.size,3,none⟩=some (.int .u8 nu):=by rw[← hW,aA];simp[*]
   have k4:W.cell? ⟨w.heap.size,4,none⟩=some (.bool bd):=by rw[← hW,aA];simp[*]
   have k5:W.cell? ⟨w.heap.size,5,none⟩=some (.bool lb):=by rw[← hW,aA];simp[*]
   have k6:W.cell? ⟨w.heap.size,6,none⟩=some (.string lm):=by rw[← hW,aA];simp[*]
   have k7:W.cell? ⟨w.heap.size,7,none⟩=some (.bool hb):=by rw[← hW,aA];simp[*]
   have k8:W.cell? ⟨w.heap.size,8,none⟩=some (.string hm):=by rw[← hW,aA];simp[*]
   have k9:W.cell? ⟨w.heap.size,9,none⟩=some (.int .i64 mo):=by rw[← hW,aA];simp[*]
   have k10:W.cell? ⟨w.heap.size,10,none⟩=some (.int .i64 st):=by rw[← hW,aA];simp[*]
   have k11:W.cell? ⟨w.heap.size,11,none⟩=some (.bool sh):=by rw[← hW,aA];simp[*]
   have k12:W.cell? ⟨w.heap.size,12,none⟩=some (.bool bk):=by rw[← hW,aA];simp[*]
   have k13:W.cell? ⟨w.heap.size,13,none⟩=some (.slice a fs.length c):=by rw[← hW,aA];simp[*]
   have HWZ:=zh rZ;clear hW rZ;have hbd:Below W.heap.size W W.drew:=(Below.refl W.heap.size W).drew;refine wp_region_held_drew (S:=fun w'=>w'.cell? ⟨w.heap.size,0,none⟩=some (.string nm)∧w'.cell? ⟨w.heap.size,1,none⟩=some (.int .u8 2)∧w'.cell? ⟨w.heap.size,2,none⟩=some (.bool dn)∧w'.cell? ⟨w.heap.size,3,none⟩=some (.int .u8 nu)∧w'.cell? ⟨w.heap.size,4,none⟩=some (.bool bd)∧w'.cell? ⟨w.heap.size,5,none⟩=some (.bool lb)∧w'.cell? ⟨w.heap.size,6,none⟩=some (.string lm)∧w'.cell? ⟨w.heap.size,7,none⟩=some (.bool hb)∧w'.cell? ⟨w.heap.size,8,none⟩=some (.string hm)∧w'.cell? ⟨w.heap.size,9,none⟩=some (.int .i64 mo)∧w'.cell? ⟨w.heap.size,10,none⟩=some (.int .i64 st)∧w'.cell? ⟨w.heap.size,11,none⟩=some (.bool sh)∧w'.cell? ⟨w.heap.size,12,none⟩=some (.bool bk)∧w'.cell? ⟨w.heap.size,13,none⟩=some (.slice a fs.length c)∧Below W.heap.size W w') (by kernel_rfl) ⟨k0,k1,k2,k3,k4,k5,k6,k7,k8,k9,k10,k11,k12,k13,hbd⟩ (fun hHeld=>?_);refine tx 1 ?v1b rfl (by kernel_rfl) tq (by rfl) ?bFq (by assumption) ?bFr;case bFq=>(rintro wS ⟨k0,k1,k2,k3,k4,k5,k6,k7,k8,k9,k10,k11,k12,k13,kb⟩;go_simp;try with_reducible rfl)
   try simp[Act.put]
   refine tx 2 ?v2b rfl (by kernel_rfl) tq (by rfl) ?bFs (by assumption) ?bFt;case bFs=>(rintro wS ⟨k0,k1,k2,k3,k4,k5,k6,k7,k8,k9,k10,k11,k12,k13,kb⟩;go_simp;try with_reducible rfl)
   try simp[Act.put]
   refine tx 3 ?v3b rfl (by kernel_rfl) tq (by rfl) ?bFu (by assumption) ?bFv;case bFu=>(rintro wS ⟨k0,k1,k2,k3,k4,k5,k6,k7,k8,k9,k10,k11,k12,k13,kb⟩;go_simp;try with_reducible rfl)
   try simp[Act.put]
   rw[show IntKind.u8.wrap 1=1 by decide];refine tx 7 ?v7b rfl (by kernel_rfl) tq (by rfl) ?bOe (by assumption) ?bOf;case bOe=>(rintro wS ⟨k0,k1,k2,k3,k4,k5,k6,k7,k8,k9,k10,k11,k12,k13,kb⟩;go_simp;try with_reducible rfl)
   try simp[Act.put]
   refine wpAnyH_ready (rs:=[0]) (by kernel_rfl) (by simp) ?_;refine AllReadyH.cons rfl (fun K hK=>?_) AllReadyH.nil;go_simp;obtain⟨k0,k1,k2,k3,k4,k5,k6,k7,k8,k9,k10,k11,k12,k13,kb⟩:=hHeld;refine(gM _).mono ?_;rintro e w9 ⟨rfl,aB,xM⟩;have kk:w9.cell? ⟨W.heap.size,5,none⟩=some (.func (.func 139) #[] #[]):=xM 5;replace k0:=V.keeps aB k0;replace k1:=V.keeps aB k1;replace k2:=V.keeps aB k2;replace k3:=V.keeps aB k3;replace k4:=V.keeps aB k4;replace k5:=V.keeps aB k5;replace k6:=V.keeps aB k6;replace k7:=V.keeps aB k7;replace k8:=V.keeps aB k8;replace k9:=V.keeps aB k9;replace k10:=V.keeps aB k10;replace k11:=V.keeps aB k11;replace k12:=V.keeps aB k12;replace k13:=V.keeps aB k13;replace kb:=V.two kb aB;go_wp2_with fail;refine hK.out _ _ ⟨k0,k1,k2,k3,k4,k5,k6,k7,k8,k9,k10,k11,k12,k13,kb⟩ (fun hHeld=>?_);try simp[Act.put]
   refine tx 4 ?v4b rfl (by kernel_rfl) tq (by rfl) ?aXp (by assumption) ?aXq;case aXp=>(rintro wS ⟨k0,k1,k2,k3,k4,k5,k6,k7,k8,k9,k10,k11,k12,k13,kb⟩;go_simp;try with_reducible rfl)
   try simp[Act.put]
   refine tx 5 ?v5b rfl (by kernel_rfl) tq (by rfl) ?bFw (by assumption) ?bFx;case bFw=>(rintro wS ⟨k0,k1,k2,k3,k4,k5,k6,k7,k8,k9,k10,k11,k12,k13,kb⟩;go_simp;try with_reducible rfl)
   try simp[Act.put]
   refine wpAnyH_ready (rs:=[6]) (by kernel_rfl) (by simp) ?_;refine AllReadyH.cons rfl (fun K hK=>?_) AllReadyH.nil;go_simp;go_wp2_with fail;refine hK.out _ _ hHeld (fun hHeld=>?_);try simp[Act.put]
   refine wpAnyH_ready (rs:=[8]) (by kernel_rfl) (by simp) ?_;refine AllReadyH.cons rfl (fun K hK=>?_) AllReadyH.nil;go_simp;obtain⟨k0,k1,k2,k3,k4,k5,k6,k7,k8,k9,k10,k11,k12,k13,kb⟩:=hHeld;have bG:=HK.out;try simp only [eq_false_of_ne_true ‹¬bd=true›] at bG
   try simp only [‹bd=true›] at bG
   try simp only [eq_false_of_ne_true ‹¬lb=true›] at bG
   try simp only [‹lb=true›] at bG
   try simp only [eq_false_of_ne_true ‹¬hb=true›] at bG
   try simp only [‹hb=true›] at bG
   try simp only [eq_false_of_ne_true ‹¬sh=true›] at bG
   try simp only [‹sh=true›] at bG
   try simp only [eq_false_of_ne_true ‹¬bk=true›] at bG
   try simp only [‹bk=true›] at bG
   try simp only [‹mo=0›] at bG
   try simp only [‹st=0›] at bG
   refine(bG _).mono ?_;rintro e w8 ⟨rfl,aB⟩;replace k0:=V.keeps aB k0;replace k1:=V.keeps aB k1;replace k2:=V.keeps aB k2;replace k3:=V.keeps aB k3;replace k4:=V.keeps aB k4;replace k5:=V.keeps aB k5;replace k6:=V.keeps aB k6;replace k7:=V.keeps aB k7;replace k8:=V.keeps aB k8;replace k9:=V.keeps aB k9;replace k10:=V.keeps aB k10;replace k11:=V.keeps aB k11;replace k12:=V.keeps aB k12;replace k13:=V.keeps aB k13;replace kb:=V.two kb aB;go_wp2_with fail;refine hK.out _ _ ⟨k0,k1,k2,k3,k4,k5,k6,k7,k8,k9,k10,k11,k12,k13,kb⟩ (fun hHeld=>?_);try simp[Act.put]
   refine tx 9 ?v9b rfl (by kernel_rfl) tq (by rfl) ?bFy (by assumption) ?bFz;case bFy=>(rintro wS ⟨k0,k1,k2,k3,k4,k5,k6,k7,k8,k9,k10,k11,k12,k13,kb⟩;go_simp;try with_reducible rfl)
   try simp[Act.put]
   refine wpAnyH_done (by kernel_rfl) ?_ _;go_wp2_with fail;obtain⟨k0,k1,k2,k3,k4,k5,k6,k7,k8,k9,k10,k11,k12,k13,kb⟩:=hHeld;go_ret;refine⟨congrArg (fun b=>Ending.returned (.bool b)) ?_,hBW.trans (kb.mono (by rw[HWZ.out];omega))⟩;rw[← HX.out];simp[jN,Co.zero,← List.length_pos_iff,Nat.not_lt.2 hnu, *]
 · skip
   generalize hW:w.alloc (.cells _ 79)=W;have rZ:W.heap.size=w.heap.size+1:=by rw[← hW];simp
   have hBW:Below w.heap.size w W:=by rw[← hW];exact zr.alloc lr _
   have k0:W.cell? ⟨w.heap.size,0,none⟩=some (.string nm):=by rw[← hW,aA];simp[*]
   have k1:W.cell? ⟨w.heap.size,1,none⟩=some (.int .u8 2):=by rw[← hW,aA];simp[*]
   have k2:W.cell? ⟨w.heap.size,2,none⟩=some (.bool dn):=by rw[← hW,aA];simp[*]
   have k3:W.cell? ⟨w.heap.size,3,none⟩=some (.int .u8 nu):=by rw[← hW,aA];simp[*]
   have k4:W.cell? ⟨w.heap.size,4,none⟩=some (.bool bd):=by rw[← hW,aA];simp[*]
   have k5:W.cell? ⟨w.heap.size,5,none⟩=some (.bool lb):=by rw[← hW,aA];simp[*]
   have k6:W.cell? ⟨w.heap.size,6,none⟩=some (.string lm):=by rw[← hW,aA];simp[*]
   have k7:W.cell? ⟨w.heap.size,7,none⟩=some (.bool hb):=by rw[← hW,aA];simp[*]
   have k8:W.cell? ⟨w.heap.size,8,none⟩=some (.string hm):=by rw[← hW,aA];simp[*]
   have k9:W.cell? ⟨w.heap.size,9,none⟩=some (.int .i64 mo):=by rw[← hW,aA];simp[*]
   have k10:W.cell? ⟨w.heap.size,10,none⟩=some (.int .i64 st):=by rw[← hW,aA];simp[*]
   have k11:W.cell? ⟨w.heap.size,11,none⟩=some (.bool sh):=by rw[← hW,aA];simp[*]
   have k12:W.cell? ⟨w.heap.size,12,none⟩=some (.bool bk):=by rw[← hW,aA];simp[*]
   have k13:W.cell? ⟨w.heap.size,13,none⟩=some (.slice a fs.length c):=by rw[← hW,aA];simp[*]
   have HWZ:=zh rZ;clear hW rZ;have hbd:Below W.heap.size W W.drew:=(Below.refl W.heap.size W).drew;refine wp_region_held_drew (S:=fun w'=>w'.cell? ⟨w.heap.size,0,none⟩=some (.string nm)∧w'.cell? ⟨w.heap.size,1,none⟩=some (.int .u8 2)∧w'.cell? ⟨w.heap.size,2,none⟩=some (.bool dn)∧w'.cell? ⟨w.heap.size,3,none⟩=some (.int .u8 nu)∧w'.cell? ⟨w.heap.size,4,none⟩=some (.bool bd)∧w'.cell? ⟨w.heap.size,5,none⟩=some (.bool lb)∧w'.cell? ⟨w.heap.size,6,none⟩=some (.string lm)∧w'.cell? ⟨w.heap.size,7,none⟩=some (.bool hb)∧w'.cell? ⟨w.heap.size,8,none⟩=some (.string hm)∧w'.cell? ⟨w.heap.size,9,none⟩=some (.int .i64 mo)∧w'.cell? ⟨w.heap.size,10,none⟩=some (.int .i64 st)∧w'.cell? ⟨w.heap.size,11,none⟩=some (.bool sh)∧w'.cell? ⟨w.heap.size,12,none⟩=some (.bool bk)∧w'.cell? ⟨w.heap.size,13,none⟩=some (.slice a fs.length c)∧Below W.heap.size W w') (by kernel_rfl) ⟨k0,k1,k2,k3,k4,k5,k6,k7,k8,k9,k10,k11,k12,k13,hbd⟩ (fun hHeld=>?_);refine tx 1 ?v1c rfl (by kernel_rfl) tq (by rfl) ?bOg (by assumption) ?bOh;case bOg=>(rintro wS ⟨k0,k1,k2,k3,k4,k5,k6,k7,k8,k9,k10,k11,k12,k13,kb⟩;go_simp;try with_reducible rfl)
   try simp[Act.put]
   refine tx 2 ?v2c rfl (by kernel_rfl) tq (by rfl) ?bOi (by assumption) ?bOj;case bOi=>(rintro wS ⟨k0,k1,k2,k3,k4,k5,k6,k7,k8,k9,k10,k11,k12,k13,kb⟩;go_simp;try with_reducible rfl)
   try simp[Act.put]
   refine tx 3 ?v3c rfl (by kernel_rfl) tq (by rfl) ?bGa (by assumption) ?bGb;case bGa=>(rintro wS ⟨k0,k1,k2,k3,k4,k5,k6,k7,k8,k9,k10,k11,k12,k13,kb⟩;go_simp;try with_reducible rfl)
   try simp[Act.put]
   rw[show IntKind.u8.wrap 1=1 by decide];refine tx 7 ?v7c rfl (by kernel_rfl) tq (by rfl) ?bOk (by assumption) ?bOl;case bOk=>(rintro wS ⟨k0,k1,k2,k3,k4,k5,k6,k7,k8,k9,k10,k11,k12,k13,kb⟩;go_simp;try with_reducible rfl)
   try simp[Act.put]
   refine wpAnyH_ready (rs:=[0]) (by kernel_rfl) (by simp) ?_;refine AllReadyH.cons rfl (fun K hK=>?_) AllReadyH.nil;go_simp;obtain⟨k0,k1,k2,k3,k4,k5,k6,k7,k8,k9,k10,k11,k12,k13,kb⟩:=hHeld;refine(gM _).mono ?_;rintro e w9 ⟨rfl,aB,xM⟩;have kk:w9.cell? ⟨W.heap.size,5,none⟩=some (.func (.func 139) #[] #[]):=xM 5;replace k0:=V.keeps aB k0;replace k1:=V.keeps aB k1;replace k2:=V.keeps aB k2;replace k3:=V.keeps aB k3;replace k4:=V.keeps aB k4;replace k5:=V.keeps aB k5;replace k6:=V.keeps aB k6;replace k7:=V.keeps aB k7;replace k8:=V.keeps aB k8;replace k9:=V.keeps aB k9;replace k10:=V.keeps aB k10;replace k11:=V.keeps aB k11;replace k12:=V.keeps aB k12;replace k13:=V.keeps aB k13;replace kb:=V.two kb aB;go_wp2_with fail;refine hK.out _ _ ⟨k0,k1,k2,k3,k4,k5,k6,k7,k8,k9,k10,k11,k12,k13,kb⟩ (fun hHeld=>?_);try simp[Act.put]
   refine tx 4 ?v4c rfl (by kernel_rfl) tq (by rfl) ?bGc (by assumption) ?bGd;case bGc=>(rintro wS ⟨k0,k1,k2,k3,k4,k5,k6,k7,k8,k9,k10,k11,k12,k13,kb⟩;go_simp;try with_reducible rfl)
   try simp[Act.put]
   refine tx 5 ?v5c rfl (by kernel_rfl) tq (by rfl) ?bOm (by assumption) ?bOn;case bOm=>(rintro wS ⟨k0,k1,k2,k3,k4,k5,k6,k7,k8,k9,k10,k11,k12,k13,kb⟩;go_simp;try with_reducible rfl)
   try simp[Act.put]
   refine wpAnyH_ready (rs:=[6]) (by kernel_rfl) (by simp) ?_;refine AllReadyH.cons rfl (fun K hK=>?_) AllReadyH.nil;go_simp;go_wp2_with fail;refine hK.out _ _ hHeld (fun hHeld=>?_);try simp[Act.put]
   refine wpAnyH_ready (rs:=[8]) (by kernel_rfl) (by simp) ?_;refine AllReadyH.cons rfl (fun K hK=>?_) AllReadyH.nil;go_simp;obtain⟨k0,k1,k2,k3,k4,k5,k6,k7,k8,k9,k10,k11,k12,k13,kb⟩:=hHeld;have bG:=HK.out;try simp only [eq_false_of_ne_true ‹¬bd=true›] at bG
   try simp only [‹bd=true›] at bG
   try simp only [eq_false_of_ne_true ‹¬lb=true›] at bG
   try simp only [‹lb=true›] at bG
   try simp only [eq_false_of_ne_true ‹¬hb=true›] at bG
   try simp only [‹hb=true›] at bG
   try simp only [eq_false_of_ne_true ‹¬sh=true›] at bG
   try simp only [‹sh=true›] at bG
   try simp only [eq_false_of_ne_true ‹¬bk=true›] at bG
   try simp only [‹bk=true›] at bG
   try simp only [‹mo=0›] at bG
   try simp only [‹st=0›] at bG
   refine(bG _).mono ?_;rintro e w8 ⟨rfl,aB⟩;replace k0:=V.keeps aB k0;replace k1:=V.keeps aB k1;replace k2:=V.keeps aB k2;replace k3:=V.keeps aB k3;replace k4:=V.keeps aB k4;replace k5:=V.keeps aB k5;replace k6:=V.keeps aB k6;replace k7:=V.keeps aB k7;replace k8:=V.keeps aB k8;replace k9:=V.keeps aB k9;replace k10:=V.keeps aB k10;replace k11:=V.keeps aB k11;replace k12:=V.keeps aB k12;replace k13:=V.keeps aB k13;replace kb:=V.two kb aB;go_wp2_with fail;refine hK.out _ _ ⟨k0,k1,k2,k3,k4,k5,k6,k7,k8,k9,k10,k11,k12,k13,kb⟩ (fun hHeld=>?_);try simp[Act.put]
   refine tx 9 ?v9c rfl (by kernel_rfl) tq (by rfl) ?bOo (by assumption) ?bOp;case bOo=>(rintro wS ⟨k0,k1,k2,k3,k4,k5,k6,k7,k8,k9,k10,k11,k12,k13,kb⟩;go_simp;try with_reducible rfl)
   try simp[Act.put]
   refine wpAnyH_done (by kernel_rfl) ?_ _;go_wp2_with fail;obtain⟨k0,k1,k2,k3,k4,k5,k6,k7,k8,k9,k10,k11,k12,k13,kb⟩:=hHeld;go_ret;refine⟨congrArg (fun b=>Ending.returned (.bool b)) ?_,hBW.trans (kb.mono (by rw[HWZ.out];omega))⟩;rw[← HX.out];simp[jN,Co.zero,← List.length_pos_iff,Nat.not_lt.2 hnu, *]
 · skip
   generalize hW:w.alloc (.cells _ 79)=W;have rZ:W.heap.size=w.heap.size+1:=by rw[← hW];simp
   have hBW:Below w.heap.size w W:=by rw[← hW];exact zr.alloc lr _
   have k0:W.cell? ⟨w.heap.size,0,none⟩=some (.string nm):=by rw[← hW,aA];simp[*]
   have k1:W.cell? ⟨w.heap.size,1,none⟩=some (.int .u8 2):=by rw[← hW,aA];simp[*]
   have k2:W.cell? ⟨w.heap.size,2,none⟩=some (.bool dn):=by rw[← hW,aA];simp[*]
   have k3:W.cell? ⟨w.heap.size,3,none⟩=some (.int .u8 nu):=by rw[← hW,aA];simp[*]
   have k4:W.cell? ⟨w.heap.size,4,none⟩=some (.bool bd):=by rw[← hW,aA];simp[*]
   have k5:W.cell? ⟨w.heap.size,5,none⟩=some (.bool lb):=by rw[← hW,aA];simp[*]
   have k6:W.cell? ⟨w.heap.size,6,none⟩=some (.string lm):=by rw[← hW,aA];simp[*]
   have k7:W.cell? ⟨w.heap.size,7,none⟩=some (.bool hb):=by rw[← hW,aA];simp[*]
   have k8:W.cell? ⟨w.heap.size,8,none⟩=some (.string hm):=by rw[← hW,aA];simp[*]
   have k9:W.cell? ⟨w.heap.size,9,none⟩=some (.int .i64 mo):=by rw[← hW,aA];simp[*]
   have k10:W.cell? ⟨w.heap.size,10,none⟩=some (.int .i64 st):=by rw[← hW,aA];simp[*]
   have k11:W.cell? ⟨w.heap.size,11,none⟩=some (.bool sh):=by rw[← hW,aA];simp[*]
   have k12:W.cell? ⟨w.heap.size,12,none⟩=some (.bool bk):=by rw[← hW,aA];simp[*]
   have k13:W.cell? ⟨w.heap.size,13,none⟩=some (.slice a fs.length c):=by rw[← hW,aA];simp[*]
   have HWZ:=zh rZ;clear hW rZ;have hbd:Below W.heap.size W W.drew:=(Below.refl W.heap.size W).drew;refine wp_region_held_drew (S:=fun w'=>w'.cell? ⟨w.heap.size,0,none⟩=some (.string nm)∧w'.cell? ⟨w.heap.size,1,none⟩=some (.int .u8 2)∧w'.cell? ⟨w.heap.size,2,none⟩=some (.bool dn)∧w'.cell? ⟨w.heap.size,3,none⟩=some (.int .u8 nu)∧w'.cell? ⟨w.heap.size,4,none⟩=some (.bool bd)∧w'.cell? ⟨w.heap.size,5,none⟩=some (.bool lb)∧w'.cell? ⟨w.heap.size,6,none⟩=some (.string lm)∧w'.cell? ⟨w.heap.size,7,none⟩=some (.bool hb)∧w'.cell? ⟨w.heap.size,8,none⟩=some (.string hm)∧w'.cell? ⟨w.heap.size,9,none⟩=some (.int .i64 mo)∧w'.cell? ⟨w.heap.size,10,none⟩=some (.int .i64 st)∧w'.cell? ⟨w.heap.size,11,none⟩=some (.bool sh)∧w'.cell? ⟨w.heap.size,12,none⟩=some (.bool bk)∧w'.cell? ⟨w.heap.size,13,none⟩=some (.slice a fs.length c)∧Below W.heap.size W w') (by kernel_rfl) ⟨k0,k1,k2,k3,k4,k5,k6,k7,k8,k9,k10,k11,k12,k13,hbd⟩ (fun hHeld=>?_);refine tx 1 ?v1d rfl (by kernel_rfl) tq (by rfl) ?bOq (by assumption) ?bOr;case bOq=>(rintro wS ⟨k0,k1,k2,k3,k4,k5,k6,k7,k8,k9,k10,k11,k12,k13,kb⟩;go_simp;try with_reducible rfl)
   try simp[Act.put]
   refine tx 2 ?v2d rfl (by kernel_rfl) tq (by rfl) ?bOs (by assumption) ?bOt;case bOs=>(rintro wS ⟨k0,k1,k2,k3,k4,k5,k6,k7,k8,k9,k10,k11,k12,k13,kb⟩;go_simp;try with_reducible rfl)
   try simp[Act.put]
   refine tx 3 ?v3d rfl (by kernel_rfl) tq (by rfl) ?bOu (by assumption) ?bOv;case bOu=>(rintro wS ⟨k0,k1,k2,k3,k4,k5,k6,k7,k8,k9,k10,k11,k12,k13,kb⟩;go_simp;try with_reducible rfl)
   try simp[Act.put]
   rw[show IntKind.u8.wrap 1=1 by decide];refine tx 7 ?v7d rfl (by kernel_rfl) tq (by rfl) ?bOw (by assumption) ?bOx;case bOw=>(rintro wS ⟨k0,k1,k2,k3,k4,k5,k6,k7,k8,k9,k10,k11,k12,k13,kb⟩;go_simp;try with_reducible rfl)
   try simp[Act.put]
   refine wpAnyH_ready (rs:=[0]) (by kernel_rfl) (by simp) ?_;refine AllReadyH.cons rfl (fun K hK=>?_) AllReadyH.nil;go_simp;obtain⟨k0,k1,k2,k3,k4,k5,k6,k7,k8,k9,k10,k11,k12,k13,kb⟩:=hHeld;refine(gM _).mono ?_;rintro e w9 ⟨rfl,aB,xM⟩;have kk:w9.cell? ⟨W.heap.size,5,none⟩=some (.func (.func 139) #[] #[]):=xM 5;replace k0:=V.keeps aB k0;replace k1:=V.keeps aB k1;replace k2:=V.keeps aB k2;replace k3:=V.keeps aB k3;replace k4:=V.keeps aB k4;replace k5:=V.keeps aB k5;replace k6:=V.keeps aB k6;replace k7:=V.keeps aB k7;replace k8:=V.keeps aB k8;replace k9:=V.keeps aB k9;replace k10:=V.keeps aB k10;replace k11:=V.keeps aB k11;replace k12:=V.keeps aB k12;replace k13:=V.keeps aB k13;replace kb:=V.two kb aB;go_wp2_with fail;refine hK.out _ _ ⟨k0,k1,k2,k3,k4,k5,k6,k7,k8,k9,k10,k11,k12,k13,kb⟩ (fun hHeld=>?_);try simp[Act.put]
   refine tx 4 ?v4d rfl (by kernel_rfl) tq (by rfl) ?bOy (by assumption) ?bOz;case bOy=>(rintro wS ⟨k0,k1,k2,k3,k4,k5,k6,k7,k8,k9,k10,k11,k12,k13,kb⟩;go_simp;try with_reducible rfl)
   try simp[Act.put]
   refine tx 5 ?v5d rfl (by kernel_rfl) tq (by rfl) ?bPa (by assumption) ?bPb;case bPa=>(rintro wS ⟨k0,k1,k2,k3,k4,k5,k6,k7,k8,k9,k10,k11,k12,k13,kb⟩;go_simp;try with_reducible rfl)
   try simp[Act.put]
   refine wpAnyH_ready (rs:=[6]) (by kernel_rfl) (by simp) ?_;refine AllReadyH.cons rfl (fun K hK=>?_) AllReadyH.nil;go_simp;go_wp2_with fail;refine hK.out _ _ hHeld (fun hHeld=>?_);try simp[Act.put]
   refine wpAnyH_ready (rs:=[8]) (by kernel_rfl) (by simp) ?_;refine AllReadyH.cons rfl (fun K hK=>?_) AllReadyH.nil;go_simp;obtain⟨k0,k1,k2,k3,k4,k5,k6,k7,k8,k9,k10,k11,k12,k13,kb⟩:=hHeld;have bG:=HK.out;try simp only [eq_false_of_ne_true ‹¬bd=true›] at bG
   try simp only [‹bd=true›] at bG
   try simp only [eq_false_of_ne_true ‹¬lb=true›] at bG
   try simp only [‹lb=true›] at bG
   try simp only [eq_false_of_ne_true ‹¬hb=true›] at bG
   try simp only [‹hb=true›] at bG
   try simp only [eq_false_of_ne_true ‹¬sh=true›] at bG
   try simp only [‹sh=true›] at bG
   try simp only [eq_false_of_ne_true ‹¬bk=true›] at bG
   try simp only [‹bk=true›] at bG
   try simp only [‹mo=0›] at bG
   try simp only [‹st=0›] at bG
   refine(bG _).mono ?_;rintro e w8 ⟨rfl,aB⟩;replace k0:=V.keeps aB k0;replace k1:=V.keeps aB k1;replace k2:=V.keeps aB k2;replace k3:=V.keeps aB k3;replace k4:=V.keeps aB k4;replace k5:=V.keeps aB k5;replace k6:=V.keeps aB k6;replace k7:=V.keeps aB k7;replace k8:=V.keeps aB k8;replace k9:=V.keeps aB k9;replace k10:=V.keeps aB k10;replace k11:=V.keeps aB k11;replace k12:=V.keeps aB k12;replace k13:=V.keeps aB k13;replace kb:=V.two kb aB;go_wp2_with fail;refine hK.out _ _ ⟨k0,k1,k2,k3,k4,k5,k6,k7,k8,k9,k10,k11,k12,k13,kb⟩ (fun hHeld=>?_);try simp[Act.put]
   refine tx 9 ?v9d rfl (by kernel_rfl) tq (by rfl) ?bPc (by assumption) ?bPd;case bPc=>(rintro wS ⟨k0,k1,k2,k3,k4,k5,k6,k7,k8,k9,k10,k11,k12,k13,kb⟩;go_simp;try with_reducible rfl)
   try simp[Act.put]
   refine wpAnyH_done (by kernel_rfl) ?_ _;go_wp2_with fail;obtain⟨k0,k1,k2,k3,k4,k5,k6,k7,k8,k9,k10,k11,k12,k13,kb⟩:=hHeld;go_ret;refine⟨congrArg (fun b=>Ending.returned (.bool b)) ?_,hBW.trans (kb.mono (by rw[HWZ.out];omega))⟩;rw[← HX.out];simp[jN,Co.zero,← List.length_pos_iff,Nat.not_lt.2 hnu, *]
 · skip
   generalize hW:w.alloc (.cells _ 79)=W;have rZ:W.heap.size=w.heap.size+1:=by rw[← hW];simp
   have hBW:Below w.heap.size w W:=by rw[← hW];exact zr.alloc lr _
   have k0:W.cell? ⟨w.heap.size,0,none⟩=some (.string nm):=by rw[← hW,aA];simp[*]
   have k1:W.cell? ⟨w.heap.size,1,none⟩=some (.int .u8 2):=by rw[← hW,aA];simp[*]
   have k2:W.cell? ⟨w.heap.size,2,none⟩=some (.bool dn):=by rw[← hW,aA];simp[*]
   have k3:W.cell? ⟨w.heap.size,3,none⟩=some (.int .u8 nu):=by rw[← hW,aA];simp[*]
   have k4:W.cell? ⟨w.heap.size,4,none⟩=some (.bool bd):=by rw[← hW,aA];simp[*]
   have k5:W.cell? ⟨w.heap.size,5,none⟩=some (.bool lb):=by rw[← hW,aA];simp[*]
   have k6:W.cell? ⟨w.heap.size,6,none⟩=some (.string lm):=by rw[← hW,aA];simp[*]
   have k7:W.cell? ⟨w.heap.size,7,none⟩=some (.bool hb):=by rw[← hW,aA];simp[*]
   have k8:W.cell? ⟨w.heap.size,8,none⟩=some (.string hm):=by rw[← hW,aA];simp[*]
   have k9:W.cell? ⟨w.heap.size,9,none⟩=some (.int .i64 mo):=by rw[← hW,aA];simp[*]
   have k10:W.cell? ⟨w.heap.size,10,none⟩=some (.int .i64 st):=by rw[← hW,aA];simp[*]
   have k11:W.cell? ⟨w.heap.size,11,none⟩=some (.bool sh):=by rw[← hW,aA];simp[*]
   have k12:W.cell? ⟨w.heap.size,12,none⟩=some (.bool bk):=by rw[← hW,aA];simp[*]
   have k13:W.cell? ⟨w.heap.size,13,none⟩=some (.slice a fs.length c):=by rw[← hW,aA];simp[*]
   have HWZ:=zh rZ;clear hW rZ;have hbd:Below W.heap.size W W.drew:=(Below.refl W.heap.size W).drew;refine wp_region_held_drew (S:=fun w'=>w'.cell? ⟨w.heap.size,0,none⟩=some (.string nm)∧w'.cell? ⟨w.heap.size,1,none⟩=some (.int .u8 2)∧w'.cell? ⟨w.heap.size,2,none⟩=some (.bool dn)∧w'.cell? ⟨w.heap.size,3,none⟩=some (.int .u8 nu)∧w'.cell? ⟨w.heap.size,4,none⟩=some (.bool bd)∧w'.cell? ⟨w.heap.size,5,none⟩=some (.bool lb)∧w'.cell? ⟨w.heap.size,6,none⟩=some (.string lm)∧w'.cell? ⟨w.heap.size,7,none⟩=some (.bool hb)∧w'.cell? ⟨w.heap.size,8,none⟩=some (.string hm)∧w'.cell? ⟨w.heap.size,9,none⟩=some (.int .i64 mo)∧w'.cell? ⟨w.heap.size,10,none⟩=some (.int .i64 st)∧w'.cell? ⟨w.heap.size,11,none⟩=some (.bool sh)∧w'.cell? ⟨w.heap.size,12,none⟩=some (.bool bk)∧w'.cell? ⟨w.heap.size,13,none⟩=some (.slice a fs.length c)∧Below W.heap.size W w') (by kernel_rfl) ⟨k0,k1,k2,k3,k4,k5,k6,k7,k8,k9,k10,k11,k12,k13,hbd⟩ (fun hHeld=>?_);refine tx 1 ?v1e rfl (by kernel_rfl) tq (by rfl) ?bPe (by assumption) ?bPf;case bPe=>(rintro wS ⟨k0,k1,k2,k3,k4,k5,k6,k7,k8,k9,k10,k11,k12,k13,kb⟩;go_simp;try with_reducible rfl)
   try simp[Act.put]
   refine tx 2 ?v2e rfl (by kernel_rfl) tq (by rfl) ?bPg (by assumption) ?bPh;case bPg=>(rintro wS ⟨k0,k1,k2,k3,k4,k5,k6,k7,k8,k9,k10,k11,k12,k13,kb⟩;go_simp;try with_reducible rfl)
   try simp[Act.put]
   refine tx 3 ?v3e rfl (by kernel_rfl) tq (by rfl) ?bPi (by assumption) ?bPj;case bPi=>(rintro wS ⟨k0,k1,k2,k3,k4,k5,k6,k7,k8,k9,k10,k11,k12,k13,kb⟩;go_simp;try with_reducible rfl)
   try simp[Act.put]
   rw[show IntKind.u8.wrap 1=1 by decide];refine tx 7 ?v7e rfl (by kernel_rfl) tq (by rfl) ?bPk (by assumption) ?bPl;case bPk=>(rintro wS ⟨k0,k1,k2,k3,k4,k5,k6,k7,k8,k9,k10,k11,k12,k13,kb⟩;go_simp;try with_reducible rfl)
   try simp[Act.put]
   refine wpAnyH_ready (rs:=[0]) (by kernel_rfl) (by simp) ?_;refine AllReadyH.cons rfl (fun K hK=>?_) AllReadyH.nil;go_simp;obtain⟨k0,k1,k2,k3,k4,k5,k6,k7,k8,k9,k10,k11,k12,k13,kb⟩:=hHeld;refine(gM _).mono ?_;rintro e w9 ⟨rfl,aB,xM⟩;have kk:w9.cell? ⟨W.heap.size,5,none⟩=some (.func (.func 139) #[] #[]):=xM 5;replace k0:=V.keeps aB k0;replace k1:=V.keeps aB k1;replace k2:=V.keeps aB k2;replace k3:=V.keeps aB k3;replace k4:=V.keeps aB k4;replace k5:=V.keeps aB k5;replace k6:=V.keeps aB k6;replace k7:=V.keeps aB k7;replace k8:=V.keeps aB k8;replace k9:=V.keeps aB k9;replace k10:=V.keeps aB k10;replace k11:=V.keeps aB k11;replace k12:=V.keeps aB k12;replace k13:=V.keeps aB k13;replace kb:=V.two kb aB;go_wp2_with fail;refine hK.out _ _ ⟨k0,k1,k2,k3,k4,k5,k6,k7,k8,k9,k10,k11,k12,k13,kb⟩ (fun hHeld=>?_);try simp[Act.put]
   refine tx 4 ?v4e rfl (by kernel_rfl) tq (by rfl) ?bPm (by assumption) ?bPn;case bPm=>(rintro wS ⟨k0,k1,k2,k3,k4,k5,k6,k7,k8,k9,k10,k11,k12,k13,kb⟩;go_simp;try with_reducible rfl)
   try simp[Act.put]
   refine tx 5 ?v5e rfl (by kernel_rfl) tq (by rfl) ?bPo (by assumption) ?bPp;case bPo=>(rintro wS ⟨k0,k1,k2,k3,k4,k5,k6,k7,k8,k9,k10,k11,k12,k13,kb⟩;go_simp;try with_reducible rfl)
   try simp[Act.put]
   refine wpAnyH_ready (rs:=[6]) (by kernel_rfl) (by simp) ?_;refine AllReadyH.cons rfl (fun K hK=>?_) AllReadyH.nil;go_simp;go_wp2_with fail;refine hK.out _ _ hHeld (fun hHeld=>?_);try simp[Act.put]
   refine wpAnyH_ready (rs:=[8]) (by kernel_rfl) (by simp) ?_;refine AllReadyH.cons rfl (fun K hK=>?_) AllReadyH.nil;go_simp;obtain⟨k0,k1,k2,k3,k4,k5,k6,k7,k8,k9,k10,k11,k12,k13,kb⟩:=hHeld;have bG:=HK.out;try simp only [eq_false_of_ne_true ‹¬bd=true›] at bG
   try simp only [‹bd=true›] at bG
   try simp only [eq_false_of_ne_true ‹¬lb=true›] at bG
   try simp only [‹lb=true›] at bG
   try simp only [eq_false_of_ne_true ‹¬hb=true›] at bG
   try simp only [‹hb=true›] at bG
   try simp only [eq_false_of_ne_true ‹¬sh=true›] at bG
   try simp only [‹sh=true›] at bG
   try simp only [eq_false_of_ne_true ‹¬bk=true›] at bG
   try simp only [‹bk=true›] at bG
   try simp only [‹mo=0›] at bG
   try simp only [‹st=0›] at bG
   refine(bG _).mono ?_;rintro e w8 ⟨rfl,aB⟩;replace k0:=V.keeps aB k0;replace k1:=V.keeps aB k1;replace k2:=V.keeps aB k2;replace k3:=V.keeps aB k3;replace k4:=V.keeps aB k4;replace k5:=V.keeps aB k5;replace k6:=V.keeps aB k6;replace k7:=V.keeps aB k7;replace k8:=V.keeps aB k8;replace k9:=V.keeps aB k9;replace k10:=V.keeps aB k10;replace k11:=V.keeps aB k11;replace k12:=V.keeps aB k12;replace k13:=V.keeps aB k13;replace kb:=V.two kb aB;go_wp2_with fail;refine hK.out _ _ ⟨k0,k1,k2,k3,k4,k5,k6,k7,k8,k9,k10,k11,k12,k13,kb⟩ (fun hHeld=>?_);try simp[Act.put]
   refine tx 9 ?v9e rfl (by kernel_rfl) tq (by rfl) ?bPq (by assumption) ?bPr;case bPq=>(rintro wS ⟨k0,k1,k2,k3,k4,k5,k6,k7,k8,k9,k10,k11,k12,k13,kb⟩;go_simp;try with_reducible rfl)
   try simp[Act.put]
   refine wpAnyH_done (by kernel_rfl) ?_ _;go_wp2_with fail;obtain⟨k0,k1,k2,k3,k4,k5,k6,k7,k8,k9,k10,k11,k12,k13,kb⟩:=hHeld;go_ret;refine⟨congrArg (fun b=>Ending.returned (.bool b)) ?_,hBW.trans (kb.mono (by rw[HWZ.out];omega))⟩;rw[← HX.out];simp[jN,Co.zero,← List.length_pos_iff,Nat.not_lt.2 hnu, *]
 · skip
   generalize hW:w.alloc (.cells _ 79)=W;have rZ:W.heap.size=w.heap.size+1:=by rw[← hW];simp
   have hBW:Below w.heap.size w W:=by rw[← hW];exact zr.alloc lr _
   have k0:W.cell? ⟨w.heap.size,0,none⟩=some (.string nm):=by rw[← hW,aA];simp[*]
   have k1:W.cell? ⟨w.heap.size,1,none⟩=some (.int .u8 2):=by rw[← hW,aA];simp[*]
   have k2:W.cell? ⟨w.heap.size,2,none⟩=some (.bool dn):=by rw[← hW,aA];simp[*]
   have k3:W.cell? ⟨w.heap.size,3,none⟩=some (.int .u8 nu):=by rw[← hW,aA];simp[*]
   have k4:W.cell? ⟨w.heap.size,4,none⟩=some (.bool bd):=by rw[← hW,aA];simp[*]
   have k5:W.cell? ⟨w.heap.size,5,none⟩=some (.bool lb):=by rw[← hW,aA];simp[*]
   have k6:W.cell? ⟨w.heap.size,6,none⟩=some (.string lm):=by rw[← hW,aA];simp[*]
   have k7:W.cell? ⟨w.heap.size,7,none⟩=some (.bool hb):=by rw[← hW,aA];simp[*]
   have k8:W.cell? ⟨w.heap.size,8,none⟩=some (.string hm):=by rw[← hW,aA];simp[*]
   have k9:W.cell? ⟨w.heap.size,9,none⟩=some (.int .i64 mo):=by rw[← hW,aA];simp[*]
   have k10:W.cell? ⟨w.heap.size,10,none⟩=some (.int .i64 st):=by rw[← hW,aA];simp[*]
   have k11:W.cell? ⟨w.heap.size,11,none⟩=some (.bool sh):=by rw[← hW,aA];simp[*]
   have k12:W.cell? ⟨w.heap.size,12,none⟩=some (.bool bk):=by rw[← hW,aA];simp[*]
   have k13:W.cell? ⟨w.heap.size,13,none⟩=some (.slice a fs.length c):=by rw[← hW,aA];simp[*]
   have HWZ:=zh rZ;clear hW rZ;have hbd:Below W.heap.size W W.drew:=(Below.refl W.heap.size W).drew;refine wp_region_held_drew (S:=fun w'=>w'.cell? ⟨w.heap.size,0,none⟩=some (.string nm)∧w'.cell? ⟨w.heap.size,1,none⟩=some (.int .u8 2)∧w'.cell? ⟨w.heap.size,2,none⟩=some (.bool dn)∧w'.cell? ⟨w.heap.size,3,none⟩=some (.int .u8 nu)∧w'.cell? ⟨w.heap.size,4,none⟩=some (.bool bd)∧w'.cell? ⟨w.heap.size,5,none⟩=some (.bool lb)∧w'.cell? ⟨w.heap.size,6,none⟩=some (.string lm)∧w'.cell? ⟨w.heap.size,7,none⟩=some (.bool hb)∧w'.cell? ⟨w.heap.size,8,none⟩=some (.string hm)∧w'.cell? ⟨w.heap.size,9,none⟩=some (.int .i64 mo)∧w'.cell? ⟨w.heap.size,10,none⟩=some (.int .i64 st)∧w'.cell? ⟨w.heap.size,11,none⟩=some (.bool sh)∧w'.cell? ⟨w.heap.size,12,none⟩=some (.bool bk)∧w'.cell? ⟨w.heap.size,13,none⟩=some (.slice a fs.length c)∧Below W.heap.size W w') (by kernel_rfl) ⟨k0,k1,k2,k3,k4,k5,k6,k7,k8,k9,k10,k11,k12,k13,hbd⟩ (fun hHeld=>?_);refine tx 1 ?v1f rfl (by kernel_rfl) tq (by rfl) ?bPs (by assumption) ?bPt;case bPs=>(rintro wS ⟨k0,k1,k2,k3,k4,k5,k6,k7,k8,k9,k10,k11,k12,k13,kb⟩;go_simp;try with_reducible rfl)
   try simp[Act.put]
   refine tx 2 ?v2f rfl (by kernel_rfl) tq (by rfl) ?bPu (by assumption) ?bPv;case bPu=>(rintro wS ⟨k0,k1,k2,k3,k4,k5,k6,k7,k8,k9,k10,k11,k12,k13,kb⟩;go_simp;try with_reducible rfl)
   try simp[Act.put]
   refine tx 3 ?v3f rfl (by kernel_rfl) tq (by rfl) ?bPw (by assumption) ?bPx;case bPw=>(rintro wS ⟨k0,k1,k2,k3,k4,k5,k6,k7,k8,k9,k10,k11,k12,k13,kb⟩;go_simp;try with_reducible rfl)
   try simp[Act.put]
   rw[show IntKind.u8.wrap 1=1 by decide];refine tx 7 ?v7f rfl (by kernel_rfl) tq (by rfl) ?bPy (by assumption) ?bPz;case bPy=>(rintro wS ⟨k0,k1,k2,k3,k4,k5,k6,k7,k8,k9,k10,k11,k12,k13,kb⟩;go_simp;try with_reducible rfl)
   try simp[Act.put]
   refine wpAnyH_ready (rs:=[0]) (by kernel_rfl) (by simp) ?_;refine AllReadyH.cons rfl (fun K hK=>?_) AllReadyH.nil;go_simp;obtain⟨k0,k1,k2,k3,k4,k5,k6,k7,k8,k9,k10,k11,k12,k13,kb⟩:=hHeld;refine(gM _).mono ?_;rintro e w9 ⟨rfl,aB,xM⟩;have kk:w9.cell? ⟨W.heap.size,5,none⟩=some (.func (.func 139) #[] #[]):=xM 5;replace k0:=V.keeps aB k0;replace k1:=V.keeps aB k1;replace k2:=V.keeps aB k2;replace k3:=V.keeps aB k3;replace k4:=V.keeps aB k4;replace k5:=V.keeps aB k5;replace k6:=V.keeps aB k6;replace k7:=V.keeps aB k7;replace k8:=V.keeps aB k8;replace k9:=V.keeps aB k9;replace k10:=V.keeps aB k10;replace k11:=V.keeps aB k11;replace k12:=V.keeps aB k12;replace k13:=V.keeps aB k13;replace kb:=V.two kb aB;go_wp2_with fail;refine hK.out _ _ ⟨k0,k1,k2,k3,k4,k5,k6,k7,k8,k9,k10,k11,k12,k13,kb⟩ (fun hHeld=>?_);try simp[Act.put]
   refine tx 4 ?v4f rfl (by kernel_rfl) tq (by rfl) ?bQa (by assumption) ?bQb;case bQa=>(rintro wS ⟨k0,k1,k2,k3,k4,k5,k6,k7,k8,k9,k10,k11,k12,k13,kb⟩;go_simp;try with_reducible rfl)
   try simp[Act.put]
   refine tx 5 ?v5f rfl (by kernel_rfl) tq (by rfl) ?bQc (by assumption) ?bQd;case bQc=>(rintro wS ⟨k0,k1,k2,k3,k4,k5,k6,k7,k8,k9,k10,k11,k12,k13,kb⟩;go_simp;try with_reducible rfl)
   try simp[Act.put]
   refine wpAnyH_ready (rs:=[6]) (by kernel_rfl) (by simp) ?_;refine AllReadyH.cons rfl (fun K hK=>?_) AllReadyH.nil;go_simp;go_wp2_with fail;refine hK.out _ _ hHeld (fun hHeld=>?_);try simp[Act.put]
   refine wpAnyH_ready (rs:=[8]) (by kernel_rfl) (by simp) ?_;refine AllReadyH.cons rfl (fun K hK=>?_) AllReadyH.nil;go_simp;obtain⟨k0,k1,k2,k3,k4,k5,k6,k7,k8,k9,k10,k11,k12,k13,kb⟩:=hHeld;have bG:=HK.out;try simp only [eq_false_of_ne_true ‹¬bd=true›] at bG
   try simp only [‹bd=true›] at bG
   try simp only [eq_false_of_ne_true ‹¬lb=true›] at bG
   try simp only [‹lb=true›] at bG
   try simp only [eq_false_of_ne_true ‹¬hb=true›] at bG
   try simp only [‹hb=true›] at bG
   try simp only [eq_false_of_ne_true ‹¬sh=true›] at bG
   try simp only [‹sh=true›] at bG
   try simp only [eq_false_of_ne_true ‹¬bk=true›] at bG
   try simp only [‹bk=true›] at bG
   try simp only [‹mo=0›] at bG
   try simp only [‹st=0›] at bG
   refine(bG _).mono ?_;rintro e w8 ⟨rfl,aB⟩;replace k0:=V.keeps aB k0;replace k1:=V.keeps aB k1;replace k2:=V.keeps aB k2;replace k3:=V.keeps aB k3;replace k4:=V.keeps aB k4;replace k5:=V.keeps aB k5;replace k6:=V.keeps aB k6;replace k7:=V.keeps aB k7;replace k8:=V.keeps aB k8;replace k9:=V.keeps aB k9;replace k10:=V.keeps aB k10;replace k11:=V.keeps aB k11;replace k12:=V.keeps aB k12;replace k13:=V.keeps aB k13;replace kb:=V.two kb aB;go_wp2_with fail;refine hK.out _ _ ⟨k0,k1,k2,k3,k4,k5,k6,k7,k8,k9,k10,k11,k12,k13,kb⟩ (fun hHeld=>?_);try simp[Act.put]
   refine tx 9 ?v9f rfl (by kernel_rfl) tq (by rfl) ?bQe (by assumption) ?bQf;case bQe=>(rintro wS ⟨k0,k1,k2,k3,k4,k5,k6,k7,k8,k9,k10,k11,k12,k13,kb⟩;go_simp;try with_reducible rfl)
   try simp[Act.put]
   refine wpAnyH_done (by kernel_rfl) ?_ _;go_wp2_with fail;obtain⟨k0,k1,k2,k3,k4,k5,k6,k7,k8,k9,k10,k11,k12,k13,kb⟩:=hHeld;go_ret;refine⟨congrArg (fun b=>Ending.returned (.bool b)) ?_,hBW.trans (kb.mono (by rw[HWZ.out];omega))⟩;rw[← HX.out];simp[jN,Co.zero,← List.length_pos_iff,Nat.not_lt.2 hnu, *]
