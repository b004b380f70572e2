import Derived.Test.YtcgnajeenflfaaaGreatDoorP20
set_option maxRecDepth 100000
set_option maxHeartbeats 4000000
set_option linter.all false
open Go.Proofs.Tryz Go.RowKit
namespace Go.Proofs.YtcgnajeenflfaaaGreatDoor
namespace Sc
open V (Same)
def aYj (r:Option Nat) (nb:Nat) (w:World) (e:Ending) (w':World):Prop :=
 (match r with
  | some m=>e=.returned (.bool true)∧aC w' nb 3 #[.int .i64 (m:Int)]
  | none=>Wrong e)∧Xv (· = nb) w w'
def aCc (l:List Fd):Prop:=l.length≤140737488351232→∀ (a:Option Addr) (c:Nat) (pv:Value) (lp:List Int) (nb n hi:Nat) (w:World),n≤64→lp.length≤16→hi≤nb→hi≤w.heap.size→FI w 0 hi l (.slice a l.length c)→aC w nb 3 #[.int .i64 (n:Int)]→aH w (· = nb) pv lp →
 Calls prog 79 #[.slice a l.length c,pv,.func (.func 80) #[] #[.pointer (some ⟨nb,0,none⟩)]] w (aYj (iF n lp.length [] l) nb w)
theorem aYk (w:World) (base:Nat) (hb:base≤w.heap.size):aJ (w.alloc (.cells #[] 3)) base (.slice (some ⟨w.heap.size,0,none⟩) 0 0) []:=by
 refine⟨rfl,.inr ⟨w.heap.size,0,#[],rfl,hb,heap_alloc_new w _,?_,?_,?_,?_⟩⟩<;>simp[nv]
theorem drop_one {l:List Fd} {i:Nat} (h:i<l.length):l.drop i=l[i]::l.drop (i+1):=List.drop_eq_getElem_cons h
theorem take_one {l:List Fd} {i:Nat} (h:i<l.length):l.take (i+1)=l.take i++[l[i]]:=by
 rw[List.take_add_one,List.getElem?_eq_getElem h];rfl
theorem aFd (l:List Fd) (IH:∀ f∈l,aCc f.fields):aCc l:=by
 intro hl a c pv lp nb n hi w hn hlp hnb hhi hfi hbl hpv;obtain⟨d,hd⟩:∃ d,lp.length=d:=⟨_,rfl⟩
 obtain⟨R,hR⟩:∃ R,iF n lp.length [] l=R:=⟨_,rfl⟩
 rw[hR];rw[hd] at hlp hR;obtain⟨pa,pc,rfl,_⟩:=hpv.form;rw[hd] at hpv ⊢;have uK:=zh hfi;have xO:=zh hpv;have HBL:=zh hbl;have HR:=zh hR;have HD:=zh hd;have HIH:=zh IH;have hnl:=hbl.lt;have HNL:=zh hnl;clear hfi hpv hbl hR hd IH hnl;go_enter func79,ntmps79;go_wp2_with fail;go_loopw [12] (fun iv wr=>∃ i m:Nat,i≤l.length∧iv=.int .i64 (i:Int)∧Xv (· = nb) w wr∧aC wr nb 3 #[.int .i64 (m:Int)]∧m≤64∧Hid (iF m d (l.take i) (l.drop i)=R)) (fun iv _=>l.length-(intOf iv).toNat)
 case atStart=>exact⟨0,n,Nat.zero_le _,rfl,Xv.refl _ _,HBL.out,hn,zh HR.out⟩
 case round =>
  obtain⟨i,m,hi2,rfl,hxv,hbl,hm,hw⟩:=hrel;by_cases hlt:i<l.length
  · have q1:decide ((i:Int)<(l.length:Int))=true:=decide_eq_true (by omega);have hfi:=uK.out.xv hxv (fun k _ h e=>by omega) hhi;have htk:=hfi.take i (by omega);obtain⟨a',c',he,hc,hpl⟩:=hfi.open;injection he with e1 e2 e3
    subst e1 e3;obtain⟨b,off,u,rfl,_,hbh,hcl,fK,hsub⟩:=hpl i hlt;have hfm:=List.getElem_mem hlt;obtain⟨k0,k1,k2,k3,k4,k5,k6,k7,k8,k9,k10,k11,k12,k13⟩:=hcl.all;replace hw:=hw.out;rw[drop_one hlt,kG,wK] at hw;have bKo:=take_one hlt;rw[← bKo] at hw;obtain⟨f,hf⟩:∃ f,l[i]=f:=⟨_,rfl⟩
    rw[hf] at k0 k1 k2 k3 k4 k5 k6 k7 k8 k9 k10 k11 k12 fK hsub hw hfm;obtain⟨au,cu,rfl,_,_⟩:=hsub.open;have HW:=zh hw;have HTK:=zh htk;have HFF:=zh fK;have yX:=zh hsub;have HFM:=zh hfm;have HPW:=zh (xO.out.keep hxv.size (fun k hk hp=>hxv.block k hk hp) (fun _ _ e=>e));have HXV:=zh hxv;have aCb:=zh hbl;have jO:=zh hbl.lt;clear hfi hpl hcl fK hsub hw htk hf hxv hbl bKo hfm;have HE:=zh (show ∀ cs,aJ ((wr.alloc (.cells cs 79)).alloc (.cells #[] 3)) (wr.heap.size+1) (.slice (some ⟨wr.heap.size+1,0,none⟩) 0 0) [] from fun cs=>by simpa using aYk (wr.alloc (.cells cs 79)) (wr.heap.size+1) (by simp));have HI:=zh (show ∀ o1 o2,IntsIn ((wr.alloc o1).alloc o2) 0 wr.heap.size (.slice pa d pc) lp from fun o1 o2=>HPW.out.reads.later ((zr.alloc lr _).alloc (by simp) _));have vX:=zh (show ∀ o1 o2,Below (wr.heap.size+1) (wr.alloc o1) ((wr.alloc o1).alloc o2) from fun o1 o2=>zr.alloc (by simp) _);go_wp2_with (first
     | (at_builtin;refine bB rfl (.tmp 17) (.tmp 18) rfl rfl (HE.out _) rfl (HI.out _ _) (by rw[HD.out];simp;omega) (vX.out _ _) (by simp) ?_;intro c1 bVz w1 jX hB1 hs1 hz1;simp only [List.length_nil,Nat.zero_add,List.nil_append] at jX)
     | (at_builtin;refine bB rfl (.tmp 19) (.tmp 21) rfl rfl (jX.alloc _) rfl (aJ.one _ w1.heap.size _ lr).reads (by simp[HD.out];omega) (hB1.alloc hs1 _) (by simp;omega) ?_;intro c2 cap2 w2 hO2 hB2 hs2 hz2))
    have hbw:Below wr.heap.size wr w2:=((Below.refl _ wr).alloc lr _).trans (hB2.mono (Nat.le_succ _));have hzw:=Nat.le_trans HXV.out.size hbw.size;have HXW:=zh (HXV.out.then hbw);have bQp:=zh (aC.below aCb.out hbw jO.out);have bQq:=zh (HTK.out.same (Same.of_below hbw (Nat.le_trans hhi HXV.out.size)));have bKp:=zh (yX.out.same (Same.of_below hbw (Nat.le_trans hhi HXV.out.size)));have HPP:=zh (aH.of (bad:=(· = nb)) (aJ.reads hO2) lr (fun k h1 _ e=>by have:=jO.out;omega));have htl:(l.take i).length=i:=by rw[List.length_take];omega
    have qs:(i:Int)≤(c:Int):=by omega
    have k0:w2.cell? ⟨wr.heap.size,0,none⟩=some (.string f.name):=(hB2.cell (p:=⟨wr.heap.size,0,none⟩) (Nat.lt_succ_self _)).trans (by simp);have k1:w2.cell? ⟨wr.heap.size,1,none⟩=some (.int .u8 f.kind):=(hB2.cell (p:=⟨wr.heap.size,1,none⟩) (Nat.lt_succ_self _)).trans (by simp);have k2:w2.cell? ⟨wr.heap.size,2,none⟩=some (.bool f.down):=(hB2.cell (p:=⟨wr.heap.size,2,none⟩) (Nat.lt_succ_self _)).trans (by simp);have k3:w2.cell? ⟨wr.heap.size,3,none⟩=some (.int .u8 f.aI):=(hB2.cell (p:=⟨wr.heap.size,3,none⟩) (Nat.lt_succ_self _)).trans (by simp);have k4:w2.cell? ⟨wr.heap.size,4,none⟩=some (.bool f.bnd):=(hB2.cell (p:=⟨wr.heap.size,4,none⟩) (Nat.lt_succ_self _)).trans (by simp);have k5:w2.cell? ⟨wr.heap.size,5,none⟩=some (.bool f.eX):=(hB2.cell (p:=⟨wr.heap.size,5,none⟩) (Nat.lt_succ_self _)).trans (by simp);have k6:w2.cell? ⟨wr.heap.size,6,none⟩=some (.string f.eG):=(hB2.cell (p:=⟨wr.heap.size,6,none⟩) (Nat.lt_succ_self _)).trans (by simp);have k7:w2.cell? ⟨wr.heap.size,7,none⟩=some (.bool f.hib):=(hB2.cell (p:=⟨wr.heap.size,7,none⟩) (Nat.lt_succ_self _)).trans (by simp);have k8:w2.cell? ⟨wr.heap.size,8,none⟩=some (.string f.him):=(hB2.cell (p:=⟨wr.heap.size,8,none⟩) (Nat.lt_succ_self _)).trans (by simp);have k9:w2.cell? ⟨wr.heap.size,9,none⟩=some (.int .i64 f.most):=(hB2.cell (p:=⟨wr.heap.size,9,none⟩) (Nat.lt_succ_self _)).trans (by simp)
    have k10:w2.cell? ⟨wr.heap.size,10,none⟩=some (.int .i64 f.co.str):=(hB2.cell (p:=⟨wr.heap.size,10,none⟩) (Nat.lt_succ_self _)).trans (by simp);have k11:w2.cell? ⟨wr.heap.size,11,none⟩=some (.bool f.co.sh):=(hB2.cell (p:=⟨wr.heap.size,11,none⟩) (Nat.lt_succ_self _)).trans (by simp);have k12:w2.cell? ⟨wr.heap.size,12,none⟩=some (.bool f.co.back):=(hB2.cell (p:=⟨wr.heap.size,12,none⟩) (Nat.lt_succ_self _)).trans (by simp);have k13:w2.cell? ⟨wr.heap.size,13,none⟩=some (.slice au f.fields.length cu):=(hB2.cell (p:=⟨wr.heap.size,13,none⟩) (Nat.lt_succ_self _)).trans (by simp);clear HXV aCb HTK yX HPW jX hB1 hs1 hz1 hs2 hz2 hB2 hO2 hbw HE HI vX
    refine wp_region_held_drew (S:=fun w'=>w'.cell? ⟨wr.heap.size,0,none⟩=some (.string f.name)∧w'.cell? ⟨wr.heap.size,1,none⟩=some (.int .u8 f.kind)∧w'.cell? ⟨wr.heap.size,2,none⟩=some (.bool f.down)∧w'.cell? ⟨wr.heap.size,3,none⟩=some (.int .u8 f.aI)∧w'.cell? ⟨wr.heap.size,4,none⟩=some (.bool f.bnd)∧w'.cell? ⟨wr.heap.size,5,none⟩=some (.bool f.eX)∧w'.cell? ⟨wr.heap.size,6,none⟩=some (.string f.eG)∧w'.cell? ⟨wr.heap.size,7,none⟩=some (.bool f.hib)∧w'.cell? ⟨wr.heap.size,8,none⟩=some (.string f.him)∧w'.cell? ⟨wr.heap.size,9,none⟩=some (.int .i64 f.most)∧w'.cell? ⟨wr.heap.size,10,none⟩=some (.int .i64 f.co.str)∧w'.cell? ⟨wr.heap.size,11,none⟩=some (.bool f.co.sh)∧w'.cell? ⟨wr.heap.size,12,none⟩=some (.bool f.co.back)∧w'.cell? ⟨wr.heap.size,13,none⟩=some (.slice au f.fields.length cu)∧Xv (· = nb) w2 w') (by kernel_rfl) ⟨k0,k1,k2,k3,k4,k5,k6,k7,k8,k9,k10,k11,k12,k13,(Xv.refl _ w2).drew⟩ (fun hHeld=>?_);refine tx 0 ?v0 rfl (by kernel_rfl) tq (by rfl) ?hy0 (by assumption) ?aCd;case hy0=>(rintro wS ⟨k0,k1,k2,k3,k4,k5,k6,k7,k8,k9,k10,k11,k12,k13,kb⟩;go_simp;try with_reducible rfl)
    try simp[Act.put]
    refine tx 1 ?v1 rfl (by kernel_rfl) tq (by rfl) ?hy1 (by assumption) ?aFe;case hy1=>(rintro wS ⟨k0,k1,k2,k3,k4,k5,k6,k7,k8,k9,k10,k11,k12,k13,kb⟩;go_simp;try with_reducible rfl)
    try simp[Act.put]
    refine tx 2 ?v2 rfl (by kernel_rfl) tq (by rfl) ?hy2 (by assumption) ?aCe;case hy2=>(rintro wS ⟨k0,k1,k2,k3,k4,k5,k6,k7,k8,k9,k10,k11,k12,k13,kb⟩;go_simp;try with_reducible rfl)
    try simp[Act.put]
    refine tx 3 ?v3 rfl (by kernel_rfl) tq (by rfl) ?hy3 (by assumption) ?aFf;case hy3=>(rintro wS ⟨k0,k1,k2,k3,k4,k5,k6,k7,k8,k9,k10,k11,k12,k13,kb⟩;go_simp;try with_reducible rfl)
    try simp[Act.put]
    refine tx 4 ?v4 rfl (by kernel_rfl) tq (by rfl) ?hy4 (by assumption) ?aKf;case hy4=>(rintro wS ⟨k0,k1,k2,k3,k4,k5,k6,k7,k8,k9,k10,k11,k12,k13,kb⟩;go_simp;try with_reducible rfl)
    try simp[Act.put]
    refine tx 5 ?v5 rfl (by kernel_rfl) tq (by rfl) ?hy5 (by assumption) ?aYl;case hy5=>(rintro wS ⟨k0,k1,k2,k3,k4,k5,k6,k7,k8,k9,k10,k11,k12,k13,kb⟩;go_simp;try with_reducible rfl)
    try simp[Act.put]
    refine wpAnyH_ready (rs:=[6]) (by kernel_rfl) (by simp) ?_;refine AllReadyH.cons rfl (fun K hK=>?_) AllReadyH.nil;go_simp;obtain⟨k0,k1,k2,k3,k4,k5,k6,k7,k8,k9,k10,k11,k12,k13,kb⟩:=hHeld;have hdo:=bGo f au cu HFF.out (l.take i) (some ⟨b,off,none⟩) c c2 (lp.length+1) cap2 nb m hi w2.drew hm (by rw[htl];omega) hnb (Nat.le_trans hhi hzw) (by rw[htl];exact bQq.out.same (fun _ _ _=>rfl)) bQp.out;rw[htl] at hdo;refine hdo.mono ?_;rintro e w9 ⟨he,wB,aB⟩;cases aKg:uR (m+1) (lp.length+1) (l.take i) f with
    | false =>
     rw[aKg,if_neg (by decide)] at he;obtain⟨cc,ca,cn,ck,hcc,rfl⟩:=he;have hRn:R=none:=by rw[← HW.out,← HD.out,aKg];rfl
     unfold aCa;go_wp2_with fail;rw[hRn];exact⟨rfl,⟨cc,ca,cn,ck,hcc,rfl⟩,HXW.out.trans wB.qA (fun _ _ e=>e)⟩
    | true =>
     rw[aKg,if_pos rfl] at he;subst he;replace k0:=wB.cell (fun e=>by have:=jO.out;simp only at e;omega) k0;replace k1:=wB.cell (fun e=>by have:=jO.out;simp only at e;omega) k1;replace k2:=wB.cell (fun e=>by have:=jO.out;simp only at e;omega) k2;replace k3:=wB.cell (fun e=>by have:=jO.out;simp only at e;omega) k3;replace k4:=wB.cell (fun e=>by have:=jO.out;simp only at e;omega) k4;replace k5:=wB.cell (fun e=>by have:=jO.out;simp only at e;omega) k5;replace k6:=wB.cell (fun e=>by have:=jO.out;simp only at e;omega) k6;replace k7:=wB.cell (fun e=>by have:=jO.out;simp only at e;omega) k7;replace k8:=wB.cell (fun e=>by have:=jO.out;simp only at e;omega) k8;replace k9:=wB.cell (fun e=>by have:=jO.out;simp only at e;omega) k9;replace k10:=wB.cell (fun e=>by have:=jO.out;simp only at e;omega) k10;replace k11:=wB.cell (fun e=>by have:=jO.out;simp only at e;omega) k11;replace k12:=wB.cell (fun e=>by have:=jO.out;simp only at e;omega) k12;replace k13:=wB.cell (fun e=>by have:=jO.out;simp only at e;omega) k13;replace kb:=kb.trans wB (fun _ _ e=>e);go_wp2_with fail;refine hK.out _ _ ⟨k0,k1,k2,k3,k4,k5,k6,k7,k8,k9,k10,k11,k12,k13,kb⟩ (fun hHeld=>?_);try simp[Act.put]
     refine tx 7 ?v7 rfl (by kernel_rfl) tq (by rfl) ?hy7 (by assumption) ?aRb;case hy7=>(rintro wS ⟨k0,k1,k2,k3,k4,k5,k6,k7,k8,k9,k10,k11,k12,k13,kb⟩;go_simp;try with_reducible rfl)
     try simp[Act.put]
     refine tx 8 ?v8 rfl (by kernel_rfl) tq (by rfl) ?hy8 (by assumption) ?aRc;case hy8=>(rintro wS ⟨k0,k1,k2,k3,k4,k5,k6,k7,k8,k9,k10,k11,k12,k13,kb⟩;go_simp;try with_reducible rfl)
     try simp[Act.put]
     refine tx 9 ?v9 rfl (by kernel_rfl) tq (by rfl) ?hy9 (by assumption) ?aRd;case hy9=>(rintro wS ⟨k0,k1,k2,k3,k4,k5,k6,k7,k8,k9,k10,k11,k12,k13,kb⟩;go_simp;try with_reducible rfl)
     try simp[Act.put]
     refine tx 10 ?v10 rfl (by kernel_rfl) tq (by rfl) ?aNq (by assumption) ?aNr;case aNq=>(rintro wS ⟨k0,k1,k2,k3,k4,k5,k6,k7,k8,k9,k10,k11,k12,k13,kb⟩;go_simp;try with_reducible rfl)
     try simp[Act.put]
     refine tx 11 ?v11 rfl (by kernel_rfl) tq (by rfl) ?aNs (by assumption) ?aNt;case aNs=>(rintro wS ⟨k0,k1,k2,k3,k4,k5,k6,k7,k8,k9,k10,k11,k12,k13,kb⟩;go_simp;try with_reducible rfl)
     try simp[Act.put]
     refine tx 12 ?v12 rfl (by kernel_rfl) tq (by rfl) ?aHf (by assumption) ?aHg;case aHf=>(rintro wS ⟨k0,k1,k2,k3,k4,k5,k6,k7,k8,k9,k10,k11,k12,k13,kb⟩;go_simp;try with_reducible rfl)
     try simp[Act.put]
     refine wpAnyH_ready (rs:=[13]) (by kernel_rfl) (by simp) ?_;refine AllReadyH.cons rfl (fun K hK=>?_) AllReadyH.nil;go_simp;obtain⟨k0,k1,k2,k3,k4,k5,k6,k7,k8,k9,k10,k11,k12,k13,kb⟩:=hHeld;have hf2:=aKg;simp only [uR,Bool.and_eq_true,decide_eq_true_eq] at hf2;have hfa:m+1≤64∧lp.length+1≤16:=⟨hf2.1.1.1.1.1,hf2.1.1.1.1.2⟩
     have hwk:=HIH.out f HFM.out HFF.out.l au cu (.slice c2 (lp.length+1) cap2) (lp++[(i:Int)]) nb (m+1) hi w9 hfa.1 (by simpa using hfa.2) hnb (Nat.le_trans (Nat.le_trans hhi hzw) wB.size) (bKp.out.same (wB.qA.same (fun k _ h e=>by omega) (Nat.le_trans hhi hzw))) aB (HPP.out.keep wB.size (fun k hk hp=>wB.block k hk hp) (fun _ _ e=>e));obtain⟨Z,hZ⟩:∃ Z,iF (m+1) (lp++[(i:Int)]).length [] f.fields=Z:=⟨_,rfl⟩
     rw[hZ] at hwk;have hW2:=HW.out;rw[← HD.out,aKg,if_pos rfl,show lp.length+1=(lp++[(i:Int)]).length by simp,hZ] at hW2;refine hwk.mono ?_;rintro e w8 ⟨he2,hx8⟩;cases Z with
     | none =>
      obtain⟨cc,ca,cn,ck,hcc,rfl⟩:=he2;have hRn:R=none:=by rw[← hW2];rfl
      unfold aCa;go_wp2_with fail;rw[hRn];exact⟨rfl,⟨cc,ca,cn,ck,hcc,rfl⟩,(HXW.out.trans wB.qA (fun _ _ e=>e)).trans hx8 (fun _ _ e=>e)⟩
     | some q =>
      obtain⟨rfl,hb8⟩:=he2;have hq:=(rU _ f.fields _ _ _ hfa.1 hZ).2.1;replace k0:=hx8.cell (fun e=>by have:=jO.out;simp only at e;omega) k0;replace k1:=hx8.cell (fun e=>by have:=jO.out;simp only at e;omega) k1;replace k2:=hx8.cell (fun e=>by have:=jO.out;simp only at e;omega) k2;replace k3:=hx8.cell (fun e=>by have:=jO.out;simp only at e;omega) k3;replace k4:=hx8.cell (fun e=>by have:=jO.out;simp only at e;omega) k4;replace k5:=hx8.cell (fun e=>by have:=jO.out;simp only at e;omega) k5;replace k6:=hx8.cell (fun e=>by have:=jO.out;simp only at e;omega) k6;replace k7:=hx8.cell (fun e=>by have:=jO.out;simp only at e;omega) k7;replace k8:=hx8.cell (fun e=>by have:=jO.out;simp only at e;omega) k8;replace k9:=hx8.cell (fun e=>by have:=jO.out;simp only at e;omega) k9;replace k10:=hx8.cell (fun e=>by have:=jO.out;simp only at e;omega) k10;replace k11:=hx8.cell (fun e=>by have:=jO.out;simp only at e;omega) k11;replace k12:=hx8.cell (fun e=>by have:=jO.out;simp only at e;omega) k12;replace k13:=hx8.cell (fun e=>by have:=jO.out;simp only at e;omega) k13;replace kb:=kb.trans hx8 (fun _ _ e=>e);go_wp2_with fail;refine hK.out _ _ ⟨k0,k1,k2,k3,k4,k5,k6,k7,k8,k9,k10,k11,k12,k13,kb⟩ (fun hHeld=>?_);try simp[Act.put]
      refine tx 14 ?v14 rfl (by kernel_rfl) tq (by rfl) ?aHh (by assumption) ?aHi;case aHh=>(rintro wS ⟨k0,k1,k2,k3,k4,k5,k6,k7,k8,k9,k10,k11,k12,k13,kb⟩;go_simp;try with_reducible rfl)
      try simp[Act.put]
      refine tx 15 ?v15 rfl (by kernel_rfl) tq (by rfl) ?aNu (by assumption) ?aNv;case aNu=>(rintro wS ⟨k0,k1,k2,k3,k4,k5,k6,k7,k8,k9,k10,k11,k12,k13,kb⟩;go_simp;try with_reducible rfl)
      try simp[Act.put]
      refine wpAnyH_done (by kernel_rfl) ?_ _;go_wp2_with fail;obtain⟨k0,k1,k2,k3,k4,k5,k6,k7,k8,k9,k10,k11,k12,k13,kb⟩:=hHeld;exact⟨⟨i+1,q,by omega,by simp,HXW.out.trans kb (fun _ _ e=>e),hb8,hq,zh (by rw[← HD.out];exact hW2)⟩,by simp[intOf];omega⟩
  · obtain rfl:i=l.length:=by omega
    have q1:decide ((l.length:Int)<(l.length:Int))=false:=decide_eq_false (by omega);have hRm:R=some m:=by
     have h:=hw.out;rw[List.drop_length,oP] at h;exact h.symm
    go_wp2_with fail;refine bodyPost_ret (v:=.bool true) (by simp[results,Tryz.f79]) rfl ?_;rw[hRm];exact⟨⟨rfl,hbl⟩,hxv⟩
theorem aYm (f:Fd):aCc f.fields:=Fd.ind (C:=fun f=>aCc f.fields) (fun f ih=>aFd f.fields ih) f
theorem aYn (l:List Fd):aCc l:=aFd l (fun f _=>aYm f)
