import Derived.Test.YtcgnajeenflfaaaGreatDoorP11
set_option maxRecDepth 100000
set_option maxHeartbeats 4000000
set_option linter.all false
open Go.Proofs.Tryz Go.RowKit
namespace Go.Proofs.YtcgnajeenflfaaaGreatDoor
namespace Sc
open V (Pt aW cZ aL fB fO kC nI bE)
open We (Co)
open Es (esc un aWt aWu bJg)
theorem toList_mk (m:List UInt8):(⟨m.toArray⟩:ByteArray).toList=m:=by rw[Lib.toList_data]
theorem kI (s:ByteArray):(⟨s.toList.toArray⟩:ByteArray)=s:=ba_eq (by rw[Lib.toList_data])
theorem size_mk (m:List UInt8):(⟨m.toArray⟩:ByteArray).size=m.length:=by rw[← V.aD,toList_mk]
theorem sD {s:ByteArray} (h:s.toList.isEmpty=true):s=.empty:=ba_eq (by rw[← Lib.toList_data,List.isEmpty_iff.1 h];rfl)
theorem toList_empty:(ByteArray.empty).toList=[]:=by rw[Lib.toList_data];rfl
theorem aXt {n:Nat} {k:UInt8} (h:n<256) (hk:n≠k.toNat):UInt8.ofNat n≠k:=fun e=>hk (by rw[← e,u8n n h])
theorem aNc {b:Bool} {m:List UInt8} (h:iJ b m=0) (r:List UInt8):eH (bM b m++r)=some (bM b m).length:=by
 obtain⟨h1,h2,h3⟩:=dR.1 h;unfold bM fC;cases b
 · by_cases hk:m.length≤126
   · simp only [hk,if_true,Bool.false_eq_true,if_false,List.cons_append,List.nil_append,eH];rw[if_neg (by
      rintro (e | e)
      · exact aXt (by omega) (by have aDs:(255:UInt8).toNat=255:=rfl;omega) e
      · exact aXt (by omega) (by have aDs:(1:UInt8).toNat=1:=rfl;omega) e),u8n (128+m.length) (by omega),if_pos (by omega)]
     simp only [List.length_cons];exact congrArg some (by omega)
   · simp only [hk,Bool.false_eq_true,if_false,List.cons_append,List.nil_append,eH,true_or,if_true];rw[if_neg (show ¬ (255:UInt8)=1 by decide),u8n m.length (by omega)];simp only [List.length_cons];exact congrArg some (by omega)
 · have hm:m.length≠0:=fun e=>by cases h2 (List.eq_nil_of_length_eq_zero e)
   by_cases hk:m.length≤126
   · simp only [hk,if_true,List.cons_append,List.nil_append,eH];rw[if_neg (by
      rintro (e | e)
      · exact aXt (by omega) (by have aDs:(255:UInt8).toNat=255:=rfl;omega) e
      · exact aXt (by omega) (by have aDs:(1:UInt8).toNat=1:=rfl;omega) e),u8n (128-m.length) (by omega),if_neg (by omega),if_pos (by omega)]
     simp only [List.length_cons,List.length_map];exact congrArg some (by omega)
   · simp only [hk,if_true,if_false,List.cons_append,List.nil_append,eH,or_true];rw[u8n (255-m.length) (by omega)];simp only [List.length_cons,List.length_map];exact congrArg some (by omega)
theorem aJq {f:Fd} {l r:List UInt8} {p:Pt} (h:rdNum f l=some (p,r)):∃ b m,p=.mk 2 false b ⟨m.toArray⟩ .empty []∧l=bM b m++r∧iJ b m=0∧rX f b m=true:=by
 unfold rdNum at h;split at h
 · cases h
 · next n hn =>
   split at h
   · cases h
   · next hl =>
     split at h
     · cases h
     · next b m k ht =>
       split at h
       · next hk =>
         injection h with h
         injection h with h1 h2
         subst h1 h2;obtain⟨a1,a2,a3,a4⟩:=zM ht;refine⟨b,m,rfl,?_,a1,hk.2⟩;rw[a4,List.drop_zero,Nat.sub_zero,hk.1,List.take_take,Nat.min_self,List.take_append_drop]
       · cases h
theorem aTb {f:Fd} {b:Bool} {m:List UInt8} (r:List UInt8) (h:iJ b m=0) (hi:rX f b m=true):rdNum f (bM b m++r)=some (.mk 2 false b ⟨m.toArray⟩ .empty [],r):=by
 have ht:=aRz h [] [];simp only [List.nil_append,List.append_nil,List.length_nil,Nat.zero_add] at ht;unfold rdNum;rw[aNc h];simp only [List.take_left',List.drop_left',ht,hi,and_self,if_true];rw[if_neg (by rw[List.length_append];omega)]
theorem zX {l s r:List UInt8} (h:dQ l=some (s,r)):l=qW s++r:=by
 unfold dQ at h;split at h
 · next hu =>
   injection h with h
   injection h with h1 h2
   subst h1 h2;rw[qW,← aWu l hu,List.take_append_drop]
 · cases h
theorem aEx (s r:List UInt8):dQ (qW s++r)=some (s,r):=by
 have h:=aWt s r;have he:qW s++r=esc s++0::1::r:=by simp[qW]
 unfold dQ;rw[he,h];simp only [if_true];congr 2
 rw[show esc s++0::1::r=(esc s++[0,1])++r by simp,List.drop_left' (by simp)]
theorem aJr:∀ (l:List UInt8) (n:Nat) (k r:List UInt8),dF l n=some (k,r)→l=k++r:=by
 intro l n;fun_induction dF l n with
 | case1 l=>intro k r h;injection h with h;injection h with h1 h2;subst h1 h2;rfl
 | case2 a b r' n hab ih =>
  intro k r h;cases hx:dF r' n with
  | none=>rw[hx] at h;cases h
  | some x =>
   rw[hx] at h;injection h with h
   injection h with h1 h2
   subst h1 h2;rw[ih _ _ hx];rfl
 | case3 a b r' n hab ih =>
  intro k r h;cases hx:dF r' (n+1) with
  | none=>rw[hx] at h;cases h
  | some x =>
   rw[hx] at h;injection h with h
   injection h with h1 h2
   subst h1 h2;rw[ih _ _ hx];rfl
 | case4=>intro k r h;cases h
def aEy (K:Co→ByteArray→List UInt8):Prop:=∀ c s r,c.ok→s.size≤65536→U.bK s<0→dF (K c s++r) c.str.toNat=some (K c s,r)
theorem aGu {K:Co→ByteArray→List UInt8} {f:Fd} {l r:List UInt8} {p:Pt} (h:gZ K f l=some (p,r)) :
 ∃ s,p=.mk 6 false false .empty s []∧l=(kU f.co::(K f.co s++qW s.toList))++r∧s.size≤65536∧U.bK s<0:=by
 unfold gZ at h;split at h
 · cases h
 · next c t =>
   split at h
   · cases h
   · next hc =>
     have hc2:c=kU f.co:=by simpa using hc
     split at h
     · cases h
     · next k r1 hk =>
       split at h
       · cases h
       · next s r2 hs =>
         split at h
         · next ho =>
           injection h with h
           injection h with h1 h2
           subst h1 h2;refine⟨_,rfl,?_,by rw[size_mk];exact ho.1,ho.2.1⟩;rw[aJr _ _ _ _ hk,zX hs,toList_mk,ho.2.2,hc2];simp
         · cases h
theorem aNd {K:Co→ByteArray→List UInt8} (hK:aEy K) {f:Fd} {s:ByteArray} (r:List UInt8) (hc:f.co.ok) (h1:s.size≤65536) (h2:U.bK s<0) :
 gZ K f ((kU f.co::(K f.co s++qW s.toList))++r)=some (.mk 6 false false .empty s [],r):=by
 rw[List.cons_append,List.append_assoc];unfold gZ;simp only [ne_eq,not_true_eq_false,if_false];rw[hK f.co s _ hc h1 h2];simp only;rw[aEx];simp only [kI];rw[if_pos ⟨by rw[V.aD];exact h1,h2,trivial⟩]
theorem iT {f:Fd} (h:yD f=false):(1≤f.kind∧f.kind≤7∧f.aI≤2)∧((f.kind=3∨f.kind=5)→0≤f.most∧f.most≤65536)∧(f.kind=6→f.co.ok)∧(f.kind≠7→f.fields=[]):=by
 unfold yD at h;split at h
 · cases h
 · next h1 =>
   split at h
   · cases h
   · next h2 =>
     simp only [not_or] at h1 h2;refine⟨by omega,fun h35=>?_,fun h6=>?_,fun h7=>?_⟩
     · rw[if_neg (by omega),if_pos h35] at h;simp only [decide_eq_false_iff_not] at h;omega
     · rw[if_neg (by omega),if_neg (by omega),if_pos h6] at h;simpa using h
     · exact Classical.not_not.1 fun hf=>h2.2.2.2 ⟨h7,hf⟩
theorem aTc {b:Bool} {m:List UInt8} (h:iJ b m=0):fB (.mk 2 false b ⟨m.toArray⟩ .empty [])=true:=by
 have hc:V.iJ b m=0:=h;simp[fB,V.Pt.kind,V.Pt.yes,V.Pt.neg,V.Pt.mag,V.Pt.raw,V.Pt.items,toList_mk,hc,toList_empty]
theorem aEz {k:Nat} {s:ByteArray} (hk:k=3∨k=5∨k=6) (h:s.size≤65536):fB (.mk k false false .empty s [])=true:=by
 rcases hk with rfl | rfl | rfl<;>simp[fB,V.Pt.kind,V.Pt.yes,V.Pt.neg,V.Pt.mag,V.Pt.raw,V.Pt.items,h,toList_empty]
theorem aXu {s:ByteArray} (h:s.size=16):fB (.mk 4 false false .empty s [])=true:=by
 simp[fB,V.Pt.kind,V.Pt.yes,V.Pt.neg,V.Pt.mag,V.Pt.raw,V.Pt.items,h,toList_empty]
theorem oV {p:Pt} (h:fB p=true) (hi:p.items=[]):aL p=true:=by rw[nI,h,hi];simp
theorem aTd {K:Co→ByteArray→List UInt8} {f:Fd} {l r:List UInt8} {p:Pt} (ho:yD f=false) (h7:f.kind≠7) (h:rdP K f l=some (p,r)) :
 p.kind=f.kind∧l=lH K f p++r∧qE f p=true∧aL p=true:=by
 obtain⟨hk,hm,hc,_⟩:=iT ho;unfold rdP at h;split at h
 · next h1 =>
   split at h
   · cases h
   · next c t =>
     split at h
     · next hc1 =>
       injection h with h
       injection h with e1 e2
       subst e1 e2;have hcc:c=0∨c=1:=by
        have:c.toNat≤1:=hc1;rcases (by omega:c.toNat=0∨c.toNat=1) with h | h
        · exact .inl (UInt8.toNat_inj.1 h)
        · exact .inr (UInt8.toNat_inj.1 h)
       refine⟨h1.symm,?_,by simp[qE,V.Pt.kind],?_⟩
       · rcases hcc with rfl | rfl<;>rfl
       · exact oV (by simp[fB,V.Pt.kind,V.Pt.yes,V.Pt.neg,V.Pt.mag,V.Pt.raw,V.Pt.items,toList_empty]) rfl
     · cases h
 · next h1 =>
   split at h
   · next h2 =>
     obtain⟨b,m,rfl,e1,e2,e3⟩:=aJq h;refine⟨h2.symm,by rw[e1];simp only [lH,V.Pt.kind,V.Pt.neg,V.Pt.mag,toList_mk];rfl,?_,oV (aTc e2) rfl⟩;simp only [qE,V.Pt.kind,V.Pt.neg,V.Pt.mag,toList_mk,if_true];exact e3
   · next h2 =>
     split at h
     · next h4 =>
       split at h
       · next hl =>
         injection h with h
         injection h with e1 e2
         subst e1 e2;refine⟨h4.symm,?_,by simp[qE,V.Pt.kind],oV (aXu (by rw[size_mk,List.length_take];omega)) rfl⟩;simp only [lH,V.Pt.kind,V.Pt.raw,toList_mk,h4];exact(List.take_append_drop 16 l).symm
       · cases h
     · next h4 =>
       split at h
       · next h6 =>
         obtain⟨s,rfl,e1,e2,e3⟩:=aGu h;refine⟨h6.symm,?_,?_,oV (aEz (.inr (.inr rfl)) e2) rfl⟩
         · rw[e1];simp only [lH,V.Pt.kind,V.Pt.raw,h6];rfl
         · simp[qE,V.Pt.kind,V.Pt.raw,e3]
       · next h6 =>
         split at h
         · cases h
         · next s t hs =>
           split at h
           · next hst =>
             injection h with h
             injection h with e1 e2
             subst e1 e2;have bGh:f.kind=3∨f.kind=5:=by omega
             have hm2:=hm bGh;refine⟨rfl,?_,?_,oV (aEz (by omega) (by rw[size_mk];omega)) rfl⟩
             · rw[zX hs];simp only [lH,V.Pt.kind,V.Pt.raw,toList_mk,if_neg h1,if_neg h2,if_neg h4,if_neg h6]
             · simp only [qE,V.Pt.kind,V.Pt.raw,size_mk,if_neg h2,hst.1,decide_true,Bool.or_true,Bool.true_and];rcases bGh with e | e
               · rw[e];rfl
               · simp[hst.2 e]
           · cases h
theorem canon {p:Pt} (h:fB p=true):p.kind≤7∧(p.kind≠1→p.yes=false)∧(p.kind≠2→p.neg=false∧p.mag=.empty)∧(p.kind≠7→p.items=[]) ∧
 (p.kind=2→iJ p.neg p.mag.toList=0)∧(p.kind=4→p.raw.size=16)∧((p.kind=3∨p.kind=5∨p.kind=6)→p.raw.size≤65536)∧((p.kind=0∨p.kind=1∨p.kind=2∨p.kind=7)→p.raw=.empty):=by
 simp only [fB,Bool.and_eq_true,Bool.or_eq_true,decide_eq_true_eq,beq_iff_eq,Bool.not_eq_true'] at h;obtain⟨⟨⟨⟨h1,h2⟩,h3⟩,h4⟩,h5⟩:=h;refine⟨h1,fun hk=>h2.resolve_left hk,fun hk=>?_,fun hk=>?_,fun hk=>?_,fun hk=>?_,fun hk=>?_,fun hk=>?_⟩
 · obtain⟨a,b⟩:=h3.resolve_left hk;exact⟨a,sD b⟩
 · exact List.isEmpty_iff.1 (h4.resolve_left hk)
 · rw[if_pos hk] at h5;simp only [Bool.and_eq_true,beq_iff_eq] at h5;exact h5.2
 · rw[if_neg (by omega),if_pos hk] at h5;simpa using h5
 · rw[if_neg (by omega),if_neg (by omega),if_pos hk] at h5;simpa using h5
 · rcases hk with hk | hk | hk | hk
   · rw[if_neg (by omega),if_neg (by omega),if_neg (by omega),if_neg (by omega)] at h5;exact sD h5
   · rw[if_neg (by omega),if_neg (by omega),if_neg (by omega),if_neg (by omega)] at h5;exact sD h5
   · rw[if_pos hk] at h5;simp only [Bool.and_eq_true] at h5;exact sD h5.1
   · rw[if_neg (by omega),if_neg (by omega),if_neg (by omega),if_pos hk] at h5;simp only [Bool.and_eq_true] at h5;exact sD h5.1
theorem aBq {p:Pt} (h:fB p=true) (h1:p.kind≠1) (h2:p.kind≠2) (h7:p.kind≠7):p=.mk p.kind false false .empty p.raw []:=by
 obtain⟨_,a,b,c,_⟩:=canon h;conv=>lhs;rw[V.Pt.eta p,a h1,(b h2).1,(b h2).2,c h7]
theorem bCk {K:Co→ByteArray→List UInt8} (hK:aEy K) {f:Fd} {p:Pt} (r:List UInt8) (ho:yD f=false) (h7:f.kind≠7) (hk:p.kind=f.kind) (hf:qE f p=true) (hm:aL p=true) :
 rdP K f (lH K f p++r)=some (p,r):=by
 obtain⟨hk1,hm1,hc1,_⟩:=iT ho;have h1:=bE hm;obtain⟨_,c1,c2,c7,cn,c4,cr,ce⟩:=canon h1;by_cases e1:f.kind=1
 · have hp:p=.mk 1 p.yes false .empty .empty []:=by
    conv=>lhs;rw[V.Pt.eta p,hk,e1,(c2 (by omega)).1,(c2 (by omega)).2,c7 (by omega),ce (by omega)]
   have he:lH K f p=[if p.yes then 1 else 0]:=by unfold lH;rw[if_pos (hk.trans e1)]
   rw[he];unfold rdP;rw[if_pos e1];conv=>rhs;rw[hp]
   cases p.yes<;>rfl
 by_cases e2:f.kind=2
 · have hb:rX f p.neg p.mag.toList=true:=by
    unfold qE at hf;rwa [if_pos (hk.trans e2)] at hf
   have he:lH K f p=bM p.neg p.mag.toList:=by unfold lH;rw[if_neg (by omega),if_pos (hk.trans e2)]
   rw[he];unfold rdP;rw[if_neg e1,if_pos e2,aTb r (cn (by omega)) hb,kI];congr 2
   conv=>rhs;rw[V.Pt.eta p,hk,e2,c1 (by omega),c7 (by omega),ce (by omega)]
 have hp:=aBq h1 (by omega) (by omega) (by omega);by_cases e4:f.kind=4
 · have h16:=c4 (by omega);have hl:p.raw.toList.length=16:=by rw[V.aD,h16]
   have he:lH K f p=p.raw.toList:=by unfold lH;rw[if_neg (by omega),if_neg (by omega),if_pos e4]
   rw[he];unfold rdP;rw[if_neg e1,if_neg e2,if_pos e4,if_pos (by rw[List.length_append];omega),List.take_left' hl,List.drop_left' hl,kI];conv=>rhs;rw[hp,hk,e4]
 by_cases e6:f.kind=6
 · have hu:U.bK p.raw<0:=by
    unfold qE at hf;rw[if_neg (by omega),hk,e6] at hf;simpa using hf
   have he:lH K f p=kU f.co::(K f.co p.raw++qW p.raw.toList):=by unfold lH;rw[if_neg (by omega),if_neg (by omega),if_neg e4,if_pos e6]
   rw[he];unfold rdP;rw[if_neg e1,if_neg e2,if_neg e4,if_pos e6,aNd hK r (hc1 e6) (cr (by omega)) hu];conv=>rhs;rw[hp,hk,e6]
 have he:lH K f p=qW p.raw.toList:=by unfold lH;rw[if_neg (by omega),if_neg (by omega),if_neg e4,if_neg e6]
 rw[he];unfold rdP;rw[if_neg e1,if_neg e2,if_neg e4,if_neg e6,aEx];have bGh:f.kind=3∨f.kind=5:=by omega
 simp only [kI];unfold qE at hf;rw[if_neg (by omega)] at hf;simp only [Bool.and_eq_true,Bool.or_eq_true,decide_eq_true_eq,Bool.not_eq_true',Bool.or_eq_false_iff,beq_eq_false_iff_ne] at hf;rw[if_pos ⟨by rw[V.aD];exact hf.1.resolve_left (by omega),fun e5=>hf.2.resolve_left (by omega)⟩];conv=>rhs;rw[hp,hk]
theorem aJs {f:Fd} (h:1≤f.kind∧f.kind≤7∧f.aI≤2):aAp f≠rV f:=by
 unfold aAp rV;refine aXt (by split<;>omega) ?_;have bVy:(125:UInt8).toNat=125:=rfl;have h2:(2:UInt8).toNat=2:=rfl;split<;>split<;>omega
theorem xL.lt {d:Nat} {f:Fd} (h:xL d f):d<16:=by cases h;assumption
theorem aTe {K:Co→ByteArray→List UInt8} (d:Nat):∀ (l:List Fd),(∀ g∈l,∀ d,xL d g→∀ s p r,rdF K g s=some (p,r)→s=qX K g p++r∧mQ g p=true∧aL p=true∧aW p+d≤15)→(∀ g∈l,xL d g) →
 ∀ s ps r,zV K l s=some (ps,r)→s=iW K l ps++r∧ps.length=l.length∧kH l ps=true∧(∀ p∈ps,aL p=true∧aW p+d≤15):=by
 intro l;induction l with
 | nil =>
  intro _ _ s ps r h;rw[aAv] at h;injection h with h
  injection h with h1 h2
  subst h1 h2;exact⟨by rw[rW];rfl,rfl,aJj _,fun p hp=>by cases hp⟩
 | cons f l ih =>
  intro hC hok s ps r h;rw[oQ] at h;cases hf:rdF K f s with
  | none=>rw[hf] at h;cases h
  | some x =>
   rw[hf,Option.bind_some] at h;cases hl:zV K l x.2 with
   | none=>rw[hl] at h;cases h
   | some y =>
    rw[hl] at h;injection h with h
    injection h with h1 h2
    subst h1 h2;obtain⟨a1,a2,a3,a4⟩:=hC f List.mem_cons_self d (hok f List.mem_cons_self) s x.1 x.2 hf;obtain⟨b1,b2,b3,b4⟩:=ih (fun g hg=>hC g (List.mem_cons_of_mem _ hg)) (fun g hg=>hok g (List.mem_cons_of_mem _ hg)) x.2 y.1 y.2 hl;refine⟨?_,by rw[List.length_cons,List.length_cons,b2],?_,fun p hp=>?_⟩
    · rw[tH,a1,b1,List.append_assoc];rfl
    · rw[tJ];simp only [List.head?_cons,Option.getD_some,List.tail_cons,a2,b3,Bool.and_self]
    · rcases List.mem_cons.1 hp with rfl | hp
      · exact⟨a3,a4⟩
      · exact b4 p hp
theorem yU {K:Co→ByteArray→List UInt8} (f:Fd):∀ d,xL d f→∀ s p r,rdF K f s=some (p,r)→s=qX K f p++r∧mQ f p=true∧aL p=true∧aW p+d≤15:=by
 induction f using Fd.ind with
 | h f ih =>
  intro d hok s p r h;obtain⟨_,_,hd,hn,ho,h7,hl,hin⟩:=hok;cases s with
  | nil=>rw[aQr] at h;cases h
  | cons t s =>
   rw[wL] at h;split at h
   · next ht =>
     injection h with h
     injection h with h1 h2
     subst h1 h2;refine⟨by rw[tF,ht.1];rfl,?_,oV (by simp[qU,fB,V.Pt.kind,V.Pt.yes,V.Pt.neg,V.Pt.mag,V.Pt.raw,V.Pt.items,toList_empty]) rfl,by rw[fO];show 0+d≤15;omega⟩;rw[nL];simp[qU,V.Pt.kind,ht.2]
   · split at h
     · cases h
     · next _ ht =>
       have ht2:t=aAp f:=by simpa using ht
       subst ht2;cases hp:bU K f (flips f.down s) with
       | none=>rw[hp] at h;cases h
       | some x =>
        rw[hp] at h;injection h with h
        injection h with h1 h2
        subst h1 h2;obtain⟨hk,_⟩:=iT ho;unfold bU at hp;split at hp
        · next e7 =>
          cases hr:zV K f.fields (flips f.down s) with
          | none=>rw[hr] at hp;cases hp
          | some y =>
           rw[hr,Option.bind_some] at hp;obtain⟨b1,b2,b3,b4⟩:=aTe (d+1) f.fields ih hin _ y.1 y.2 hr;unfold zU at hp;split at hp
           · cases hp
           · next c t hy =>
             split at hp
             · next hc =>
               injection hp with hp
               subst hp;have hdd:cZ y.1+d+1≤15:=by
                have:=(kC y.1 (15-(d+1))).2 fun p hp=>by have:=(b4 p hp).2;omega
                obtain⟨g,hg⟩:=List.exists_mem_of_ne_nil _ (h7 e7);have:=(hin g hg).lt;omega
               refine⟨?_,?_,?_,?_⟩
               · rw[tF];simp only [V.Pt.kind,V.Pt.items];rw[if_neg (by decide),if_pos trivial];rw[hy,hc] at b1;have h3:=congrArg (flips f.down) b1;rw[jH] at h3;rw[List.cons_append,← yE,List.append_assoc];exact congrArg _ h3
               · rw[nL];simp only [V.Pt.kind,V.Pt.items];rw[if_neg (by decide),if_pos trivial,e7,b2,b3];simp
               · rw[nI];simp only [V.Pt.kind,V.Pt.items,Bool.and_eq_true,List.all_eq_true,beq_self_eq_true,Bool.not_true,Bool.false_or];refine⟨?_,fun p hp=>(b4 p hp).1⟩;have:y.1.length≤1024:=by omega
                 simp[fB,V.Pt.kind,V.Pt.yes,V.Pt.neg,V.Pt.mag,V.Pt.raw,V.Pt.items,toList_empty,this]
               · rw[fO];simp only [V.Pt.kind,V.Pt.items];rw[if_pos trivial];omega
             · cases hp
        · next e7 =>
          obtain⟨a1,a2,a3,a4⟩:=aTd ho e7 hp;refine⟨?_,?_,a4,?_⟩
          · rw[tF,if_neg (by omega),if_neg (by omega)];have h3:=congrArg (flips f.down) a2;rw[jH] at h3;rw[List.cons_append,← yE];exact congrArg _ h3
          · rw[nL,if_neg (by omega),if_neg (by omega),a1,a3];simp
          · rw[fO,if_neg (by omega)];omega
theorem aQx {K:Co→ByteArray→List UInt8} (d:Nat):∀ (l:List Fd),(∀ g∈l,∀ d,xL d g→∀ p r,mQ g p=true→aL p=true→rdF K g (qX K g p++r)=some (p,r))→(∀ g∈l,xL d g) →
 ∀ ps r,ps.length=l.length→kH l ps=true→(∀ p∈ps,aL p=true)→zV K l (iW K l ps++r)=some (ps,r):=by
 intro l;induction l with
 | nil =>
  intro _ _ ps r h _ _;rw[aAv,rW,List.eq_nil_of_length_eq_zero h];rfl
 | cons f l ih =>
  intro hC hok ps r h hf hm;cases ps with
  | nil=>cases h
  | cons p ps =>
   rw[tJ] at hf;simp only [List.head?_cons,Option.getD_some,List.tail_cons,Bool.and_eq_true] at hf;rw[oQ,tH];simp only [List.head?_cons,Option.getD_some,List.tail_cons];rw[List.append_assoc,hC f List.mem_cons_self d (hok f List.mem_cons_self) p _ hf.1 (hm p List.mem_cons_self),Option.bind_some,
    ih (fun g hg=>hC g (List.mem_cons_of_mem _ hg)) (fun g hg=>hok g (List.mem_cons_of_mem _ hg)) ps r (by simpa using h) hf.2 (fun q hq=>hm q (List.mem_cons_of_mem _ hq))]
   rfl
theorem bCl {K:Co→ByteArray→List UInt8} (hK:aEy K) (f:Fd):∀ d,xL d f→∀ p r,mQ f p=true→aL p=true→rdF K f (qX K f p++r)=some (p,r):=by
 induction f using Fd.ind with
 | h f ih =>
  intro d hok p r hf hm;obtain⟨_,_,hd,hn,ho,h7,hl,hin⟩:=hok;obtain⟨hk,_⟩:=iT ho;have h1:=bE hm;rw[nL] at hf;rw[tF];by_cases h0:p.kind=0
  · rw[if_pos h0] at hf ⊢;rw[List.cons_append,List.nil_append,wL,if_pos ⟨rfl,by simpa using hf⟩];obtain⟨_,c1,c2,c7,_,_,_,ce⟩:=canon h1;have:=aBq h1 (by omega) (by omega) (by omega);rw[ce (by omega),h0] at this;rw[this];rfl
  · rw[if_neg h0] at hf ⊢;simp only [Bool.and_eq_true,beq_iff_eq] at hf;rw[List.cons_append,wL,if_neg (fun e=>aJs hk e.1),if_neg (by simp),yE,jH];unfold bU;by_cases e7:p.kind=7
    · rw[if_pos e7] at hf ⊢;simp only [Bool.and_eq_true,beq_iff_eq] at hf;rw[if_pos (by omega),List.append_assoc,aQx (d+1) f.fields ih hin p.items _ hf.2.1 hf.2.2 (fun q hq=>V.dW hm hq),Option.bind_some];simp only [zU,List.cons_append,if_true];rw[Option.map_some];obtain⟨_,c1,c2,c7,_,_,_,ce⟩:=canon h1;congr 2
      · conv=>rhs;rw[V.Pt.eta p,e7,c1 (by omega),(c2 (by omega)).1,(c2 (by omega)).2,ce (by omega)]
      · exact jH _ _
    · rw[if_neg e7] at hf ⊢;rw[if_neg (by omega),bCk hK _ ho (by omega) hf.1 hf.2 hm,Option.map_some];congr 2
      exact jH _ _
end Sc
namespace We
open Ta (El Tm iB gU aY dD)
open D (Dm aG dM)
open Ma (mH vE tC)
open Sc (dF aEy)
def aJt (n:Int):Prop:=0≤n∧n≤65535
def aJu (x:El):Prop:=aJt x.p∧aJt x.s∧aJt x.t
theorem bCm (x:Int):∀ e∈iB x,aJu e:=by
 intro e he;unfold iB at he;split at he
 · next h =>
   have hx:0≤x∧x≤1114111:=by
    simp only [aY,Bool.and_eq_true,decide_eq_true_eq] at h;omega
   have hb:0≤gU x∧gU x≤64448:=by
    unfold gU;repeat' split
    all_goals omega
   rcases List.mem_cons.1 he with rfl | he
   · unfold aJu aJt;simp only;omega
   · rw[List.mem_singleton.1 he];unfold aJu aJt;simp only;omega
 · cases he
theorem aTf {T:Tm} (wt:lF T) (c:Int→Int) (l:List Int):∀ e∈mH c T l,aJu e:=by
 intro e he;rw[tC] at he;obtain⟨row,_,hr⟩:=List.mem_flatMap.1 he;unfold vE at hr;cases hf:dD T row with
 | none=>rw[hf] at hr;exact bCm _ e hr
 | some es =>
  rw[hf] at hr;unfold dD at hf;split at hf
  · exact wt.fits _ _ hf e hr
  · cases hf
theorem bGi (sh:Bool):∀ (l:List El) (b:Bool),(∀ e∈l,aJu e)→∀ x∈wds sh b l,aJu x.e:=by
 intro l;induction l with
 | nil=>intro b _ x hx;cases hx
 | cons e l ih =>
  intro b h x hx;rw[wds] at hx;rcases List.mem_cons.1 hx with rfl | hx
  · exact h e List.mem_cons_self
  · exact ih _ (fun e he=>h e (List.mem_cons_of_mem _ he)) x hx
theorem bCn {x:Wd} (h:aJu x.e) (i:Nat):aJt (rP i x):=by
 obtain⟨h1,h2,h3⟩:=h;unfold rP aJt at *;repeat' split
 all_goals omega
theorem bGj {l:List Wd} (h:∀ x∈l,aJu x.e) (i:Nat):∀ n∈wts i l,1≤n∧n≤65535:=by
 intro n hn;unfold wts at hn;obtain⟨h1,h2⟩:=List.mem_filter.1 hn;obtain⟨x,hx,rfl⟩:=List.mem_map.1 h1;have:=bCn (h x hx) i;simp only [decide_eq_true_eq] at h2;unfold aJt at this;omega
theorem aFa {T:Tm} (wt:lF T) (D:Dm) (c:Co) (s:ByteArray) (i:Nat):∀ n∈yC D T c s i,1≤n∧n≤65535:=by
 have h:=bGj (bGi c.sh _ false (aTf wt (aG D) (dM D (U.lN s)))) i;intro n hn;unfold yC aEs at hn;split at hn
 · exact So.aXh (C:=fun n=>1≤n∧n≤65535) h n hn
 · exact h n hn
theorem two_bytes {n:Int} (h:1≤n∧n≤65535):¬ (UInt8.ofNat (n / 256 % 256).toNat=0∧UInt8.ofNat (n % 256).toNat=0):=by
 rintro ⟨h1,h2⟩;have h3:=congrArg UInt8.toNat h1;have h4:=congrArg UInt8.toNat h2;have h0:(0:UInt8).toNat=0:=rfl;rw[u8n _ (by omega),h0] at h3;rw[u8n _ (by omega),h0] at h4;omega
theorem aJv:∀ (l:List Int) (R:List UInt8) (n:Nat),(∀ x∈l,1≤x∧x≤65535)→dF (iV l++R) (n+1)=(dF R n).map fun x=>(iV l++x.1,x.2):=by
 intro l;induction l with
 | nil =>
  intro R n _;show dF (0::0::R) (n+1)=_
  rw[dF,if_pos ⟨rfl,rfl⟩];rfl
 | cons x l ih =>
  intro R n h;show dF (UInt8.ofNat (x / 256 % 256).toNat::UInt8.ofNat (x % 256).toNat::(iV l++R)) (n+1)=_
  rw[dF,if_neg (two_bytes (h x List.mem_cons_self)),ih R n fun y hy=>h y (List.mem_cons_of_mem _ hy),Option.map_map];rfl
theorem aGv:∀ (ls:List (List Int)) (R:List UInt8),(∀ l∈ls,∀ x∈l,1≤x∧x≤65535)→dF (ls.flatMap iV++R) ls.length=some (ls.flatMap iV,R):=by
 intro ls;induction ls with
 | nil=>intro R _;rw[List.length_nil,dF];rfl
 | cons l ls ih =>
  intro R h;rw[List.flatMap_cons,List.append_assoc,List.length_cons,aJv _ _ _ (h l List.mem_cons_self),ih R fun m hm=>h m (List.mem_cons_of_mem _ hm)];rfl
theorem wN {T:Tm} (wt:lF T) (D:Dm):aEy (bT D T):=by
 intro c s r hc _ _;have h:=aGv (allM D T c s) r (fun l hl=>by
  unfold allM at hl;obtain⟨i,_,rfl⟩:=List.mem_map.1 hl;exact aFa wt D c s i)
 unfold bT;rwa [show (allM D T c s).length=c.str.toNat by unfold allM;simp] at h
end We
namespace Lo
open D (aF)
def aAq (w:World):Prop:=w.cell? ⟨10,15,none⟩=some (.int .u8 4)
theorem aAq.later {w w':World} (h:aAq w) (hb:Below w.heap.size w w'):aAq w':=(hb.cell (p:=⟨10,15,none⟩) (World.block_lt_of_cell? _ _ h)).trans h
theorem bQi (w:World) (hg:aAq w):Calls prog 233 #[.int .u64 16] w fun e w'=>e=.returned (.int .i64 4)∧w'=w:=by
 have hc:w.cell? ⟨10,15,none⟩=some (.int .u8 4):=hg;have h1:bits .and .u64 16 18446744073709551600=16:=by decide
 have h2:IntKind.u64.wrap (-16)=18446744073709551600:=by rw[IntKind.wrap_u64];decide
 clear hg;go_enter func233,ntmps233;go_wp2_with fail;go_ret;exact⟨rfl,rfl⟩
theorem tz (w:World) (hg:aAq w):Calls prog 216 #[.int .u64 16] w fun e w'=>e=.returned (.int .i64 4)∧w'=w:=by
 have H:=zh (bQi w hg);clear hg;go_enter func216,ntmps216;go_wp2_with fail;refine H.out.mono ?_;rintro e w' ⟨rfl,rfl⟩;go_wp2_with fail;go_ret;exact⟨rfl,rfl⟩
theorem aQy (w:World):Calls prog 215 #[.int .i64 16] w fun e w'=>e=.returned (.bool true)∧w'=w:=by
 have h1:bits .and .i64 16 15=0:=by decide
 go_enter func215,ntmps215;go_wp2_with fail;go_ret;exact⟨rfl,rfl⟩
def lI (l:List UInt8):Array Value:=(l.map fun c=>Value.int .u8 (c.toNat:Int)).toArray
def Asc (l:List UInt8):Prop:=∀ c∈l,c.toNat<128
def vG:ByteArray:=⟨#[48,49,50,51,52,53,54,55,56,57,97,98,99,100,101,102,103,104,105,106,107,108,109,110,111,112,113,114,115,116,117,118,119,120,121,122]⟩
theorem aGw:Tryz.zeroCells352=lI (List.replicate 65 0):=by kernel_rfl
theorem mV (L:List UInt8) (i:Nat) (c:UInt8):(lI L).setIfInBounds i (.int .u8 (c.toNat:Int))=lI (L.set i c):=by
 unfold lI;rw[List.setIfInBounds_toArray,List.map_set]
theorem wO {L:List UInt8} (h:Asc L) {c:UInt8} (hc:c.toNat<128) (i:Nat):Asc (L.set i c):=by
 intro x hx;rcases List.mem_or_eq_of_mem_set hx with hx | rfl
 · exact h x hx
 · exact hc
theorem wP {y:Nat} (h:y<vG.size):vG[y].toNat<128:=by
 have key:∀ c∈vG.data.toList,c.toNat<128:=by decide
 exact key _ (by rw[ByteArray.getElem_eq_getElem_data];exact List.mem_of_getElem? (i:=y) (by simp))
theorem aJw {w:World} {B j:Nat} {T:TypeId} {L:List UInt8} (h:aC w B T (lI L)) (hj:j<L.length):∃ v,w.cell? ⟨B,j,none⟩=some v:=by
 refine⟨.int .u8 (L[j].toNat:Int),(h.cell j).trans ?_⟩;simp[lI,List.getElem?_eq_getElem hj]
theorem aQz (B k:Nat) (hk:k<65) (W:World):(Instr.sliceAt 352 (.pointer (some ⟨B,0,none⟩)) (some (.int .i64 (k:Int))) none none).run prog W=.ok (.slice (some ⟨B,k,none⟩) (65-k) (65-k)) W:=by
 have e1:prog.arrayLen 352=65:=by kernel_rfl
 have e2:prog.elem 352=5:=by kernel_rfl
 have hu:prog.underlying 352=some (.array (prog.arrayLen 352) (prog.elem 352)):=by kernel_rfl
 rw[run_sliceAt_array_l W 352 ⟨B,0,none⟩ hu .i64 (k:Int) (by omega) (by rw[e1];omega),e1,e2,Tryz.sizeOf5];simp only [Result.andThen,slicedAt,Int.toNat_natCast,Nat.mul_one];rw[if_neg (by omega)];by_cases h0:k=0
 · subst h0;rfl
 · simp[Addr.add,h0]
theorem aXv (B k:Nat) (W:World) (T:TypeId) (L:List UInt8) (h:aC W B T (lI L)) (hL:L.length=65) (hk:k<65) :
 (convert 99 9 (.slice (some ⟨B,k,none⟩) (65-k) (65-k))).run prog W=.ok (.string ⟨(L.drop k).toArray⟩) W:=by
 have:=run_convert_bytes_back (P:=prog) W 99 9 5 ⟨B,k,none⟩ (65-k) (L.drop k) underlying99 underlying5 underlying9 (fun j hj=>by
  rw[List.length_drop] at hj;have h2:=h.cell (k+j);rw[show (⟨B,k,none⟩:Addr).add j=⟨B,k+j,none⟩ by by_cases h0:j=0<;>simp[Addr.add,h0],h2];simp[lI,List.getElem?_eq_getElem (show k+j<L.length by omega)])
 rwa [List.length_drop,hL] at this
theorem aJx {L:List UInt8} (h:Asc L) (k:Nat):Asc (L.drop k):=fun c hc=>h c (List.mem_of_mem_drop hc)
theorem bCo (u:Int) (w:World) (h0:0≤u) (h1:u≤18446744073709551615) (hg:aAq w) :
 Calls prog 191 #[.slice none 0 0,.int .u64 u,.int .i64 16,.bool true,.bool false] w fun e w'=>∃ p:ByteArray,e=.returned (.tuple #[.slice none 0 0,.string p])∧Asc p.data.toList∧p.size≤65∧Below w.heap.size w w':=by
 have HG:=zh hg;obtain⟨u2,hu2⟩:∃ u2,IntKind.u64.wrap (-u)=u2:=⟨_,rfl⟩
 have hb:0≤u2∧u2≤18446744073709551615:=by rw[← hu2,IntKind.wrap_u64];omega
 obtain⟨hb0,hb1⟩:=hb;clear hg;go_enter func191,ntmps191;go_wp2_with (first
  | (go_at_call 215;refine(aQy _).mono ?_;rintro e w1 ⟨rfl,rfl⟩)
  | (go_at_call 216;refine(tz _ (HG.out.later (zr.alloc lr _))).mono ?_;rintro e w1 ⟨rfl,rfl⟩))
 clear hu2;have hblk:=aC.new w 352 (lI (List.replicate 65 0));rw[← aGw] at hblk;go_loopw [1,13] (fun uv iv wr=>∃ (i:Nat) (x:Int) (L:List UInt8),uv=.int .u64 x∧iv=.int .i64 i∧50≤i∧i≤65∧0≤x∧x≤18446744073709551615∧RowKit.Hid (x<16 ^ (i-49))∧RowKit.Hid (aC wr w.heap.size 352 (lI L))∧L.length=65∧RowKit.Hid (Asc L)∧RowKit.Hid (Below w.heap.size w wr)) (fun _ i _=>(intOf i).toNat)
 case atStart=>exact⟨65,u2,List.replicate 65 0,rfl,rfl,by omega,by omega,hb0,hb1,zh (by show u2<16 ^ 16;omega),zh (aGw▸hblk),rfl,zh (fun c hc=>by rw[List.eq_of_mem_replicate hc];decide),zh (zr.alloc lr _)⟩
 case round =>
  obtain⟨i,x,L,rfl,rfl,hi0,hi1,hx0,hx1,HX,HB,hL,HA,HW⟩:=hrel;by_cases hge:16≤x
  · obtain⟨j,rfl⟩:∃ j,i=j+1:=⟨i-1,by omega⟩
    have hj:50≤j:=by
     rcases Nat.lt_or_ge j 50 with h | h
     · have h2:=HX.out;obtain rfl:j=49:=by omega
       have h3:x<16:=h2;omega
     · exact h
    obtain⟨y,hy⟩:∃ y,bits .and .u64 x 15=y:=⟨_,rfl⟩
    have hy0:0≤y∧y≤15:=by
     have h:=bits_and_u64_nat x.toNat 15 (by omega) (by omega);rw[Int.toNat_of_nonneg hx0] at h;have h2:x.toNat &&& 15≤15:=Nat.and_le_right;rw[← hy,show (15:Int)=((15:Nat):Int) from rfl,h];omega
    obtain⟨hy0,hy1⟩:=hy0;obtain⟨v,cj⟩:=aJw HB.out (j:=j) (by omega);have hfz:=HB.out.frozen j;clear hblk;go_wp2_with fail;have hyl:y.toNat<vG.size:=by show y.toNat<36;omega
    have hset:=HB.out.aU j (.int .u8 ((vG[y.toNat]'hyl).toNat:Int));rw[mV] at hset;refine⟨⟨j,x / 16,L.set j (vG[y.toNat]'hyl),rfl,rfl,hj,by omega,by omega,by omega,zh ?_,zh hset,by simp[hL],zh (wO HA.out (wP hyl) j),zh (HW.out.setCell (p:=⟨w.heap.size,j,none⟩) lr _)⟩,by simp[intOf]⟩;have h2:=HX.out;rw[show j+1-49=(j-49)+1 by omega,Int.pow_succ] at h2;exact Int.ediv_lt_of_lt_mul (by decide) h2
  · obtain⟨k,rfl⟩:∃ k,i=k+1+1:=⟨i-2,by omega⟩
    have bQj:x≤15:=by omega
    obtain⟨v,cj⟩:=aJw HB.out (j:=k+1) (by omega);obtain⟨v2,cj2⟩:=aJw HB.out (j:=k) (by omega);have hfz:=HB.out.frozen (k+1);have bQk:=HB.out.frozen k;have hkn:k+1≠k:=by omega
    have hxl:x.toNat<vG.size:=by show x.toNat<36;omega
    have b1:=HB.out.aU (k+1) (.int .u8 ((vG[x.toNat]'hxl).toNat:Int));rw[mV] at b1;have b2:=b1.aU k (.int .u8 ((45:UInt8).toNat:Int));rw[mV] at b2;have HA2:=zh (aJx (wO (wO HA.out (wP hxl) (k+1)) (c:=45) (by decide) k) k);have hcv:=aXv _ k _ _ _ b2 (by simp[hL]) (by omega);have hsl:=aQz w.heap.size k (by omega);have hB2:=(HW.out.setCell (p:=⟨w.heap.size,k+1,none⟩) lr (.int .u8 ((vG[x.toNat]'hxl).toNat:Int))).setCell (p:=⟨w.heap.size,k,none⟩) lr (.int .u8 ((45:UInt8).toNat:Int));have HB2:=zh hB2;clear hblk hge b1 b2 hB2;go_wp2_with fail;erw[hcv];go_wp2_with fail;go_ret2
    exact⟨_,rfl,HA2.out,by show ((L.set (k+1) _).set k 45 |>.drop k).toArray.size≤65;simp;omega,HB2.out⟩
theorem aXw (u:Int) (w:World) (h0:0≤u) (h1:u≤18446744073709551615) (hg:aAq w) :
 Calls prog 191 #[.slice none 0 0,.int .u64 u,.int .i64 16,.bool false,.bool false] w fun e w'=>∃ p:ByteArray,e=.returned (.tuple #[.slice none 0 0,.string p])∧Asc p.data.toList∧p.size≤65∧Below w.heap.size w w':=by
 have HG:=zh hg;clear hg;go_enter func191,ntmps191;go_wp2_with (first
  | (go_at_call 215;refine(aQy _).mono ?_;rintro e w1 ⟨rfl,rfl⟩)
  | (go_at_call 216;refine(tz _ (HG.out.later (zr.alloc lr _))).mono ?_;rintro e w1 ⟨rfl,rfl⟩))
 have hblk:=aC.new w 352 (lI (List.replicate 65 0));rw[← aGw] at hblk;go_loopw [1,13] (fun uv iv wr=>∃ (i:Nat) (x:Int) (L:List UInt8),uv=.int .u64 x∧iv=.int .i64 i∧50≤i∧i≤65∧0≤x∧x≤18446744073709551615∧RowKit.Hid (x<16 ^ (i-49))∧RowKit.Hid (aC wr w.heap.size 352 (lI L))∧L.length=65∧RowKit.Hid (Asc L)∧RowKit.Hid (Below w.heap.size w wr)) (fun _ i _=>(intOf i).toNat)
 case atStart=>exact⟨65,u,List.replicate 65 0,rfl,rfl,by omega,by omega,h0,h1,zh (by show u<16 ^ 16;omega),zh (aGw▸hblk),rfl,zh (fun c hc=>by rw[List.eq_of_mem_replicate hc];decide),zh (zr.alloc lr _)⟩
 case round =>
  obtain⟨i,x,L,rfl,rfl,hi0,hi1,hx0,hx1,HX,HB,hL,HA,HW⟩:=hrel;by_cases hge:16≤x
  · obtain⟨j,rfl⟩:∃ j,i=j+1:=⟨i-1,by omega⟩
    have hj:50≤j:=by
     rcases Nat.lt_or_ge j 50 with h | h
     · have h2:=HX.out;obtain rfl:j=49:=by omega
       have h3:x<16:=h2;omega
     · exact h
    obtain⟨y,hy⟩:∃ y,bits .and .u64 x 15=y:=⟨_,rfl⟩
    have hy0:0≤y∧y≤15:=by
     have h:=bits_and_u64_nat x.toNat 15 (by omega) (by omega);rw[Int.toNat_of_nonneg hx0] at h;have h2:x.toNat &&& 15≤15:=Nat.and_le_right;rw[← hy,show (15:Int)=((15:Nat):Int) from rfl,h];omega
    obtain⟨hy0,hy1⟩:=hy0;obtain⟨v,cj⟩:=aJw HB.out (j:=j) (by omega);have hfz:=HB.out.frozen j;clear hblk;go_wp2_with fail;have hyl:y.toNat<vG.size:=by show y.toNat<36;omega
    have hset:=HB.out.aU j (.int .u8 ((vG[y.toNat]'hyl).toNat:Int));rw[mV] at hset;refine⟨⟨j,x / 16,L.set j (vG[y.toNat]'hyl),rfl,rfl,hj,by omega,by omega,by omega,zh ?_,zh hset,by simp[hL],zh (wO HA.out (wP hyl) j),zh (HW.out.setCell (p:=⟨w.heap.size,j,none⟩) lr _)⟩,by simp[intOf]⟩;have h2:=HX.out;rw[show j+1-49=(j-49)+1 by omega,Int.pow_succ] at h2;exact Int.ediv_lt_of_lt_mul (by decide) h2
  · obtain⟨k,rfl⟩:∃ k,i=k+1:=⟨i-1,by omega⟩
    have bQj:x≤15:=by omega
    obtain⟨v2,cj2⟩:=aJw HB.out (j:=k) (by omega);have bQk:=HB.out.frozen k;have hxl:x.toNat<vG.size:=by show x.toNat<36;omega
    have b2:=HB.out.aU k (.int .u8 ((vG[x.toNat]'hxl).toNat:Int));rw[mV] at b2;have HA2:=zh (aJx (wO HA.out (wP hxl) k) k);have hcv:=aXv _ k _ _ _ b2 (by simp[hL]) (by omega);have hsl:=aQz w.heap.size k (by omega);have hB2:=HW.out.setCell (p:=⟨w.heap.size,k,none⟩) lr (.int .u8 ((vG[x.toNat]'hxl).toNat:Int));have HB2:=zh hB2;clear hblk hge b2 hB2;go_wp2_with fail;erw[hcv];go_wp2_with fail;go_ret2
    exact⟨_,rfl,HA2.out,by show ((L.set k _).drop k).toArray.size≤65;simp;omega,HB2.out⟩
def aNe:Value→Nat
 | .string s=>s.size
 | _=>0
theorem zY (s:ByteArray):((⟨#[48]⟩:ByteArray)++s).size=s.size+1:=by
 rw[ByteArray.size_append];show 1+s.size=_
 omega
theorem aAr (x:Int) (w:World) (hx:aF x) (hg:aAq w):Calls prog 159 #[.int .i64 x,.int .i64 16] w fun e w'=>∃ p:ByteArray,e=.returned (.string p)∧Asc p.data.toList∧p.size≤65∧Below w.heap.size w w':=by
 have hw:IntKind.u64.wrap x=x % 18446744073709551616:=IntKind.wrap_u64 x;obtain⟨u,hu⟩:∃ u,x % 18446744073709551616=u:=⟨_,rfl⟩
 have hb:0≤u∧u≤18446744073709551615:=by omega
 rw[hu] at hw;have HT:=zh (bCo u w hb.1 hb.2 hg);have HF:=zh (aXw u w hb.1 hb.2 hg);clear hu hb hg hx;by_cases hn:x<0
 · have q1:decide (x<0)=true:=decide_eq_true hn;clear hn;go_enter func159,ntmps159;go_wp2_with fail;refine HT.out.mono ?_;rintro e w1 ⟨p,rfl,h1,h2,h3⟩;go_wp2_with fail;go_ret;exact⟨p,rfl,h1,h2,h3⟩
 · have q1:decide (x<0)=false:=decide_eq_false hn;clear hn;go_enter func159,ntmps159;go_wp2_with fail;refine HF.out.mono ?_;rintro e w1 ⟨p,rfl,h1,h2,h3⟩;go_wp2_with fail;go_ret;exact⟨p,rfl,h1,h2,h3⟩
theorem uS (x:Int) (w:World) (hx:aF x) (hg:aAq w):Calls prog 122 #[.int .i64 x,.int .i64 16] w fun e w'=>∃ p:ByteArray,e=.returned (.string p)∧Asc p.data.toList∧p.size≤65∧Below w.heap.size w w':=by
 have H:=zh (aAr x w hx hg);clear hx hg;go_enter func122,ntmps122;go_wp2_with fail;refine H.out.mono ?_;rintro e w1 ⟨p,rfl,h1,h2,h3⟩;go_wp2_with fail;go_ret;exact⟨p,rfl,h1,h2,h3⟩
theorem aNf (x:Int) (w:World) (hx:aF x) (hg:aAq w):Calls prog 113 #[.int .i64 x] w fun e w'=>∃ p:ByteArray,e=.returned (.string p)∧p.size≤65∧Below w.heap.size w w':=by
 have H:=zh (uS x w hx hg);clear hx hg;go_enter func113,ntmps113;go_wp2_with fail;refine H.out.mono ?_;rintro e w1 ⟨p,rfl,h1,h2,h3⟩;have HB:=zh h3;have HU:=zh (Tryz.strings_ToUpper_ascii p w1 (by omega) (fun j b hb=>h1 b (List.mem_of_getElem? hb)));have hsz:(Lib.toUpperA p.data.toList).length≤65:=by unfold Lib.toUpperA;rw[List.length_map];exact h2
 have HS:=zh hsz;clear h1 h2 h3 hsz;go_wp2_with fail;refine HU.out.mono ?_;rintro e w2 ⟨rfl,hb2⟩;obtain⟨q,hq⟩:∃ q:ByteArray,q=⟨(Lib.toUpperA p.data.toList).toArray⟩:=⟨_,rfl⟩
 have hqs:q.size≤65:=by rw[hq];show (Lib.toUpperA p.data.toList).toArray.size≤65;simpa using HS.out
 rw[← hq];have HB2:=zh (HB.out.trans (hb2.mono HB.out.size));clear hq hb2;go_wp2_with fail;go_loop [3] (fun v=>∃ s:ByteArray,v=.string s∧s.size≤65) (fun v=>100-aNe v)
 case atStart=>exact⟨q,rfl,hqs⟩
 case round =>
  obtain⟨s,rfl,hs⟩:=hrel;by_cases h4:s.size<4
  · have q1:decide ((s.size:Int)<4)=true:=decide_eq_true (by omega);go_wp2_with fail;have hz:=zY s;refine⟨⟨_,rfl,by rw[hz];omega⟩,?_⟩;show 100-(⟨#[48]⟩++s:ByteArray).size<100-s.size
    rw[hz];omega
  · have q1:decide ((s.size:Int)<4)=false:=decide_eq_false (by omega);go_wp2_with fail;go_ret;exact⟨s,rfl,hs,HB2.out⟩
theorem aRa (x:Int) (w:World) (hx:aF x) (hg:aAq w):Calls prog 93 #[.int .i64 x] w fun e w'=>∃ p:ByteArray,e=.returned (.string p)∧p.size≤65∧Below w.heap.size w w':=by
 have H:=zh (uS x w hx hg);clear hx hg;go_enter func93,ntmps93;go_wp2_with fail;refine H.out.mono ?_;rintro e w1 ⟨p,rfl,h1,h2,h3⟩;have HB:=zh h3;have HU:=zh (Tryz.strings_ToUpper_ascii p w1 (by omega) (fun j b hb=>h1 b (List.mem_of_getElem? hb)));have hsz:(Lib.toUpperA p.data.toList).length≤65:=by unfold Lib.toUpperA;rw[List.length_map];exact h2
 have HS:=zh hsz;clear h1 h2 h3 hsz;go_wp2_with fail;refine HU.out.mono ?_;rintro e w2 ⟨rfl,hb2⟩;obtain⟨q,hq⟩:∃ q:ByteArray,q=⟨(Lib.toUpperA p.data.toList).toArray⟩:=⟨_,rfl⟩
 have hqs:q.size≤65:=by rw[hq];show (Lib.toUpperA p.data.toList).toArray.size≤65;simpa using HS.out
 rw[← hq];have HB2:=zh (HB.out.trans (hb2.mono HB.out.size));clear hq hb2;go_wp2_with fail;go_loop [3] (fun v=>∃ s:ByteArray,v=.string s∧s.size≤65) (fun v=>100-aNe v)
 case atStart=>exact⟨q,rfl,hqs⟩
 case round =>
  obtain⟨s,rfl,hs⟩:=hrel;by_cases h4:s.size<4
  · have q1:decide ((s.size:Int)<4)=true:=decide_eq_true (by omega);go_wp2_with fail;have hz:=zY s;refine⟨⟨_,rfl,by rw[hz];omega⟩,?_⟩;show 100-(⟨#[48]⟩++s:ByteArray).size<100-s.size
    rw[hz];omega
  · have q1:decide ((s.size:Int)<4)=false:=decide_eq_false (by omega);go_wp2_with fail;go_ret;exact⟨s,rfl,hs,HB2.out⟩
theorem gP (c:Int) (w:World):Calls prog 192 #[.int .u8 c] w fun e w'=>e=.returned (.int .u8 (bits .or .u8 c 32))∧w'=w:=by
 go_enter func192,ntmps192;go_wp2
 go_ret;exact⟨rfl,rfl⟩
theorem aJy (base bs:Int) (w:World):Calls prog 160 #[.string ⟨#[]⟩,.int .i64 base,.int .i64 bs] w fun e w'=>e=.returned (.tuple #[.int .u64 0,.iface 275 (.int .i64 2)])∧w'=w:=by
 go_enter func160,ntmps160;go_wp2
 go_ret2
 exact⟨rfl,rfl⟩
theorem bKc (t:ByteArray) (hne:t.size≠0) (hmax:t.size≤9223372036854775806) (w:World) :
 Calls prog 160 #[.string t,.int .i64 16,.int .i64 16] w fun e w'=>nS 65535 t.data.toList e∧w'=Lib.bytesWorld w 5 t:=by
 have hemp:t.toList.isEmpty=false:=by
  rw[← decide_eq_emptyBytes];exact decide_eq_false (fun h=>hne (by rw[h];rfl))
 have hcv:=Lib.run_convert_string_bytes (P:=prog) w 9 99 5 t (u:=.string) underlying9 underlying99 underlying5;have hB:∀ j,j<t.size→(Lib.bytesWorld w 5 t).cell? ⟨w.heap.size,j,none⟩=some (.int .u8 (t.data.toList.getD j 0).toNat):=fun j hj=>Lib.bytesWorld_cell w 5 t j hj
 obtain⟨W1,hW1⟩:∃ W1,W1=Lib.bytesWorld w 5 t:=⟨_,rfl⟩
 rw[← hW1] at hcv hB ⊢;clear hW1;obtain⟨bs,hL⟩:∃ bs,bs=t.data.toList:=⟨_,rfl⟩
 have hLn:bs.length=t.size:=by rw[hL,Lib.size_eq]
 rw[← hL] at hB ⊢;clear hL;have hmv:IntKind.u64.wrap (IntKind.u64.wrap 65536-1)=65535:=by
  rw[IntKind.wrap_u64,IntKind.wrap_u64];decide
 go_enter func160,ntmps160;go_wp2_with fail;go_loop [12,13,101] (fun vu vn vi=>∃ (k:Nat) (a:Int),vu=.bool false∧vn=.int .u64 a∧vi=.int .i64 k∧k≤t.size∧Hid (0≤a∧a≤65535∧a=iL (bs.take k)))
  (fun _ _ vi=>t.size-(intOf vi).toNat)
 case atStart=>exact⟨0,0,rfl,rfl,rfl,Nat.zero_le _,zh ⟨by decide,by decide,rfl⟩⟩
 case round =>
  obtain⟨k,a,rfl,rfl,rfl,hk,hh⟩:=hrel;obtain⟨a0,a1,-⟩:=hh.out;by_cases hkn:k<t.size
  · have hc:=hB k hkn;have hget:bs.getD k 0=bs[k]'(by omega):=by simp[List.getD,List.getElem?_eq_getElem (show k<bs.length by omega)]
    have HV:=zh (show a*16+dgV (bs[k]'(by omega))=iL (bs.take (k+1)) by rw[aEv bs k (by omega),hh.out.2.2]);rw[hget] at hc;generalize bs[k]'(by omega)=c at hc HV;have hc256:c.toNat<256:=c.toNat_lt;clear hB hget;obtain⟨v,hv⟩:∃ v,bits .or .u8 (c.toNat:Int) 32=v:=⟨_,rfl⟩
    have hv0:0≤v:=hv▸bits_lo_u8 .or (c.toNat:Int) 32;have hv1:v≤255:=hv▸bits_hi_u8 .or (c.toNat:Int) 32;by_cases hdig:48≤c.toNat∧c.toNat≤57
    · obtain⟨hd0,hd1⟩:=hdig;have HD:=zh (show dgV c=(c.toNat:Int)-48 by unfold dgV;rw[if_pos ⟨hd0,hd1⟩]);obtain⟨n1,hn1⟩:∃ n1,a*16+((c.toNat:Int)-48)=n1:=⟨_,rfl⟩
      by_cases hov:65535<n1
      · clear hv hv0 hv1;go_wp2_with fail;go_ret2
        exact⟨.far,rfl⟩
      · have aNg:n1≤65535:=by omega
        have HN:=zh (show 0≤n1∧n1≤65535∧n1=iL (bs.take (k+1)) from⟨by omega,aNg,by rw[← HV.out,HD.out,hn1]⟩);clear hv hv0 hv1;go_wp2_with fail;refine⟨⟨k+1,n1,rfl,(by first | rfl | (congr 1;omega)),(by first | rfl | (congr 1;omega)),by omega,HN⟩,by simp[intOf];omega⟩
    · have HD:=zh (show dgV c=v-87 by unfold dgV;rw[if_neg hdig,hv]);by_cases h95:c.toNat=95
      · have hc2:(c.toNat:Int)=95:=by omega
        rw[hc2] at hv hc;clear HV HD hdig hc256 hv0 hv1 h95 hc2;obtain rfl:v=127:=by rw[← hv];decide
        go_wp2_with (go_at_call 192;refine(gP _ _).mono ?_;rintro e w' ⟨rfl,rfl⟩;rw[hv]);all_goals go_ret2
        all_goals exact⟨.bad,rfl⟩
      have q95:((c.toNat:Int)==95)=false:=by simp;omega
      by_cases h1:97≤v∧v≤122
      · obtain⟨h1,h2⟩:=h1;by_cases h3:v-87<16
        · obtain⟨n1,hn1⟩:∃ n1,a*16+(v-87)=n1:=⟨_,rfl⟩
          by_cases hov:65535<n1
          · go_wp2_with (go_at_call 192;refine(gP _ _).mono ?_;rintro e w' ⟨rfl,rfl⟩;rw[hv]);all_goals go_ret2
            all_goals exact⟨.far,rfl⟩
          · have aNg:n1≤65535:=by omega
            have HN:=zh (show 0≤n1∧n1≤65535∧n1=iL (bs.take (k+1)) from⟨by omega,aNg,by rw[← HV.out,HD.out,hn1]⟩);go_wp2_with (go_at_call 192;refine(gP _ _).mono ?_;rintro e w' ⟨rfl,rfl⟩;rw[hv]);all_goals refine⟨⟨k+1,n1,rfl,(by first | rfl | (congr 1;omega)),(by first | rfl | (congr 1;omega)),by omega,HN⟩,by simp[intOf];omega⟩
        · go_wp2_with (go_at_call 192;refine(gP _ _).mono ?_;rintro e w' ⟨rfl,rfl⟩;rw[hv]);all_goals go_ret2
          all_goals exact⟨.bad,rfl⟩
      · go_wp2_with (go_at_call 192;refine(gP _ _).mono ?_;rintro e w' ⟨rfl,rfl⟩;rw[hv]);all_goals go_ret2
        all_goals exact⟨.bad,rfl⟩
  · have hkk:k=t.size:=by omega
    subst hkk;have HE:=zh (show a=iL bs by rw[hh.out.2.2,List.take_of_length_le (by omega)]);clear hh;go_wp2_with fail;go_ret2
    exact⟨.ok a0 a1 HE.out,rfl⟩
theorem bKd (t:ByteArray) (hne:t.size≠0) (hmax:t.size≤9223372036854775806) (w:World) :
 Calls prog 160 #[.string t,.int .i64 16,.int .i64 32] w fun e w'=>nS 4294967295 t.data.toList e∧w'=Lib.bytesWorld w 5 t:=by
 have hemp:t.toList.isEmpty=false:=by
  rw[← decide_eq_emptyBytes];exact decide_eq_false (fun h=>hne (by rw[h];rfl))
 have hcv:=Lib.run_convert_string_bytes (P:=prog) w 9 99 5 t (u:=.string) underlying9 underlying99 underlying5;have hB:∀ j,j<t.size→(Lib.bytesWorld w 5 t).cell? ⟨w.heap.size,j,none⟩=some (.int .u8 (t.data.toList.getD j 0).toNat):=fun j hj=>Lib.bytesWorld_cell w 5 t j hj
 obtain⟨W1,hW1⟩:∃ W1,W1=Lib.bytesWorld w 5 t:=⟨_,rfl⟩
 rw[← hW1] at hcv hB ⊢;clear hW1;obtain⟨bs,hL⟩:∃ bs,bs=t.data.toList:=⟨_,rfl⟩
 have hLn:bs.length=t.size:=by rw[hL,Lib.size_eq]
 rw[← hL] at hB ⊢;clear hL;have hmv:IntKind.u64.wrap (IntKind.u64.wrap 4294967296-1)=4294967295:=by
  rw[IntKind.wrap_u64,IntKind.wrap_u64];decide
 go_enter func160,ntmps160;go_wp2_with fail;go_loop [12,13,101] (fun vu vn vi=>∃ (k:Nat) (a:Int),vu=.bool false∧vn=.int .u64 a∧vi=.int .i64 k∧k≤t.size∧Hid (0≤a∧a≤4294967295∧a=iL (bs.take k)))
  (fun _ _ vi=>t.size-(intOf vi).toNat)
 case atStart=>exact⟨0,0,rfl,rfl,rfl,Nat.zero_le _,zh ⟨by decide,by decide,rfl⟩⟩
 case round =>
  obtain⟨k,a,rfl,rfl,rfl,hk,hh⟩:=hrel;obtain⟨a0,a1,-⟩:=hh.out;by_cases hkn:k<t.size
  · have hc:=hB k hkn;have hget:bs.getD k 0=bs[k]'(by omega):=by simp[List.getD,List.getElem?_eq_getElem (show k<bs.length by omega)]
    have HV:=zh (show a*16+dgV (bs[k]'(by omega))=iL (bs.take (k+1)) by rw[aEv bs k (by omega),hh.out.2.2]);rw[hget] at hc;generalize bs[k]'(by omega)=c at hc HV;have hc256:c.toNat<256:=c.toNat_lt;clear hB hget;obtain⟨v,hv⟩:∃ v,bits .or .u8 (c.toNat:Int) 32=v:=⟨_,rfl⟩
    have hv0:0≤v:=hv▸bits_lo_u8 .or (c.toNat:Int) 32;have hv1:v≤255:=hv▸bits_hi_u8 .or (c.toNat:Int) 32;by_cases hdig:48≤c.toNat∧c.toNat≤57
    · obtain⟨hd0,hd1⟩:=hdig;have HD:=zh (show dgV c=(c.toNat:Int)-48 by unfold dgV;rw[if_pos ⟨hd0,hd1⟩]);obtain⟨n1,hn1⟩:∃ n1,a*16+((c.toNat:Int)-48)=n1:=⟨_,rfl⟩
      by_cases hov:4294967295<n1
      · clear hv hv0 hv1;go_wp2_with fail;go_ret2
        exact⟨.far,rfl⟩
      · have aNg:n1≤4294967295:=by omega
        have HN:=zh (show 0≤n1∧n1≤4294967295∧n1=iL (bs.take (k+1)) from⟨by omega,aNg,by rw[← HV.out,HD.out,hn1]⟩);clear hv hv0 hv1;go_wp2_with fail;refine⟨⟨k+1,n1,rfl,(by first | rfl | (congr 1;omega)),(by first | rfl | (congr 1;omega)),by omega,HN⟩,by simp[intOf];omega⟩
    · have HD:=zh (show dgV c=v-87 by unfold dgV;rw[if_neg hdig,hv]);by_cases h95:c.toNat=95
      · have hc2:(c.toNat:Int)=95:=by omega
        rw[hc2] at hv hc;clear HV HD hdig hc256 hv0 hv1 h95 hc2;obtain rfl:v=127:=by rw[← hv];decide
        go_wp2_with (go_at_call 192;refine(gP _ _).mono ?_;rintro e w' ⟨rfl,rfl⟩;rw[hv]);all_goals go_ret2
        all_goals exact⟨.bad,rfl⟩
      have q95:((c.toNat:Int)==95)=false:=by simp;omega
      by_cases h1:97≤v∧v≤122
      · obtain⟨h1,h2⟩:=h1;by_cases h3:v-87<16
        · obtain⟨n1,hn1⟩:∃ n1,a*16+(v-87)=n1:=⟨_,rfl⟩
          by_cases hov:4294967295<n1
          · go_wp2_with (go_at_call 192;refine(gP _ _).mono ?_;rintro e w' ⟨rfl,rfl⟩;rw[hv]);all_goals go_ret2
            all_goals exact⟨.far,rfl⟩
          · have aNg:n1≤4294967295:=by omega
            have HN:=zh (show 0≤n1∧n1≤4294967295∧n1=iL (bs.take (k+1)) from⟨by omega,aNg,by rw[← HV.out,HD.out,hn1]⟩);go_wp2_with (go_at_call 192;refine(gP _ _).mono ?_;rintro e w' ⟨rfl,rfl⟩;rw[hv]);all_goals refine⟨⟨k+1,n1,rfl,(by first | rfl | (congr 1;omega)),(by first | rfl | (congr 1;omega)),by omega,HN⟩,by simp[intOf];omega⟩
        · go_wp2_with (go_at_call 192;refine(gP _ _).mono ?_;rintro e w' ⟨rfl,rfl⟩;rw[hv]);all_goals go_ret2
          all_goals exact⟨.bad,rfl⟩
      · go_wp2_with (go_at_call 192;refine(gP _ _).mono ?_;rintro e w' ⟨rfl,rfl⟩;rw[hv]);all_goals go_ret2
        all_goals exact⟨.bad,rfl⟩
  · have hkk:k=t.size:=by omega
    subst hkk;have HE:=zh (show a=iL bs by rw[hh.out.2.2,List.take_of_length_le (by omega)]);clear hh;go_wp2_with fail;go_ret2
    exact⟨.ok a0 a1 HE.out,rfl⟩
