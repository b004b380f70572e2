import Derived.Test.YtcgnajeenflfaaaGreatDoorP46
set_option maxRecDepth 100000
set_option maxHeartbeats 4000000
set_option linter.all false
open Go.Proofs.Tryz Go.RowKit
namespace Go.Proofs.YtcgnajeenflfaaaGreatDoor
namespace Lo
open Go.Maps Go.ChangeMaps
open D (aF jW wH)
open Ta (El Tm ev eY aBm fD gX xI lZ bX kD oH TabAt bL gI bI kV nN aGs aY aEw aQu nine oI aFz)
open Sc (pJ bAk)
open We (lF)
def Qt (a:ByteArray) (T:Tm):Prop:=T=aGs a
abbrev aRu (a:ByteArray) (w:World):Ending→World→Prop:=pJ (bAk Qt) a w
theorem bBc {a:ByteArray} {w w':World} {v:Value} {c x:Int} (hc:c≠0) (ha:a.size≠0) (hb:Below w.heap.size w w'):aRu a w (.returned (.tuple #[v,.int .i64 c,.int .i64 x])) w' :=
 ⟨v,c,x,rfl,fun h=>absurd h hc,fun h=>absurd h ha,hb⟩
theorem bIi {w:World} {lo hi n c i:Nat} {a:Option Addr} {es:List El} (h:aV 4 w lo hi (.slice a n c) n (ev es)) (hn:es.length=n) (hi_:i<n):∃ (g off:Nat) (x:El),a=some ⟨g,off,none⟩∧es[i]?=some x∧n≤c ∧
 w.cell? ⟨g,off+i*4,none⟩=some (.bool x.v)∧w.cell? ⟨g,off+i*4+1,none⟩=some (.int .i64 x.p)∧w.cell? ⟨g,off+i*4+2,none⟩=some (.int .i64 x.s)∧w.cell? ⟨g,off+i*4+3,none⟩=some (.int .i64 x.t):=by
 obtain⟨hl,a',c',he,hc,_,hcells⟩:=h;injection he with e1 e2 e3
 subst e1 e3;have hx:i<es.length:=by omega
 obtain⟨g,off,rfl,_,_,h0⟩:=hcells (i*4) (by omega);have at_:∀ k (hk:k<4),w.cell? ⟨g,off+(i*4+k),none⟩=es[i].cells[k]?:=fun k hk=>by
  obtain⟨g',off',ha,_,_,h1⟩:=hcells (i*4+k) (by omega);injection ha with ha
  injection ha with h2 h3
  subst h2 h3;rw[h1,← Ta.bEu es i hx k hk];rw[List.getElem?_eq_getElem]
 refine⟨g,off,es[i],rfl,List.getElem?_eq_getElem hx,hc,?_,?_,?_,?_⟩
 · exact at_ 0 (by omega)
 · have:=at_ 1 (by omega);rw[← Nat.add_assoc] at this;exact this
 · have:=at_ 2 (by omega);rw[← Nat.add_assoc] at this;exact this
 · have:=at_ 3 (by omega);rw[← Nat.add_assoc] at this;exact this
theorem bBd {q:ByteArray} (h:0<q.size):Ta.blank q=((q[0].toNat:Int)==35):=by
 have e1:q.data.toList.getD 0 0=q[0]:=by
  rw[List.getD,List.getElem?_eq_getElem (show 0<q.data.toList.length by rw[← Lib.size_eq];exact h)];rfl
 have e0:(q.size==0)=false:=by rw[beq_eq_false_iff_ne];omega
 unfold Ta.blank;rw[e0,e1,Bool.false_or];by_cases hq:q[0]=35
 · rw[hq];rfl
 · rw[beq_eq_false_iff_ne.2 hq];symm;simp only [beq_eq_false_iff_ne,ne_eq];intro e;exact hq (UInt8.toNat_inj.1 (by show q[0].toNat=35;omega))
theorem bIj {x:Int} (h:aY x=true):aF x:=by
 simp only [aY,Bool.and_eq_true,decide_eq_true_eq] at h;unfold aF;omega
theorem aPy (a:ByteArray) (ha:65536<a.size) (w:World):Calls prog 38 #[.string a] w (aRu a w):=by
 have q1:decide ((65536:Int)<(a.size:Int))=true:=decide_eq_true (by omega);have HA:=zh ha;clear ha;go_enter func38,ntmps38;go_wp2_with fail;go_ret3
 exact bBc (by decide) (by have:=HA.out;omega) zr
theorem bIk (w:World) (b:Nat) (hb:w.heap.size=b) (W0:World) (hW:((w.alloc (.map #[] 0)).alloc (.map #[] 0)).alloc (.cells #[.map (some b),.map (some (b+1))] 169)=W0)
 (ST:Array Value) (w1:World) (hw1:Below W0.heap.size W0 w1) (hS:aC w1 (b+3) 9 ST):TLd b w1.heap.size (b+3) ST w eY 0 w1:=by
 have b0:bQ prog 179 bX (w.alloc (.map #[] 0)) b (fun _=>none) 0:=by rw[← hb];exact bQ.made ..
 have z1:(w.alloc (.map #[] 0)).heap.size=b+1:=by simp[hb]
 have b1:bQ prog 3 (Value.int .i64) ((w.alloc (.map #[] 0)).alloc (.map #[] 0)) (b+1) (fun _=>none) 0:=by rw[← z1];exact bQ.made ..
 have z2:((w.alloc (.map #[] 0)).alloc (.map #[] 0)).heap.size=b+2:=by simp[hb]
 have b2:aC W0 (b+2) 169 #[.map (some b),.map (some (b+1))]:=by rw[← hW,← z2];exact aC.new _ _ _
 have c0:bQ prog 179 bX W0 b (fun _=>none) 0:=by rw[← hW];exact(b0.keep (zr.alloc lr _)).keep (zr.alloc lr _)
 have c1:bQ prog 3 (Value.int .i64) W0 (b+1) (fun _=>none) 0:=by rw[← hW];exact b1.keep (zr.alloc lr _)
 have z3:W0.heap.size=b+3:=by rw[← hW];simp[hb]
 have l0:Below b w W0:=by rw[← hW,← hb];exact((zr.alloc lr _).alloc (by simp) _).alloc (by simp;omega) _
 exact {
  box:=aC.below b2 hw1 b2.lt
  ents:=⟨_,c0.keep hw1,fun _ _ _=>rfl,fun l es h=>by cases (show (none:Option (List El))=some es from h)⟩
  aFy:=⟨_,_,c1.keep hw1,Nat.le_refl _,fun _ _=>rfl,fun x u h=>by cases h⟩
  strs:=hS
  low:=l0.trans (hw1.mono (by omega))
  lo:=⟨by omega,hS.lt,Nat.le_refl _,hb.symm⟩ }
theorem aPz (a:ByteArray) (ha:a.size≤65536) (w:World) (hg:GLd w):Calls prog 38 #[.string a] w (aRu a w):=by
 have q1:decide ((65536:Int)<(a.size:Int))=false:=decide_eq_false (by omega);have hmk:∀ w:World,(Instr.makeMap 167 none).run prog w=.ok (.map (some w.heap.size)) (w.alloc (.map #[] 0)):=fun _=>rfl
 have bUy:∀ w:World,(Instr.makeMap 158 none).run prog w=.ok (.map (some w.heap.size)) (w.alloc (.map #[] 0)):=fun _=>rfl
 have HG:=zh hg;have HA:=zh ha;clear ha hg;go_enter func38,ntmps38;go_wp2_with fail;obtain⟨b,hb⟩:∃ b,w.heap.size=b:=⟨_,rfl⟩
 simp only [hb,Nat.add_assoc,Nat.reduceAdd];obtain⟨W0,hW⟩:∃ W0,((w.alloc (.map #[] 0)).alloc (.map #[] 0)).alloc (.cells #[.map (some b),.map (some (b+1))] 169)=W0:=⟨_,rfl⟩
 rw[hW];refine(pI 10 a (by have:=HA.out;omega) W0 (HG.out.later (by rw[← hW];exact((zr.alloc lr _).alloc (by simp) _).alloc (by simp;omega) _))).mono ?_;rintro e w1 ⟨rfl,hS,hb1⟩;have hz3:W0.heap.size=b+3:=by rw[← hW];simp[hb]
 rw[hz3] at hS ⊢;have hU:=bIk w b hb W0 hW _ w1 hb1 hS;obtain⟨base,hbase⟩:∃ base,w1.heap.size=base:=⟨_,rfl⟩
 rw[hbase] at hU;have HSm:=zh (bI 10 a);have HSl:=zh (gI 10 a);have HSz:=zh (show a.size=0→∀ q∈bL 10 a,q.size=0 from fun h q hq=>by have:=bI 10 a q hq;omega);have HTM:=zh (show aGs a=(bL 10 a).foldl Ta.stepT eY from rfl);obtain⟨ls,hls⟩:∃ ls,bL 10 a=ls:=⟨_,rfl⟩
 obtain⟨n,hn⟩:∃ n,ls.length=n:=⟨_,rfl⟩
 rw[hls] at HSm HSl HSz HTM hU hS ⊢;rw[hn] at HSl ⊢;have hnl:n≤65537:=by have:=HSl.out;have:=HA.out;omega
 have HN:=zh hn;have HU:=zh hU;have vX:=zh (show b=w.heap.size from hb.symm);clear hU hS hls hn hW hz3 hb1 hb;go_wp2_with fail;go_loopw [26] (fun iv wr=>∃ (j m:Nat) (T:Tm),iv=.int .i64 j∧j≤n∧m≤4096∧RowKit.Hid (TLd b base (b+3) (ls.map Value.string).toArray w T m wr)∧RowKit.Hid (lF T∧T=(ls.take j).foldl Ta.stepT eY)) (fun i _=>n-(intOf i).toNat)
 case atStart=>exact⟨0,0,eY,rfl,Nat.zero_le _,Nat.zero_le _,HU,zh ⟨aEw,rfl⟩⟩
 case round =>
  obtain⟨j,m,T,rfl,hj,hm,HM,HP⟩:=hrel;by_cases hlt:j<n
  case neg =>
   have hjn:n=j:=by omega
   subst hjn;have HQ:=zh (show T=aGs a by rw[HTM.out,HP.out.2,← HN.out,List.take_length]);go_wp2_with fail;go_ret3
   exact⟨_,0,0,rfl,fun _=>⟨T,HP.out.1,HQ.out,HM.out.tab hm⟩,fun _=>rfl,by rw[← vX.out];exact HM.out.low⟩
  obtain⟨q,hq⟩:∃ q,ls[j]?=some q:=⟨_,List.getElem?_eq_getElem (by rw[HN.out];exact hlt)⟩
  have HQm:=zh (List.mem_of_getElem? hq);have HTK:=zh (show (ls.take (j+1)).foldl Ta.stepT eY=Ta.stepT T q by rw[List.take_add_one,hq,Option.toList_some,List.foldl_append,← HP.out.2];rfl);have cq:wr.cell? ⟨b+3,j,none⟩=some (.string q):=(HM.out.strs.cell j).trans (by simp[hq]);clear hq;by_cases hq0:q.size=0
  · have hqe:q.toList.isEmpty=true:=by
     obtain⟨⟨l⟩⟩:=q;cases l with
     | nil=>rw[← decide_eq_emptyBytes];rfl
     | cons _ _=>simp[ByteArray.size] at hq0
    have xZ:=zh (show lF T∧T=(ls.take (j+1)).foldl Ta.stepT eY from⟨HP.out.1,by rw[HTK.out];unfold Ta.stepT;rw[if_pos];unfold Ta.blank;rw[hq0];rfl⟩);go_wp2_with fail;exact⟨⟨j+1,m,T,by simp,by omega,hm,HM,xZ⟩,by simp[intOf];omega⟩
  have hqe:q.toList.isEmpty=false:=by
   rw[← decide_eq_emptyBytes];exact decide_eq_false (fun e=>hq0 (by rw[e];rfl))
  have hqp:0<q.size:=by omega
  have HBL:=zh (show Ta.blank q=((q[0].toNat:Int)==35) from bBd hqp);by_cases aVv:((q[0].toNat:Int)==35)=true
  · have xZ:=zh (show lF T∧T=(ls.take (j+1)).foldl Ta.stepT eY from⟨HP.out.1,by rw[HTK.out];unfold Ta.stepT;rw[if_pos (HBL.out.trans aVv)]⟩);go_wp2_with fail;exact⟨⟨j+1,m,T,by simp,by omega,hm,HM,xZ⟩,by simp[intOf];omega⟩
  have bNa:((q[0].toNat:Int)==35)=false:=by simpa using aVv
  have bNb:=zh (show (ls.take (j+1)).foldl Ta.stepT eY=aBm T (kV q) (nN q) by rw[HTK.out];unfold Ta.stepT;rw[if_neg (by rw[HBL.out,bNa];simp)]);have HA0:=zh (show a.size≠0 from fun e=>hq0 (HSz.out e q HQm.out));have hqs:q.size≤65536:=by have:=HSm.out q HQm.out;have:=HA.out;omega
  have HEN:=zh (aVo q hqs wr (HG.out.later (by rw[vX.out] at *;exact HM.out.low)));clear aVv hq0;go_wp2_with fail;refine HEN.out.mono ?_;rintro e w2 ⟨⟨a1,a2,n1,c1,n2,c2,ok,rfl,hok⟩,hb2⟩;have pY:=zh (HM.out.keep hb2);have HOK:=zh hok;have hsw:=hb2.size;clear hok hb2 cq;cases ok with
  | false =>
   go_wp2_with fail;go_ret3
   exact bBc (by decide) HA0.out (by rw[← vX.out];exact(pY.out.keep (zr.alloc lr (.cells #[.slice a1 n1 c1,.slice a2 n2 c2] 172))).low)
  | true =>
  obtain⟨hpi,hp8,hp1,hpp,bIl,hre⟩:=HOK.out rfl;obtain⟨ps,hps⟩:∃ ps,kV q=ps:=⟨_,rfl⟩
  obtain⟨es,hes⟩:∃ es,nN q=es:=⟨_,rfl⟩
  rw[hps] at hpi hp8 hp1 hpp;rw[hes] at bIl hre;rw[hps,hes] at bNb;obtain rfl:n1=ps.length:=by obtain⟨_,_,h,_⟩:=hpi;injection h
  obtain rfl:n2=es.length:=by obtain⟨_,_,_,h,_⟩:=hre;injection h
  obtain⟨X,hX⟩:∃ X,w2.heap.size=X:=⟨_,rfl⟩
  obtain⟨W3,hW3⟩:∃ W3,w2.alloc (.cells #[.slice a1 ps.length c1,.slice a2 es.length c2] 172)=W3:=⟨_,rfl⟩
  have hb3:Below w2.heap.size w2 W3:=by rw[← hW3];exact zr.alloc lr _
  have hx3:aC W3 X 172 #[.slice a1 ps.length c1,.slice a2 es.length c2]:=by rw[← hW3,← hX];exact aC.new _ _ _
  have hr3:=(hre.later hb3).wide lr hb3.size;have hp3:=(hpi.later hb3).wide lr hb3.size;have pK:=zh (pY.out.keep hb3);have HSZ:=zh (show base≤wr.heap.size from HM.out.lo.2.2.1);obtain⟨ne,hne⟩:∃ ne,es.length=ne:=⟨_,rfl⟩
  obtain⟨np,hnp⟩:∃ np,ps.length=np:=⟨_,rfl⟩
  rw[hne,hnp] at hx3;rw[hne] at hr3;rw[hnp] at hp3;have uD:=zh hx3;have HR3:=zh hr3;have HP3:=zh hp3;have HNE:=zh hne;have HNP:=zh hnp;have HPS:=zh (And.intro hp8 (And.intro hp1 (And.intro hpp bIl)));have bIm:=hW3;rw[hne,hnp] at bIm;have HW3:=zh (And.intro hX bIm);have x1:W3.cell? ⟨X,1,none⟩=some (.slice a2 ne c2):=by simpa using hx3.cell 1
  have hne16:ne≤16:=by omega
  rw[hne,hnp];clear hre hpi hb3 hx3 hr3 hp3 hp8 hp1 hpp bIl hW3 bIm hX hps hes hne hnp;go_wp2_with fail;simp only [HW3.out.1,HW3.out.2];go_loopw [50] (fun iv wr3=>∃ (i:Nat),iv=.int .i64 i∧i≤ne∧RowKit.Hid (Below W3.heap.size W3 wr3)∧RowKit.Hid (∀ x∈es.take i,x.fits)) (fun i _=>ne-(intOf i).toNat)
  case atStart=>exact⟨0,rfl,Nat.zero_le _,zh zr,zh (fun x h=>by cases h)⟩
  case round =>
   obtain⟨i,rfl,hi,HB3,HF⟩:=hrel;have rA:=zh (pK.out.keep HB3.out);by_cases hlt:i<ne
   · obtain⟨g,off,x,rfl,hxi,hcap,k0,k1,k2,k3⟩:=bIi (HR3.out.later HB3.out) HNE.out hlt;have HXI:=zh hxi;have dJ:=zh (HB3.out.alloc HB3.out.size (.cells #[.bool x.v,.int .i64 x.p,.int .i64 x.s,.int .i64 x.t] 176));have HRT:=zh (aFz x (wr.alloc (.cells #[.bool x.v,.int .i64 x.p,.int .i64 x.s,.int .i64 x.t] 176)));clear hxi;go_wp2_with fail;refine HRT.out.mono ?_;rintro e w5 ⟨⟨bo,rfl,hbo⟩,hb5⟩;have lJ:=zh (dJ.out.trans (hb5.mono dJ.out.size));have HBO:=zh hbo;clear hb5 hbo;cases bo with
     | false =>
      go_wp2_with fail;go_ret3
      exact bBc (by decide) HA0.out (by rw[← vX.out];exact(pK.out.keep lJ.out).low)
     | true =>
      have pV:=zh (show ∀ y∈es.take (i+1),y.fits from fun y hy=>by
       rw[List.take_add_one,HXI.out,Option.toList_some] at hy;rcases List.mem_append.1 hy with hy | hy
       · exact HF.out y hy
       · rw[List.mem_singleton.1 hy];exact HBO.out rfl)
      go_wp2_with fail;exact⟨⟨i+1,by simp,by omega,lJ,pV⟩,by simp[intOf];omega⟩
   · have bNc:i=ne:=by omega
     have HFA:=zh (show ∀ x∈es,x.fits from fun x hx=>HF.out x (by rw[bNc,← HNE.out,List.take_length];exact hx));have uE:=zh (aC.below uD.out HB3.out uD.out.lt);have xp0:wr.cell? ⟨X,0,none⟩=some (.slice a1 np c1):=by simpa using uE.out.cell 0
     have hp4:=(HP3.out.later HB3.out).wide (Nat.zero_le _) HB3.out.size;have HRO:=zh (oI (.slice a1 np c1) ps wr 0 wr.heap.size hp4 lr);have HP4:=zh hp4;clear hp4 bNc hi;go_wp2_with fail;refine HRO.out.mono ?_;rintro e w5 ⟨rfl,hb5⟩;have hd8:decide (ps.length≤8)=true:=decide_eq_true HPS.out.1;obtain⟨x0,x1',x2,x3,x4,x5,x6,x7,x8,hrow⟩:=nine (gX ps);have e1:bX (fD ps)=.agg #[.int .i64 x0,.int .i64 x1',.int .i64 x2,.int .i64 x3,.int .i64 x4,.int .i64 x5,.int .i64 x6,.int .i64 x7,.int .i64 x8]:=by rw[hrow];rfl
     rw[e1,hd8];have HE:=zh e1;obtain⟨Y,hY⟩:∃ Y,w5.heap.size=Y:=⟨_,rfl⟩
     obtain⟨W6,hW6⟩:∃ W6,w5.alloc (.cells #[.int .i64 x0,.int .i64 x1',.int .i64 x2,.int .i64 x3,.int .i64 x4,.int .i64 x5,.int .i64 x6,.int .i64 x7,.int .i64 x8] 179)=W6:=⟨_,rfl⟩
     have hb6:Below W3.heap.size W3 W6:=by rw[← hW6];exact(HB3.out.trans (hb5.mono HB3.out.size)).alloc (Nat.le_trans HB3.out.size hb5.size) _
     have hy6:aC W6 Y 179 #[.int .i64 x0,.int .i64 x1',.int .i64 x2,.int .i64 x3,.int .i64 x4,.int .i64 x5,.int .i64 x6,.int .i64 x7,.int .i64 x8]:=by rw[← hW6,← hY];exact aC.new _ _ _
     have HB6:=zh hb6;have HY6:=zh hy6;have HM6:=zh (pK.out.keep hb6);have HX6:=zh (aC.below uD.out hb6 uD.out.lt);have HW6:=zh (And.intro hY hW6);have uK:=zh (fun x (hx:x∈ps)=>bIj (HPS.out.2.2.1 x hx));have HLK:=zh (HM6.out.look HPS.out.1 uK.out);have cb:W6.cell? ⟨b+2,0,none⟩=some (.map (some b)):=by simpa using HM6.out.box.cell 0
     have k0:W6.cell? ⟨Y,0,none⟩=some (.int .i64 x0):=by simpa using hy6.cell 0
     have k1:W6.cell? ⟨Y,1,none⟩=some (.int .i64 x1'):=by simpa using hy6.cell 1
     have k2:W6.cell? ⟨Y,2,none⟩=some (.int .i64 x2):=by simpa using hy6.cell 2
     have k3:W6.cell? ⟨Y,3,none⟩=some (.int .i64 x3):=by simpa using hy6.cell 3
     have k4:W6.cell? ⟨Y,4,none⟩=some (.int .i64 x4):=by simpa using hy6.cell 4
     have k5:W6.cell? ⟨Y,5,none⟩=some (.int .i64 x5):=by simpa using hy6.cell 5
     have k6:W6.cell? ⟨Y,6,none⟩=some (.int .i64 x6):=by simpa using hy6.cell 6
     have k7:W6.cell? ⟨Y,7,none⟩=some (.int .i64 x7):=by simpa using hy6.cell 7
     have k8:W6.cell? ⟨Y,8,none⟩=some (.int .i64 x8):=by simpa using hy6.cell 8
     clear hb5 hrow e1 hd8 hb6 hy6 hY hW6 xp0 hlt;go_wp2_with fail;simp only [HW6.out.1,HW6.out.2];by_cases hT:T.ent ps=none
     case neg =>
      obtain⟨a9,n9,c9,hlk⟩:=HLK.out.2 hT;rw[HE.out] at hlk;have lk:=fun n=>hlk (W6.drewN n) rfl
      clear hlk hT;go_quiet (fail);go_wp2_with fail;go_ret3
      exact bBc (by decide) HA0.out (by rw[← vX.out];exact Ta.below_drewN HM6.out.low nq)
     have hlk:=HLK.out.1 hT;rw[HE.out] at hlk;have lk:=fun n=>hlk (W6.drewN n) rfl
     have HT:=zh hT;clear hlk hT;go_quiet (fail);obtain⟨W7,hW7⟩:∃ W7,W6.drewN nq=W7:=⟨_,rfl⟩
     have hb7:Below W6.heap.size W6 W7:=by rw[← hW7];exact Ta.below_drewN zr nq
     have HB7:=zh (HB6.out.trans (hb7.mono HB6.out.size));have HM7:=zh (HM6.out.keep hb7);have HY7:=zh (aC.below HY6.out hb7 HY6.out.lt);have HX7:=zh (aC.below HX6.out hb7 HX6.out.lt);rw[hW7];have hlen:=fun ty=>HM7.out.len_ ty
     have cb7:W7.cell? ⟨b+2,0,none⟩=some (.map (some b)):=by simpa using HM7.out.box.cell 0
     have xc1:W7.cell? ⟨X,1,none⟩=some (.slice a2 ne c2):=by simpa using HX7.out.cell 1
     clear lk cb k0 k1 k2 k3 k4 k5 k6 k7 k8 hW7 hb7;have k0:W7.cell? ⟨Y,0,none⟩=some (.int .i64 x0):=by simpa using HY7.out.cell 0
     have k1:W7.cell? ⟨Y,1,none⟩=some (.int .i64 x1'):=by simpa using HY7.out.cell 1
     have k2:W7.cell? ⟨Y,2,none⟩=some (.int .i64 x2):=by simpa using HY7.out.cell 2
     have k3:W7.cell? ⟨Y,3,none⟩=some (.int .i64 x3):=by simpa using HY7.out.cell 3
     have k4:W7.cell? ⟨Y,4,none⟩=some (.int .i64 x4):=by simpa using HY7.out.cell 4
     have k5:W7.cell? ⟨Y,5,none⟩=some (.int .i64 x5):=by simpa using HY7.out.cell 5
     have k6:W7.cell? ⟨Y,6,none⟩=some (.int .i64 x6):=by simpa using HY7.out.cell 6
     have k7:W7.cell? ⟨Y,7,none⟩=some (.int .i64 x7):=by simpa using HY7.out.cell 7
     have k8:W7.cell? ⟨Y,8,none⟩=some (.int .i64 x8):=by simpa using HY7.out.cell 8
     by_cases hfull:m=4096
     · have e1:((m:Int)==4096)=true:=by simp;omega
       clear hfull;go_wp2_with fail;go_ret3
       exact bBc (by decide) HA0.out (by rw[← vX.out];exact HM7.out.low)
     have e1:((m:Int)==4096)=false:=by simp;omega
     have HMF:=zh (show m<4096 by omega);clear hfull;obtain⟨_,_,he0,hnc,hcells⟩:=YtcgnajeenflfaaaGreatDoor.D.IntsIn.get HP3.out;injection he0 with he1 he2 he3
     subst he1 he3;obtain⟨g0,aQa,rfl,hg0,hg1,hc0⟩:=hcells 0 (by have:=HPS.out.2.1;omega);obtain⟨x,hx⟩:∃ x,ps[0]'(by have:=HPS.out.2.1;omega)=x:=⟨_,rfl⟩
     rw[hx] at hc0;have hx0:ps.getD 0 0=x:=by rw[List.getD,List.getElem?_eq_getElem (by have:=HPS.out.2.1;omega),hx];rfl
     have hxi:aF x:=uK.out x (hx▸List.getElem_mem _);have hz7:=HB7.out.size;have hz3:=HR3.out;have hs7:aV 4 W7.drew base W7.drew.heap.size (.slice a2 ne c2) es.length (ev es):=by rw[HNE.out];exact(HR3.out.later (HB7.out.drew)).wide HSZ.out hz7
     obtain⟨w8,hst,⟨o8,ho8⟩,hnx⟩:=(HM7.out.keep (Below.refl W7.heap.size W7).drew).ent HMF.out HPS.out.1 uK.out HPS.out.2.2.2 HT.out hs7 x hxi hx0;rw[HE.out] at hst;have hk8:∀ {p:Addr} {v:Value},p.block≠b→W7.cell? p=some v→w8.cell? p=some v:=fun {p v} hp hv=>by
      rw[ho8];exact(World.cell?_of_block (aQ (w:=W7.drew) o8 hp)).trans hv
     have hlo:=HM7.out.lo;have hbX:X≠b:=by have h1:=uD.out.lt;have h2:=HW3.out.1;have h3:=pY.out.lo;omega
     have cb8:w8.cell? ⟨b+2,1,none⟩=some (.map (some (b+1))):=hk8 (by show b+2≠b;omega) (by simpa using HM7.out.box.cell 1);have xa8:w8.cell? ⟨X,0,none⟩=some (.slice (some ⟨g0,aQa,none⟩) np c1):=hk8 hbX (by simpa using HX7.out.cell 0);have xp8:w8.cell? ⟨g0,aQa,none⟩=some (.int .i64 x):=hk8 (by show g0≠b;have:=HSZ.out;omega) ((HB7.out.cell (p:=⟨g0,aQa,none⟩) hg1).trans hc0);obtain⟨hl8,hmu⟩:=hnx w8.drew zr.drew;obtain⟨mx,hmx⟩:∃ mx,max (T.long x) (np:Int)=mx:=⟨_,rfl⟩
     obtain⟨w9,bXf,⟨o9,ho9⟩,hm9⟩:=hmu mx (by rw[HNP.out,hmx]);have xM:∀ {p:Addr} {v:Value},p.block≠b+1→w8.cell? p=some v→w9.cell? p=some v:=fun {p v} hp hv=>by
      rw[ho9];exact(World.cell?_of_block (aQ (w:=w8.drew) o9 hp)).trans hv
     have cb9:w9.cell? ⟨b+2,1,none⟩=some (.map (some (b+1))):=xM (by show b+2≠b+1;omega) cb8;have xa9:w9.cell? ⟨X,0,none⟩=some (.slice (some ⟨g0,aQa,none⟩) np c1):=xM (by show X≠b+1;have h1:=uD.out.lt;have h2:=HW3.out.1;have h3:=pY.out.lo;omega) xa8;have xp9:w9.cell? ⟨g0,aQa,none⟩=some (.int .i64 x):=xM (by show g0≠b+1;have:=HSZ.out;omega) xp8;have HM9:=zh hm9;have HP9:=zh (show lF (aBm T ps es)∧aBm T ps es=(ls.take (j+1)).foldl Ta.stepT eY from⟨aQu HP.out.1 (fun e=>by have:=HPS.out.2.1;rw[e] at this;cases this) HPS.out.1 HPS.out.2.2.2 (fun y hy=>HFA.out y hy),bNb.out.symm⟩);have bXg:0<np:=by have:=HPS.out.2.1;have:=HNP.out;omega
     have hmf:=HMF.out;clear xM ho9 hk8 hnx hm9 hmu hs7 hz3 ho8 hx hx0 hcells hlo he2 hnc;go_wp2_with fail;apply uF;case h =>
      go_region;all_goals exact⟨rfl,rfl,rfl⟩
     go_wp2_with fail;clear k0 k1 k2 k3 k4 k5 k6 k7 k8 cb7 xc1 hlen;apply uF;case h =>
      go_region_held3 (fun w'=>w'.cell? ⟨b+2,1,none⟩=some (.map (some (b+1)))∧w'.cell? ⟨X,0,none⟩=some (.slice (some ⟨g0,aQa,none⟩) np c1)∧w'.cell? ⟨g0,aQa,none⟩=some (.int .i64 x)) (go_keep) (fail)
      all_goals exact⟨rfl,rfl,rfl⟩
     go_wp2_with fail;exact⟨⟨j+1,m+1,aBm T ps es,by simp,by omega,by omega,HM9,HP9⟩,by simp[intOf];omega⟩
theorem aGa (a:ByteArray) (w:World) (hg:GLd w):Calls prog 38 #[.string a] w (aRu a w):=by
 by_cases h:65536<a.size
 · exact aPy a h w
 · exact aPz a (by omega) w hg
