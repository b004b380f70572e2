import Derived.Test.YtcgnajeenflfaaaGreatDoorP46
set_option maxRecDepth 100000
set_option maxHeartbeats 4000000
set_option linter.all false
open Go.Proofs.Tryz Go.RowKit
namespace Go.Proofs.YtcgnajeenflfaaaGreatDoor
namespace Rk
open V
open Sc
open We (bT lF wN)
open D (Dm Wf)
open Ta (Tm)
theorem aVt {w:World} {base:Nat} {rv:Value} {ps:List (Pt×Value)} (h:w.ownsRow base 57 6 rv ps.length (flat ps)) (hk:∀ j (h:j<ps.length),PI w 0 w.heap.size ps[j].1.items ps[j].2∧Fit ps[j].1) :
 PI w 0 w.heap.size (ps.map Prod.fst) rv:=by
 rcases h.2 with ⟨rfl,hn⟩ | ⟨g,cap,cur,rfl,hg,hgg,hnc,rest⟩
 · obtain rfl:ps=[]:=List.eq_nil_of_length_eq_zero hn;exact .mk [] none 0 (fun _=>.slice none 0 0) lr (fun j h=>by cases h) (fun j h=>by cases h) (fun j h=>by cases h)
 · have hlen:(ps.map Prod.fst).length=ps.length:=List.length_map ..;have key:=PI.mk (w:=w) (lo:=0) (hi:=w.heap.size) (ps.map Prod.fst) (some ⟨g,0,none⟩) cap (fun j=>if h:j<ps.length then ps[j].2 else .slice none 0 0) (by rw[hlen];exact hnc)
    (fun j hj=>by
     rw[hlen] at hj;refine⟨g,0,rfl,Nat.zero_le _,(Array.getElem?_eq_some_iff.1 hgg).1,?_⟩;simp only [hj,dif_pos,List.getElem_map,Nat.zero_add];exact aCm h j hj)
    (fun j hj=>by
     rw[hlen] at hj;simp only [List.getElem_map];exact(hk j hj).2)
    (fun j hj=>by
     rw[hlen] at hj;simp only [hj,dif_pos,List.getElem_map];exact(hk j hj).1)
   rw[hlen] at key;exact key
theorem bMy {K:We.Co→ByteArray→List UInt8} {lim:Int} {F:List Sc.Fd} {p:Pt} {l:List UInt8} (h:encS K lim F p=some l):p.kind=7∧l.length≤65536:=by
 unfold encS at h;split at h
 · next h1 =>
   simp only [Bool.and_eq_true,decide_eq_true_eq,aEa,beq_iff_eq] at h1;obtain⟨⟨h2,h3,_⟩,h4⟩:=h1;injection h with h
   subst h;obtain⟨_,h5,_⟩:=lQ h2;exact⟨h3.1,by omega⟩
 · cases h
theorem chain {w a b:World} (h1:Below w.heap.size w a) (h2:Below a.heap.size a b):Below w.heap.size w b:=h1.trans (h2.mono h1.size)
structure Env (w:World) (sx ss st sp:Nat) (cx cs ct cp:Array Value):Prop where
 x:aC w sx 28 cx
 s:aC w ss 26 cs
 t:aC w st 26 ct
 p:aC w sp 57 cp
theorem Env.later {w w':World} {sx ss st sp:Nat} {cx cs ct cp:Array Value} (h:Env w sx ss st sp cx cs ct cp) (hb:Below w.heap.size w w'):Env w' sx ss st sp cx cs ct cp :=
 ⟨aC.below h.x hb h.x.lt,aC.below h.s hb h.s.lt,aC.below h.t hb h.t.lt,aC.below h.p hb h.p.lt⟩
theorem bAz {w:World} {p:Pt} {pv:Value} (hf:Fit p) (hp:PI w 0 w.heap.size p.items pv):PI (w.alloc (.cells #[.int .u8 p.kind,.bool p.yes,.bool p.neg,.string p.mag,.string p.raw,pv] 57)) 0
 (w.alloc (.cells #[.int .u8 p.kind,.bool p.yes,.bool p.neg,.string p.mag,.string p.raw,pv] 57)).heap.size [p] (.slice (some ⟨w.heap.size,0,none⟩) 1 1):=by
 have hb:=(Below.refl w.heap.size w).alloc lr (.cells #[.int .u8 p.kind,.bool p.yes,.bool p.neg,.string p.mag,.string p.raw,pv] 57);refine .mk [p] (some ⟨w.heap.size,0,none⟩) 1 (fun _=>pv) lr (fun j hj=>?_) (fun j hj=>?_) (fun j hj=>?_);all_goals obtain rfl:j=0:=by simpa using hj
 · exact⟨w.heap.size,0,rfl,Nat.zero_le _,by simp,by constructor<;>simp⟩
 · exact hf
 · exact hp.later hb
theorem topRekeys_gen (x y:ByteArray) (lim jA:Int) (F F2:List Sc.Fd) (a0 b0 l0:Option Addr) (k0 k2 l1:Nat) (L:List (Int×Pt)) (p:Pt) (pv:Value) (w:World)
 (Q1:∀ w',Below w.heap.size w w'→Calls prog 5 #[] w' fun e w''=>e=.returned (.bool true)∧Below w'.heap.size w' w'')
 (Q2:∀ (lim:Int) (F:List Sc.Fd) (a:Option Addr) (c:Nat) (w':World),F.length≤140737488351232→FI w' 0 w'.heap.size F (.slice a F.length c)→Calls prog 6 #[.agg #[.int .i64 lim,.slice a F.length c]] w' fun e w''=>(∃ x:Bool,e=.returned (.bool x))∧Below w'.heap.size w' w'')
 (Q3:∀ w',Below w.heap.size w w'→Calls prog 7 #[.agg #[.string x,.string y]] w' fun e w''=>(∃ (D:Dm) (T:Tm) (t:Addr),e=.returned (.pointer (some t))∧Wf D∧lF T∧Tb D T t w'')∧Below w'.heap.size w' w'')
 (Q4:∀ (v:Value) (w':World),PI w' 0 w'.heap.size p.items v→Calls prog 12 #[.agg #[.int .u8 p.kind,.bool p.yes,.bool p.neg,.string p.mag,.string p.raw,v]] w' fun e w''=>∃ u,e=.returned (.tuple #[u,.bool (bW p==0)])∧(bW p≠0→u=.nilIface)∧(bW p=0→VI w'' w'.heap.size w''.heap.size p u)∧Below w'.heap.size w' w'')
 (Q5:∀ (D:Dm) (_:Wf D) (T:Tm) (_:lF T) (t:Addr) (key:ByteArray) (w':World),Below w.heap.size w w'→Tb D T t w'→aL p=true→encS (bT D T) lim F p=some key.toList →
  Calls prog 8 #[.pointer (some t),.agg #[.int .i64 lim,.slice a0 F.length k0],.string key] w' fun e w''=>(∃ u,e=.returned (.tuple #[u,.nilIface])∧VI w'' w'.heap.size w''.heap.size p u)∧Below w'.heap.size w' w'')
 (hl:F.length≤140737488351232) (hl2:F2.length≤140737488351232) (hL:L.length≤140737488351232) (hf:Fit p) (he:w.cell? ⟨1,0,none⟩=some (.iface 197 (.agg #[.pointer (some ⟨11,36,none⟩)]))) (hn:xD w) (hfi:FI w 0 w.heap.size F (.slice a0 F.length k0))
 (aPu:FI w 0 w.heap.size F2 (.slice b0 F2.length k2)) (hs:nC w 0 w.heap.size L (.slice l0 L.length l1)) (hp:PI w 0 w.heap.size p.items pv) :
 Calls prog 4 #[.agg #[.string x,.string y,.int .i64 lim,.slice a0 F.length k0],.agg #[.int .i64 jA,.slice b0 F2.length k2,.slice l0 L.length l1],.agg #[.int .u8 p.kind,.bool p.yes,.bool p.neg,.string p.mag,.string p.raw,pv]] w
  fun e w'=>e=.returned (.bool true)∧Below w.heap.size w w':=by
 obtain⟨pa,pc,rfl,hpc,_⟩:=hp.open;obtain⟨m,hm1⟩:∃ m,F.length=m:=⟨_,rfl⟩
 obtain⟨n,hm2⟩:∃ n,F2.length=n:=⟨_,rfl⟩
 obtain⟨X,hm3⟩:∃ X,L.length=X:=⟨_,rfl⟩
 obtain⟨pn,hm4⟩:∃ pn,p.items.length=pn:=⟨_,rfl⟩
 obtain⟨A1,hA1⟩:∃ A1,w.alloc (.cells #[.string x,.string y,.int .i64 lim,.slice a0 m k0] 28)=A1:=⟨_,rfl⟩
 obtain⟨A2,hA2⟩:∃ A2,A1.alloc (.cells #[.int .i64 jA,.slice b0 n k2,.slice l0 X l1] 51)=A2:=⟨_,rfl⟩
 obtain⟨A3,hA3⟩:∃ A3,A2.alloc (.cells #[.int .u8 p.kind,.bool p.yes,.bool p.neg,.string p.mag,.string p.raw,.slice pa pn pc] 57)=A3:=⟨_,rfl⟩
 have b1:Below w.heap.size w A1:=by rw[← hA1];exact zr.alloc lr _
 have b2:Below A1.heap.size A1 A2:=by rw[← hA2];exact zr.alloc lr _
 have b3:Below A2.heap.size A2 A3:=by rw[← hA3];exact zr.alloc lr _
 have x1:aC A1 w.heap.size 28 #[.string x,.string y,.int .i64 lim,.slice a0 m k0]:=by rw[← hA1];exact aC.new _ _ _
 have x2:=aC.below x1 b2 x1.lt;have m2:aC A2 A1.heap.size 51 #[.int .i64 jA,.slice b0 n k2,.slice l0 X l1]:=by rw[← hA2];exact aC.new _ _ _
 have uD:=zh (aC.below x2 b3 x2.lt);have pK:=zh (aC.below m2 b3 m2.lt);have HP3:=zh (show aC A3 A2.heap.size 57 #[.int .u8 p.kind,.bool p.yes,.bool p.neg,.string p.mag,.string p.raw,.slice pa pn pc] by rw[← hA3];exact aC.new _ _ _);have HA3:=zh (chain (chain b1 b2) b3);have HPK:=zh (Q1 A3 HA3.out);have R2:=zh Q2;have R3:=zh Q3;have R4:=zh (Q4 (.slice pa p.items.length pc));have R5:=zh Q5;have HE:=zh he;have HN:=zh hn;have uK:=zh (fun w' (hb:Below w.heap.size w w')=>bA hfi hb);have bEi:=zh (fun w' (hb:Below w.heap.size w w')=>bA aPu hb);have HSR:=zh (fun w' (hb:Below w.heap.size w w')=>hs.later hb);have HPI:=zh (fun w' (hb:Below w.heap.size w w')=>hp.later hb);have HF:=zh hf;have HL:=zh hl;have HL2:=zh hl2;have HL3:=zh hL;have HM1:=zh hm1;have pY:=zh hm2;have HMX:=zh hm3;have rA:=zh hm4;rw[hm4] at R4;rw[hm1] at uK R5 ⊢;rw[hm2] at bEi ⊢;rw[hm3] at HSR hL ⊢;rw[hm4] at HPI ⊢;clear Q1 Q2 Q3 Q4 Q5 hfi aPu hs hp he hn hf hl hl2 hm1 hm2 hm3 hm4 b1 b2 b3 x1 x2 m2 hpc;go_enter func4,ntmps4;go_wp2_with fail;refine HPK.out.mono ?_;rintro e w1 ⟨rfl,hb1⟩;have hB1:=chain HA3.out hb1;have x1:=aC.below uD.out hb1 uD.out.lt;have y1:=aC.below pK.out hb1 pK.out.lt;have p1:=aC.below HP3.out hb1 HP3.out.lt;obtain⟨w2,hw2⟩:∃ w2,w1.alloc (.cells #[.int .i64 lim,.slice a0 m k0] 26)=w2:=⟨_,rfl⟩
 obtain⟨w3,hw3⟩:∃ w3,w2.alloc (.cells #[.int .i64 jA,.slice b0 n k2] 26)=w3:=⟨_,rfl⟩
 have b2:Below w1.heap.size w1 w2:=by rw[← hw2];exact zr.alloc lr _
 have b3:Below w2.heap.size w2 w3:=by rw[← hw3];exact zr.alloc lr _
 have y2:=aC.below y1 b2 y1.lt;have y3:=aC.below y2 b3 y2.lt;have s2:aC w2 w1.heap.size 26 #[.int .i64 lim,.slice a0 m k0]:=by rw[← hw2];exact aC.new _ _ _
 have HV3:=zh (show Env w3 w.heap.size w1.heap.size w2.heap.size A2.heap.size #[.string x,.string y,.int .i64 lim,.slice a0 m k0] #[.int .i64 lim,.slice a0 m k0] #[.int .i64 jA,.slice b0 n k2] #[.int .u8 p.kind,.bool p.yes,.bool p.neg,.string p.mag,.string p.raw,.slice pa pn pc] from
  ⟨aC.below (aC.below x1 b2 x1.lt) b3 (aC.below x1 b2 x1.lt).lt,aC.below s2 b3 s2.lt,by rw[← hw3];exact aC.new _ _ _,aC.below (aC.below p1 b2 p1.lt) b3 (aC.below p1 b2 p1.lt).lt⟩)
 have HB3:=zh (chain (chain hB1 b2) b3);have c2:w1.cell? ⟨w.heap.size,2,none⟩=some (.int .i64 lim):=by simpa using x1.cell 2
 have c3:w1.cell? ⟨w.heap.size,3,none⟩=some (.slice a0 m k0):=by simpa using x1.cell 3
 have e0:w2.cell? ⟨A1.heap.size,0,none⟩=some (.int .i64 jA):=by simpa using y2.cell 0
 have e1:w2.cell? ⟨A1.heap.size,1,none⟩=some (.slice b0 n k2):=by simpa using y2.cell 1
 have e2:w3.cell? ⟨A1.heap.size,2,none⟩=some (.slice l0 X l1):=by simpa using y3.cell 2
 clear hb1 hB1 x1 y1 p1 b2 b3 y2 y3 s2 uD pK HP3 HPK hA1 hA2 hA3;go_wp2_with fail;clear c2 c3 e0 e1 e2;go_loopw [11,12] (fun av iv wr=>∃ (i:Nat) (ps:List (Pt×Value)),i≤X∧i≤70∧iv=.int .i64 (i:Int)∧ps.length=i∧Hid (wr.ownsRow w3.heap.size 57 6 av i (flat ps)) ∧
  Hid (∀ j (h:j<ps.length),PI wr 0 w3.heap.size ps[j].1.items ps[j].2∧Fit ps[j].1)∧Hid (Below w3.heap.size w3 wr)) (fun _ iv _=>70-(intOf iv).toNat)
 case atStart=>exact⟨0,[],Nat.zero_le _,Nat.zero_le _,rfl,rfl,zh (World.ownsRow_nil _ _ _ _),zh (fun j h=>by cases h),zh zr⟩
 case round =>
  obtain⟨i,ps,hiX,bXe,rfl,hpl,HO,HK,HBr⟩:=hrel;obtain⟨ra,rc,rfl⟩:=aP HO.out;by_cases hgo:i<X∧i<70
  · have q1:decide ((i:Int)<(X:Int))=true:=decide_eq_true (by omega);have q2:decide ((i:Int)<70)=true:=decide_eq_true (by omega);have hlt:i<X:=hgo.1;have bVn:i<70:=hgo.2;have hiL:i<L.length:=by rw[HMX.out];exact hlt
    obtain⟨a',c',he,hc,hat⟩:=HSR.out w3 HB3.out;injection he with e1 e2 e3
    subst e1 e3;clear e2;obtain⟨b,off,uu,rfl,_,hbh,_,hpc,hfit,hpi⟩:=hat i hiL;obtain⟨q,hq⟩:∃ q,L[i].2=q:=⟨_,rfl⟩
    rw[hq] at hpc hfit hpi;obtain⟨a2,cap2,rfl,_,_⟩:=hpi.open;have hsm:Same 0 w3.heap.size w3 wr:=Same.of_below HBr.out lr;have aPv:=hpc.same hsm (Nat.zero_le _) hbh;have HPQ:=zh hpi;have HFT:=zh hfit;obtain⟨m2,hm2⟩:∃ m2,q.items.length=m2:=⟨_,rfl⟩
    have d1:wr.cell? ⟨b,off+i*7+1,none⟩=some (.int .u8 q.kind):=aPv.c0;have d2:wr.cell? ⟨b,off+i*7+2,none⟩=some (.bool q.yes):=aPv.c1;have d3:wr.cell? ⟨b,off+i*7+3,none⟩=some (.bool q.neg):=aPv.c2;have d4:wr.cell? ⟨b,off+i*7+4,none⟩=some (.string q.mag):=aPv.c3;have d5:wr.cell? ⟨b,off+i*7+5,none⟩=some (.string q.raw):=aPv.c4;have d6:wr.cell? ⟨b,off+i*7+6,none⟩=some (.slice a2 q.items.length cap2):=aPv.c5;have qs:(i:Int)≤(l1:Int):=by rw[HMX.out] at hc;omega
    have hz:w3.heap.size≤wr.heap.size:=HBr.out.size;rw[hm2] at d6 HPQ;clear hat hpc aPv hfit hpi hq hc hsm hm2 hgo hbh;obtain⟨i0,hi,hz0,hz1,hz2⟩:=info_parts infoP;go_wp2_with (at_builtin;refine wpList_append_lies _ rfl (.tmp 41) (.tmp 47) 55 rfl w3.heap.size 57 i0 _ 6 72 underlying55 hi hz0 hz1 hz2 rfl (by decide) (.slice ra i rc) i (flat ps) (by simp[Act.eval,Act.put]) (HO.out.alloc _) ⟨wr.heap.size,0,none⟩ 1 1 (cellsOf q (.slice a2 m2 cap2)).toList (by simp[Act.eval,Act.put]) rfl (aFp _ _ _ rfl) (by intro y hy;simp[cellsOf] at hy;rcases hy with rfl | rfl | rfl | rfl | rfl | rfl<;>rfl) (by decide) (by unfold maxLen;omega) (by omega) (by simp;omega) _ rfl ?_;intro g4 cap4 w4 hO4 hg4 hlies hgl);have hB4:=(HBr.out.alloc HBr.out.size (.cells #[.int .u8 q.kind,.bool q.yes,.bool q.neg,.string q.mag,.string q.raw,.slice a2 m2 cap2] 57)).grown hg4 (by simp;omega) (fun k hk=>(World.ownsRow.lt HO.out k hk).1);have bUw:=(((Below.refl w3.heap.size wr).alloc hz (.cells #[.int .u8 q.kind,.bool q.yes,.bool q.neg,.string q.mag,.string q.raw,.slice a2 m2 cap2] 57)).grown hg4 (by simp;omega) (fun k hk=>(World.ownsRow.lt HO.out k hk).1))
    exact⟨⟨i+1,ps++[(q,.slice a2 m2 cap2)],by omega,by omega,by simp,by simp[hpl],zh (by rw[aFo];exact hO4),zh (fun j hj=>by
     by_cases hjl:j<ps.length
     · rw[List.getElem_append_left hjl];exact⟨((HK.out j hjl).1).same (Same.of_below bUw lr),(HK.out j hjl).2⟩
     · have hje:j=ps.length:=by simp at hj;omega
       subst hje;rw[List.getElem_append_right lr];simp only [Nat.sub_self,List.getElem_cons_zero];exact⟨HPQ.out.same (Same.of_below hB4 lr),HFT.out⟩),zh hB4⟩,by simp[intOf];omega⟩
  · have mX:=zh (HB3.out.trans (HBr.out.mono HB3.out.size));have HEV:=zh (show Env wr w.heap.size w1.heap.size w2.heap.size A2.heap.size #[.string x,.string y,.int .i64 lim,.slice a0 m k0] #[.int .i64 lim,.slice a0 m k0] #[.int .i64 jA,.slice b0 n k2] #[.int .u8 p.kind,.bool p.yes,.bool p.neg,.string p.mag,.string p.raw,.slice pa pn pc] from HV3.out.later HBr.out);have bUx:=zh (aVt (by rw[hpl];exact HO.out) (fun j hj=>⟨((HK.out j hj).1).wide lr HBr.out.size,(HK.out j hj).2⟩));obtain⟨av,hav⟩:∃ av,av=Value.slice ra i rc:=⟨_,rfl⟩
    have HLN:=zh (show (ps.map Prod.fst).length≤140737488351232 by rw[List.length_map];omega);have HBR:=zh (R2.out lim F a0 k0 wr HL.out (by rw[HM1.out];exact uK.out wr mX.out));rw[HM1.out] at HBR;have f0:wr.cell? ⟨w1.heap.size,0,none⟩=some (.int .i64 lim):=by simpa using HEV.out.s.cell 0
    have f1:wr.cell? ⟨w1.heap.size,1,none⟩=some (.slice a0 m k0):=by simpa using HEV.out.s.cell 1
    by_cases hx:i<X
    all_goals
     first
      | (have hi:i=70:=by omega
         subst hi;have q1:decide (((70:Nat):Int)<(X:Int))=true:=decide_eq_true (by omega))
      | have q1:decide ((i:Int)<(X:Int))=false:=decide_eq_false (by omega)
     clear hgo hav HO HK hpl;go_wp2_with fail;refine HBR.out.mono ?_;rintro e w4 ⟨⟨br,rfl⟩,hb⟩;have dJ:=zh (chain mX.out hb);have HE4:=zh (HEV.out.later hb);have HA4:=zh (bUx.out.later hb);clear hb f0 f1;cases br with
     | true =>
      go_wp2_with fail;go_ret;exact⟨rfl,dJ.out⟩
     | false =>
     have HBT:=zh (R2.out jA F2 b0 k2 w4 HL2.out (by rw[pY.out];exact bEi.out w4 dJ.out));rw[pY.out] at HBT;have t0:w4.cell? ⟨w2.heap.size,0,none⟩=some (.int .i64 jA):=by simpa using HE4.out.t.cell 0
     have t1:w4.cell? ⟨w2.heap.size,1,none⟩=some (.slice b0 n k2):=by simpa using HE4.out.t.cell 1
     go_wp2_with fail;refine HBT.out.mono ?_;rintro e w5 ⟨⟨br,rfl⟩,hb⟩;have lJ:=zh (chain dJ.out hb);have HE5:=zh (HE4.out.later hb);have HA5:=zh (HA4.out.later hb);clear hb t0 t1 dJ HE4 HA4;cases br with
     | true =>
      go_wp2_with fail;go_ret;exact⟨rfl,lJ.out⟩
     | false =>
     have HVA:=zh (aKy (ps.map Prod.fst) _ w5 HLN.out HA5.out);go_wp2_with fail;refine HVA.out.mono ?_;rintro e w6 ⟨⟨bv,rfl⟩,hb⟩;have HB6:=zh (chain lJ.out hb);have HE6:=zh (HE5.out.later hb);clear hb lJ HE5 HA5 HVA HBT HBR;cases bv with
     | true =>
      go_wp2_with fail;go_ret;exact⟨rfl,HB6.out⟩
     | false =>
     have p0:w6.cell? ⟨A2.heap.size,0,none⟩=some (.int .u8 p.kind):=by simpa using HE6.out.p.cell 0
     have p1:w6.cell? ⟨A2.heap.size,1,none⟩=some (.bool p.yes):=by simpa using HE6.out.p.cell 1
     have p2:w6.cell? ⟨A2.heap.size,2,none⟩=some (.bool p.neg):=by simpa using HE6.out.p.cell 2
     have p3:w6.cell? ⟨A2.heap.size,3,none⟩=some (.string p.mag):=by simpa using HE6.out.p.cell 3
     have p4:w6.cell? ⟨A2.heap.size,4,none⟩=some (.string p.raw):=by simpa using HE6.out.p.cell 4
     have p5:w6.cell? ⟨A2.heap.size,5,none⟩=some (.slice pa pn pc):=by simpa using HE6.out.p.cell 5
     have HVP:=zh (aKy [p] _ _ (by simp) (bAz (w:=w6) (pv:=.slice pa pn pc) HF.out (HPI.out w6 HB6.out)));obtain⟨w7,hw7⟩:∃ w7,w6.alloc (.cells #[.int .u8 p.kind,.bool p.yes,.bool p.neg,.string p.mag,.string p.raw,.slice pa pn pc] 57)=w7:=⟨_,rfl⟩
     have hb7:Below w6.heap.size w6 w7:=by rw[← hw7];exact zr.alloc lr _
     rw[hw7] at HVP;have HB7:=zh (chain HB6.out hb7);have HE7:=zh (HE6.out.later hb7);clear hb7;go_wp2_with fail;refine HVP.out.mono ?_;rintro e w8 ⟨⟨bv,rfl⟩,hb⟩;have HB8:=zh (chain HB7.out hb);have HE8:=zh (HE7.out.later hb);clear hb hw7 p0 p1 p2 p3 p4 p5 HB6 HE6 HB7 HE7 HVP;cases bv with
     | true =>
      go_wp2_with fail;go_ret;exact⟨rfl,HB8.out⟩
     | false =>
     have p0:w8.cell? ⟨A2.heap.size,0,none⟩=some (.int .u8 p.kind):=by simpa using HE8.out.p.cell 0
     have p1:w8.cell? ⟨A2.heap.size,1,none⟩=some (.bool p.yes):=by simpa using HE8.out.p.cell 1
     have p2:w8.cell? ⟨A2.heap.size,2,none⟩=some (.bool p.neg):=by simpa using HE8.out.p.cell 2
     have p3:w8.cell? ⟨A2.heap.size,3,none⟩=some (.string p.mag):=by simpa using HE8.out.p.cell 3
     have p4:w8.cell? ⟨A2.heap.size,4,none⟩=some (.string p.raw):=by simpa using HE8.out.p.cell 4
     have p5:w8.cell? ⟨A2.heap.size,5,none⟩=some (.slice pa pn pc):=by simpa using HE8.out.p.cell 5
     have HMD:=zh (R4.out w8 (HPI.out w8 HB8.out));go_wp2_with fail;refine HMD.out.mono ?_;rintro e w9 ⟨u,rfl,h1,h2,hb⟩;have HB9:=zh (chain HB8.out hb);have HE9:=zh (HE8.out.later hb);clear hb p0 p1 p2 p3 p4 p5 HB8 HE8 HMD;by_cases hE:bW p=0
     case neg =>
      rw[show (bW p==0)=false from beq_eq_false_iff_ne.2 hE];clear h1 h2 hE;go_wp2_with fail;go_ret;exact⟨rfl,HB9.out⟩
     rw[show (bW p==0)=true by rw[hE];rfl];have aPr:=zh (pF hE).2;have HDP:=zh (sH hE);have HV9:=zh (show VI w9 0 w9.heap.size p u from(h2 hE).wide (Nat.zero_le _) lr);have x0:w9.cell? ⟨w.heap.size,0,none⟩=some (.string x):=by simpa using HE9.out.x.cell 0
     have x1:w9.cell? ⟨w.heap.size,1,none⟩=some (.string y):=by simpa using HE9.out.x.cell 1
     have HTB:=zh (R3.out w9 HB9.out);clear h1 h2 hE;go_wp2_with fail;refine HTB.out.mono ?_;rintro e w10 ⟨⟨D,T,t,rfl,wf,wt,htb⟩,hb⟩;have vR:=zh (chain HB9.out hb);have bEj:=zh (HE9.out.later hb);have bIf:=zh (HV9.out.later hb);have WF:=zh wf;have WT:=zh wt;have TB:=zh htb;have f0:w10.cell? ⟨w1.heap.size,0,none⟩=some (.int .i64 lim):=by simpa using bEj.out.s.cell 0
     have f1:w10.cell? ⟨w1.heap.size,1,none⟩=some (.slice a0 m k0):=by simpa using bEj.out.s.cell 1
     have HEC:=zh (kK wf wt t lim F p u a0 k0 w10 HL.out aPr.out htb bIf.out (by rw[HM1.out];exact uK.out w10 vR.out));rw[HM1.out] at HEC;clear hb x0 x1 wf wt htb HTB HB9 HE9 HV9;go_wp2_with fail;refine HEC.out.mono ?_;intro e w11 hE2;cases henc:encS (bT D T) lim F p with
     | none =>
      rw[henc] at hE2;obtain⟨⟨fb,rfl⟩,hb⟩:=hE2;have uN:=zh (chain vR.out hb);clear hb henc f0 f1;go_wp2_with fail;go_ret;exact⟨rfl,uN.out⟩
     | some l =>
     rw[henc] at hE2;obtain⟨rfl,hb⟩:=hE2;obtain⟨h7,_⟩:=bMy henc;obtain⟨key,hkey⟩:∃ key:ByteArray,(⟨l.toArray⟩:ByteArray)=key:=⟨_,rfl⟩
     have hkl:key.toList=l:=by rw[← hkey,Lib.toList_data]
     rw[hkey];have uN:=zh (chain vR.out hb);have aVu:=zh (bEj.out.later hb);have bMz:=zh (bIf.out.later hb);have bIg:=zh (bV TB.out hb);obtain⟨av,cv,Fv,rfl,_,_⟩:=vi7 bMz.out h7;have HKY:=zh (bEh WF.out WT.out t lim jA F F2 a0 b0 l0 k0 k2 l1 L key p w11 HL2.out HL3.out h7 aPr.out HDP.out
      (fun w' hb'=>by rw[HM1.out];exact R5.out D WF.out T WT.out t key w' (chain uN.out hb') (bV bIg.out hb') aPr.out (by rw[hkl];exact henc)) bIg.out (keeps uN.out HE.out) (HN.out.later uN.out)
      (by rw[pY.out];exact bEi.out w11 uN.out) (by rw[HMX.out];exact HSR.out w11 uN.out))
     rw[HM1.out,pY.out,HMX.out] at HKY;have HMP:=zh (fun w' (hb':Below w11.heap.size w11 w')=>aRo L l0 l1 p _ w' HL3.out h7 aPr.out HDP.out (bMz.out.later hb') (by rw[HMX.out];exact HSR.out w' (chain uN.out hb')) (HN.out.later (chain uN.out hb')) (keeps (chain uN.out hb') HE.out));rw[HMX.out] at HMP;have HMM:=zh (fun (q:Pt) (h:mapM L p=some q)=>aLt aPr.out HDP.out h7 h);have HEQ:=zh (fun (q:Pt) (v:Value) w' (hb':Below w11.heap.size w11 w') (hq:aL q=true) (hv:VI w' 0 w'.heap.size q v)=>kK WF.out WT.out t jA F2 q v b0 k2 w' HL2.out hq (bV bIg.out hb') hv (by rw[pY.out];exact bEi.out w' (chain uN.out hb')));rw[pY.out] at HEQ;have f2:w11.cell? ⟨w1.heap.size,0,none⟩=some (.int .i64 lim):=by simpa using aVu.out.s.cell 0
     have f3:w11.cell? ⟨w1.heap.size,1,none⟩=some (.slice a0 m k0):=by simpa using aVu.out.s.cell 1
     have f4:w11.cell? ⟨w2.heap.size,0,none⟩=some (.int .i64 jA):=by simpa using aVu.out.t.cell 0
     have f5:w11.cell? ⟨w2.heap.size,1,none⟩=some (.slice b0 n k2):=by simpa using aVu.out.t.cell 1
     clear hb hkey hkl henc h7 f0 f1 vR bEj bIf;go_wp2_with fail;refine HKY.out.mono ?_;intro e w12 hK;cases hM:mapM L p with
     | none =>
      rw[hM] at hK;obtain⟨⟨fb,rfl⟩,hb⟩:=hK;have zH:=zh (chain uN.out hb);have bBa:=zh (HMP.out w12 hb);clear hb f2 f3 f4 f5;go_wp2_with fail;refine bBa.out.mono ?_;intro e w13 hm;rw[hM] at hm;obtain⟨⟨fb2,rfl⟩,hb⟩:=hm;have aPw:=zh (chain zH.out hb);clear hb hM;go_wp2_with fail;go_ret;exact⟨rfl,aPw.out⟩
     | some q =>
     rw[hM,Option.bind_some] at hK;obtain⟨hqm,hq7⟩:=HMM.out q hM;cases hR:encS (bT D T) jA F2 q with
     | none =>
      rw[hR] at hK;obtain⟨⟨fb,rfl⟩,hb⟩:=hK;have zH:=zh hb;have bIh:=zh (aVu.out.later hb);have bBa:=zh (HMP.out w12 hb);clear hb f2 f3 f4 f5;go_wp2_with fail;refine bBa.out.mono ?_;intro e w13 hm;rw[hM] at hm;obtain⟨⟨v2,rfl,hv2⟩,hb⟩:=hm;have aPw:=zh (chain zH.out hb);have bBb:=zh (bIh.out.later hb);have HQ:=zh (HEQ.out q v2 w13 aPw.out hqm hv2);obtain⟨aq,cq,Fq,rfl,_,_⟩:=vi7 hv2 hq7;have g4:w13.cell? ⟨w2.heap.size,0,none⟩=some (.int .i64 jA):=by simpa using bBb.out.t.cell 0
      have g5:w13.cell? ⟨w2.heap.size,1,none⟩=some (.slice b0 n k2):=by simpa using bBb.out.t.cell 1
      clear hb hv2 hqm hq7 hM;go_wp2_with fail;refine HQ.out.mono ?_;intro e w14 hE3;rw[hR] at hE3;obtain⟨⟨fb3,rfl⟩,hb⟩:=hE3;have aPx:=zh (chain uN.out (chain aPw.out hb));clear hb hR g4 g5;go_wp2_with fail;go_region;go_wp2_with fail;go_ret;exact⟨rfl,aPx.out.drew⟩
     | some r =>
      rw[hR] at hK;obtain⟨rfl,hb⟩:=hK;have zH:=zh hb;have bIh:=zh (aVu.out.later hb);have bBa:=zh (HMP.out w12 hb);clear hb f2 f3 f4 f5;go_wp2_with fail;refine bBa.out.mono ?_;intro e w13 hm;rw[hM] at hm;obtain⟨⟨v2,rfl,hv2⟩,hb⟩:=hm;have aPw:=zh (chain zH.out hb);have bBb:=zh (bIh.out.later hb);have HQ:=zh (HEQ.out q v2 w13 aPw.out hqm hv2);obtain⟨aq,cq,Fq,rfl,_,_⟩:=vi7 hv2 hq7;have g4:w13.cell? ⟨w2.heap.size,0,none⟩=some (.int .i64 jA):=by simpa using bBb.out.t.cell 0
      have g5:w13.cell? ⟨w2.heap.size,1,none⟩=some (.slice b0 n k2):=by simpa using bBb.out.t.cell 1
      clear hb hv2 hqm hq7 hM;go_wp2_with fail;refine HQ.out.mono ?_;intro e w14 hE3;rw[hR] at hE3;obtain⟨rfl,hb⟩:=hE3;have aPx:=zh (chain uN.out (chain aPw.out hb));obtain⟨kb,hkb⟩:∃ kb:ByteArray,(⟨r.toArray⟩:ByteArray)=kb:=⟨_,rfl⟩
      rw[hkb];have hbq:(kb.toList==kb.toList)=true:=by simp
      clear hb hR g4 g5 hkb;go_wp2_with fail;go_region;go_wp2_with fail;go_ret;exact⟨rfl,aPx.out.drew⟩
