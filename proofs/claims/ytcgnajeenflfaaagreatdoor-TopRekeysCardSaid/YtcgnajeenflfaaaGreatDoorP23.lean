import Derived.Test.YtcgnajeenflfaaaGreatDoorP16
import Derived.Test.YtcgnajeenflfaaaGreatDoorP21
set_option maxRecDepth 100000
set_option maxHeartbeats 4000000
set_option linter.all false
open Go.Proofs.Tryz Go.RowKit
namespace Go.Proofs.YtcgnajeenflfaaaGreatDoor
namespace V
theorem bKq (p:Pt) (v:Value) (w:World) (hf:Fit p) (hp:PI w 0 w.heap.size p.items v) (hk:p.kind=7)
 (ih:∀ q∈p.items,∀ (v:Value) (w:World),Fit q→PI w 0 w.heap.size q.items v→Calls prog 55 #[.agg #[.int .u8 q.kind,.bool q.yes,.bool q.neg,.string q.mag,.string q.raw,v]] w fun e w'=>e=.returned (.bool (aL q))∧Below w.heap.size w w') :
 Calls prog 55 #[.agg #[.int .u8 p.kind,.bool p.yes,.bool p.neg,.string p.mag,.string p.raw,v]] w fun e w'=>e=.returned (.bool (aL p))∧Below w.heap.size w w':=by
 obtain⟨a,cap,rfl,_,hat⟩:=hp.open;have HA:=zh hat;have IH:=zh ih;clear hp hat ih;have hm:=hf.m;have hr:=hf.r;have hl:=hf.l;obtain⟨y,hy⟩:∃ y,p.yes=y:=⟨_,rfl⟩
 obtain⟨z,hz⟩:∃ z,(!p.neg&&p.mag.toList.isEmpty)=z:=⟨_,rfl⟩
 obtain⟨t,ht⟩:∃ t,p.items.isEmpty=t:=⟨_,rfl⟩
 have hM:=jT hy hz ht (p.raw.toList.isEmpty&&decide (p.items.length≤1024)) (by simp[hk]);have h24:=kN p.neg false p.mag ⟨#[]⟩ z (by rw[← hz];cases p.neg<;>simp);have aKe:=lV p.neg false p.mag ⟨#[]⟩ z (by rw[← hz];cases p.neg<;>simp);have e0:((p.kind:Int)==0)=false:=beq_eq_false_iff_ne.2 (by omega);have n0:((p.kind:Int) != 0)=true:=by rw[bne,e0];rfl
 have e1:((p.kind:Int)==1)=false:=beq_eq_false_iff_ne.2 (by omega);have n1:((p.kind:Int) != 1)=true:=by rw[bne,e1];rfl
 have e2:((p.kind:Int)==2)=false:=beq_eq_false_iff_ne.2 (by omega);have n2:((p.kind:Int) != 2)=true:=by rw[bne,e2];rfl
 have e3:((p.kind:Int)==3)=false:=beq_eq_false_iff_ne.2 (by omega);have n3:((p.kind:Int) != 3)=true:=by rw[bne,e3];rfl
 have e4:((p.kind:Int)==4)=false:=beq_eq_false_iff_ne.2 (by omega);have n4:((p.kind:Int) != 4)=true:=by rw[bne,e4];rfl
 have e5:((p.kind:Int)==5)=false:=beq_eq_false_iff_ne.2 (by omega);have n5:((p.kind:Int) != 5)=true:=by rw[bne,e5];rfl
 have e6:((p.kind:Int)==6)=false:=beq_eq_false_iff_ne.2 (by omega);have n6:((p.kind:Int) != 6)=true:=by rw[bne,e6];rfl
 have e7:((p.kind:Int)==7)=true:=beq_iff_eq.2 (by omega);have n7:((p.kind:Int) != 7)=false:=by rw[bne,e7];rfl
 have HM:=zh (show aL p=(!y&&z&&(p.raw.toList.isEmpty&&decide (p.items.length≤1024))&&p.items.all aL) by rw[hM];simp[hk]);clear hM hz ht hk;cases y with
 | true =>
  go_enter func55,ntmps55;go_wp2_with fail;go_ret;exact⟨by rw[HM.out];rfl,zr.alloc lr _⟩
 | false =>
 rw[hy];clear hy;cases z with
 | false =>
  go_enter func55,ntmps55;go_wp2_with fail;go_ret;exact⟨by rw[HM.out];rfl,zr.alloc lr _⟩
 | true =>
 obtain⟨x,hx⟩:∃ x,p.raw.toList.isEmpty=x:=⟨_,rfl⟩
 rw[hx] at HM;cases x with
 | false =>
  go_enter func55,ntmps55;go_wp2_with fail;go_ret;exact⟨by rw[HM.out];rfl,zr.alloc lr _⟩
 | true =>
 have hlen:p.raw.size=0:=by rw[← aD,List.isEmpty_iff.1 hx];rfl
 have bGp:decide (65536<(p.raw.size:Int))=false:=by simp;omega
 clear hlen;by_cases hbig:1024<p.items.length
 · have hlx:decide (1024<(p.items.length:Int))=true:=by simp;omega
   have pY:=zh (show aL p=false by rw[HM.out];simp;omega);go_enter func55,ntmps55;go_wp2_with fail;go_ret;exact⟨by rw[pY.out];rfl,zr.alloc lr _⟩
 · have hlx:decide (1024<(p.items.length:Int))=false:=by simp;omega
   have pY:=zh (show aL p=(p.items.drop 0).all aL by rw[HM.out,show decide (p.items.length≤1024)=true from decide_eq_true (by omega)];simp);clear HM;go_enter func55,ntmps55;go_wp2_with fail;go_loopw [91] (fun i wr=>∃ k:Nat,k≤p.items.length∧i=.int .i64 k∧RowKit.Hid (aL p=(p.items.drop k).all aL)∧Below w.heap.size w wr∧w.heap.size<wr.heap.size∧wr.cell? ⟨w.heap.size,5,none⟩=some (.slice a p.items.length cap)) (fun i _=>p.items.length-(intOf i).toNat)
   case atStart=>exact⟨0,Nat.zero_le _,rfl,pY,zr.alloc lr _,by simp,by simp⟩
   case round =>
    obtain⟨k,hkl,rfl,HK,hB,hsz,f5⟩:=hrel;by_cases hlt:k<p.items.length
    · have q3:decide (k<p.items.length)=true:=by simpa using hlt
      obtain⟨b,off,u,rfl,_,hb,hc,hfit,hpi⟩:=HA.out k hlt;obtain⟨d0,d1,d2,d3,d4,d5⟩:=hc.same (Same.of_below hB lr) (Nat.zero_le _) hb;have HE:=zh (aYd (f:=aL) hlt);have hmem:p.items[k]∈p.items:=List.getElem_mem _;obtain⟨q,hq⟩:∃ q,p.items[k]=q:=⟨_,rfl⟩
      rw[hq] at d0 d1 d2 d3 d4 hfit hpi HE hmem;obtain⟨a2,cap2,rfl,_,_⟩:=hpi.open;have hpi2:=zh hpi;clear hc hq hpi;go_wp2_with fail;have hpw:PI (wr.alloc (.cells #[.int .u8 q.kind,.bool q.yes,.bool q.neg,.string q.mag,.string q.raw,.slice a2 q.items.length cap2] 57)) 0 (wr.alloc (.cells #[.int .u8 q.kind,.bool q.yes,.bool q.neg,.string q.mag,.string q.raw,.slice a2 q.items.length cap2] 57)).heap.size q.items (.slice a2 q.items.length cap2) :=
       hpi2.out.later (hB.alloc (Nat.le_of_lt hsz) _)
      refine(IH.out q hmem _ _ hfit hpw).mono ?_;rintro e w1 ⟨rfl,hb1⟩;have hB1:Below w.heap.size w w1:=(hB.alloc (Nat.le_of_lt hsz) _).trans (hb1.mono (by simp;omega));have hz1:w.heap.size<w1.heap.size:=by have:=hb1.size;simp at this;omega
      have bKr:=zh (keep (hb1.mono (B':=wr.heap.size) (by simp)) hsz (keep ((Below.refl wr.heap.size wr).alloc lr (.cells #[.int .u8 q.kind,.bool q.yes,.bool q.neg,.string q.mag,.string q.raw,.slice a2 q.items.length cap2] 57)) hsz f5));clear hpw;clear d0 d1 d2 d3 d4 d5 f5 hB hb1 hsz;cases hd:aL q with
      | true =>
       have HD2:=zh (show aL p=(p.items.drop (k+1)).all aL by rw[HK.out,HE.out,hd];rfl);clear hd;go_wp2_with fail;refine⟨?_,by simp[intOf];omega⟩;first
        | exact⟨k+1,by omega,rfl,HD2,hB1,hz1,bKr.out⟩
        | ((repeat apply Exists.intro);exact⟨⟨k+1,by omega,rfl,HD2,hB1,hz1,bKr.out⟩,rfl⟩)
      | false =>
       have HD2:=zh (show aL p=false by rw[HK.out,HE.out,hd];rfl);clear hd;go_wp2_with fail;go_ret;exact⟨by rw[HD2.out];rfl,hB1⟩
    · have q3:decide (k<p.items.length)=false:=by simpa using hlt
      have HD2:=zh (show aL p=true by rw[HK.out,List.drop_of_length_le (by omega)];rfl);go_wp2_with fail;go_ret;exact⟨by rw[HD2.out];rfl,hB⟩
theorem bCx (p:Pt):∀ (v:Value) (w:World),Fit p→PI w 0 w.heap.size p.items v →
 Calls prog 55 #[.agg #[.int .u8 p.kind,.bool p.yes,.bool p.neg,.string p.mag,.string p.raw,v]] w fun e w'=>e=.returned (.bool (aL p))∧Below w.heap.size w w':=by
 induction p using Pt.ind with
 | h p ih =>
  intro v w hf hp;rcases (show p.kind=0∨p.kind=1∨p.kind=2∨p.kind=3∨p.kind=4∨p.kind=5∨p.kind=6∨p.kind=7∨7<p.kind by omega) with h | h | h | h | h | h | h | h | h
  · exact bKg p v w hf hp h
  · exact bKh p v w hf hp h
  · exact bKi p v w hf hp h
  · exact bKj p v w hf hp h
  · exact bKk p v w hf hp h
  · exact bKl p v w hf hp h
  · exact bKm p v w hf hp h
  · exact bKq p v w hf hp h ih
  · exact bKn p v w hf hp h
end V
namespace We
open Ta (El Tm TabAt ev)
open D (Dm Wf bF aG dM)
open Ma (mH qD yB jF)
theorem mW:(prog.info? 5).map (fun i=>(i.zero,i.size,i.bytes))=some (some (.int .u8 0),1,1):=by kernel_rfl
theorem aQp {l m:List UInt8} (h:l=m):Value.string ⟨l.toArray⟩=Value.string ⟨m.toArray⟩:=by rw[h]
theorem bCy {x:Int} (h0:0≤x) (h1:x≤65535):((UInt8.ofNat (x / 256 % 256).toNat).toNat:Int)=x / 256 % 256:=by
 rw[UInt8.toNat_ofNat'];omega
theorem bCz {x:Int} (h0:0≤x) (h1:x≤65535):((UInt8.ofNat (x % 256).toNat).toNat:Int)=x % 256:=by
 rw[UInt8.toNat_ofNat'];omega
theorem aEb (w:World) (c d:UInt8) (x y:Int) (hx:(c.toNat:Int)=x) (hy:(d.toNat:Int)=y) (T:TypeId):∀ j u,(bv [c,d])[j]?=some u→(w.alloc (.cells #[.int .u8 x,.int .u8 y] T)).cell? ((⟨w.heap.size,0,none⟩:Addr).add j)=some u:=by subst hx hy;exact pW w c d T
def sF (n:Int):List UInt8:=[UInt8.ofNat (n / 256 % 256).toNat,UInt8.ofNat (n % 256).toNat]
theorem aTj (l:List Int):iV l=l.flatMap sF++[0,0]:=rfl
theorem aFg {D:Dm} (wf:Wf D) {T:Tm} (wt:lF T) (c:Co) {s:ByteArray} (hs:s.size≤65536) (i:Nat):(yC D T c s i).length≤67108864:=by
 have h:=aJp wf wt (Nat.le_trans (vF s) hs) lr (rQ s);have h2:=bCi i (aEs D T c s);have h3:(aEs D T c s).length=(mH (aG D) T (dM D (U.lN s))).length:=aGr ..;unfold yC;split
 · rw[So.rJ];omega
 · omega
theorem aFh (l:List Int):(l.flatMap sF).length=2*l.length:=by
 induction l with
 | nil=>rfl
 | cons x l ih=>rw[List.flatMap_cons,List.length_append,ih,List.length_cons];show 2+_=_;omega
theorem aNw {l:List Int} {k:Nat} (h:k<l.length):(l.take (k+1)).flatMap sF=(l.take k).flatMap sF++sF l[k]:=by
 rw[List.take_add_one,List.getElem?_eq_getElem h,List.flatMap_append];rfl
theorem aFi {ls:List (List Int)} {j:Nat} (h:j<ls.length):(ls.take (j+1)).flatMap iV=(ls.take j).flatMap iV++(ls[j].flatMap sF++[0,0]):=by
 rw[List.take_add_one,List.getElem?_eq_getElem h,List.flatMap_append];simp[aTj]
theorem aKh {ls:List (List Int)} {N:Nat} (h:∀ l∈ls,l.length≤N) (j:Nat):((ls.take j).flatMap iV).length≤j*(2*N+2):=by
 induction j with
 | zero=>simp
 | succ j ih =>
  have e:(j+1)*(2*N+2)=j*(2*N+2)+(2*N+2):=Nat.succ_mul j (2*N+2);rw[e];by_cases hj:j<ls.length
  · have:=h ls[j] (List.getElem_mem hj);rw[aFi hj,List.length_append,List.length_append,aFh];simp only [List.length_cons,List.length_nil];generalize j*(2*N+2)=P at *;omega
  · rw[List.take_of_length_le (show ls.length≤j by omega)] at ih;rw[List.take_of_length_le (show ls.length≤j+1 by omega)];generalize j*(2*N+2)=P at *;omega
theorem aHj {D:Dm} (wf:Wf D) {T:Tm} (wt:lF T) (t:Value) (c:Co) (hc:c.ok) (s:ByteArray) (w:World) (ht:gL w 0 w.heap.size t D T) (hs:s.size≤65536) (hg:U.Good (U.items s)) :
 Calls prog 126 #[t,c.val,.string s] w fun e w'=>e=.returned (.tuple #[.string ⟨(bT D T c s).toArray⟩,.int .i64 0])∧Below w.heap.size w w':=by
 obtain⟨pb,hpb⟩:∃ pb,t=.pointer (some ⟨pb,0,none⟩):=by obtain⟨pb,_,_,h,_⟩:=ht;exact⟨pb,h⟩
 subst hpb;have HT:=zh ht;clear ht;obtain⟨str,sh,back⟩:=c;obtain⟨n,rfl⟩:∃ n:Nat,str=(n:Int):=⟨str.toNat,by have:=hc.1;simp only at this;omega⟩
 have hn1:1≤n:=by have:=hc.1;simp only at this;omega
 have hn4:n≤4:=by have:=hc.2.1;simp only at this;omega
 obtain⟨ls,hls⟩:∃ ls,allM D T ⟨(n:Int),sh,back⟩ s=ls:=⟨_,rfl⟩
 have hll:ls.length=n:=by rw[← hls];unfold allM;simp
 have HIN:=zh (show ∀ l∈ls,∀ x∈l,1≤x∧x≤65535 from fun l hl=>by
  rw[← hls] at hl;unfold allM at hl;obtain⟨i,_,rfl⟩:=List.mem_map.1 hl;exact aFa wt D _ s i)
 have HLE:=zh (show ∀ l∈ls,l.length≤67108864 from fun l hl=>by
  rw[← hls] at hl;unfold allM at hl;obtain⟨i,_,rfl⟩:=List.mem_map.1 hl;exact aFg wf wt _ hs i)
 have HKEY:=zh (show bT D T ⟨(n:Int),sh,back⟩ s=ls.flatMap iV by unfold bT;rw[hls]);unfold Co.val;go_enter func126,ntmps126;go_wp2_with fail;have hb0:Below w.heap.size w (w.alloc (.cells #[.int .i64 (n:Int),.bool sh,.bool back] 77)):=zr.alloc lr _;refine(bCj wf wt _ ⟨(n:Int),sh,back⟩ hc s _ ((HT.out.later hb0 lr).wide lr (by simp)) hs hg).mono ?_;rintro e w1 ⟨v,us,rfl,hO,hR,hb1⟩;rw[hls] at hR;have hlen:us.length=n:=by rw[hR.1,hll]
 rw[hlen] at hO;obtain⟨g,cap,rfl,hg1,hg2⟩:=World.ownsRow.form hO (by omega);have HB0:=zh (hb0.trans (hb1.mono (by simp)));have HCE:=zh (show ∀ j (h:j<n),∃ u,w1.cell? ⟨g,j,none⟩=some u∧∃ hj:j<ls.length,aH w1 (fun _=>False) u ls[j] from fun j hj=>by
  obtain⟨u,h1,h2⟩:=hR.2 j (by omega);exact⟨u,(World.ownsRow.cellAt hO j (by omega)).trans h1,by omega,h2⟩)
 have hz1:=hb1.size;have HLS:=zh hls;clear hO hR hb1 hb0 hls;go_wp2_with fail;go_loopw [10,27] (fun o i wr=>∃ j:Nat,j≤n∧i=.int .i64 (j:Int)∧cO wr w1.heap.size o ((ls.take j).flatMap iV)∧Below w1.heap.size w1 wr) (fun _ i _=>n-(intOf i).toNat)
 case atStart=>exact⟨0,Nat.zero_le _,rfl,cO.nil _ _,zr⟩
 case round =>
  obtain⟨j,hj,rfl,hO,hB⟩:=hrel;have hsz:=hB.size;have hbl:=aKh HLE.out j;by_cases hlt:j<n
  · have q1:decide ((j:Int)<(n:Int))=true:=decide_eq_true (by omega);obtain⟨u,hc,hjl,hu⟩:=HCE.out j hlt;have hc':=(hB.cell (p:=⟨g,j,none⟩) hg2).trans hc;obtain⟨Wt,hWt⟩:∃ Wt,ls[j]=Wt:=⟨_,rfl⟩
    have HWI:=zh (HIN.out ls[j] (List.getElem_mem hjl));have hwl:=HLE.out ls[j] (List.getElem_mem hjl);rw[hWt] at hu HWI hwl;have HSN:=zh (show (ls.take (j+1)).flatMap iV=(ls.take j).flatMap iV++(Wt.flatMap sF++[0,0]) by rw[aFi hjl,hWt]);obtain⟨acc,hacc⟩:∃ acc,(ls.take j).flatMap iV=acc:=⟨_,rfl⟩
    rw[hacc] at hO hbl;have bQr:=zh hacc;clear hacc hWt hc;obtain⟨a7,kE,rfl,bVh,bWa,_⟩:=hu.form;have HU:=zh hu;have HO:=zh hO;have HB:=zh hB;clear hu hO hB;go_wp2_with fail;go_loopw [10,33] (fun o i wy=>∃ k:Nat,k≤Wt.length∧i=.int .i64 (k:Int)∧cO wy w1.heap.size o (acc++(Wt.take k).flatMap sF)∧Below w1.heap.size w1 wy) (fun _ i _=>Wt.length-(intOf i).toNat)
    case atStart=>exact⟨0,Nat.zero_le _,rfl,by simpa using HO.out,HB.out⟩
    case round =>
     rename World=>wy
     obtain⟨k,hk,rfl,hO,hB⟩:=hrel;have hsy:=hB.size;have hfl:=aFh (Wt.take k);have aTk:=List.length_take_le k Wt;by_cases hkl:k<Wt.length
     · have q2:decide ((k:Int)<(Wt.length:Int))=true:=decide_eq_true (by omega);obtain⟨gw,bQs,bWb,hv,_,hgw,_,hcw⟩:=HU.out.pos (by omega);injection hv with hv1 hv2 hv3
       subst hv1 hv3;have hcx:=(hB.cell (p:=⟨gw,bQs+k,none⟩) hgw).trans (hcw k hkl);obtain⟨hx0,hx1⟩:=HWI.out _ (List.getElem_mem hkl);have bGq:=zh (aNw hkl);obtain⟨x,hx⟩:∃ x,Wt[k]=x:=⟨_,rfl⟩
       rw[hx] at hcx hx0 hx1 bGq;clear hx hcw;obtain⟨c,d,hc2,hd2,hcd⟩:∃ c d:UInt8,(c.toNat:Int)=x / 256∧(d.toNat:Int)=x % 256∧sF x=[c,d] :=
        ⟨_,_,by rw[bCy (by omega) hx1];omega,bCz (by omega) hx1,rfl⟩
       rw[hcd] at bGq;have hal:(acc++(Wt.take k).flatMap sF).length+2≤140737488355328:=by rw[List.length_append];omega
       clear hcd hfl aTk;go_wp2_with (at_builtin;refine bD rfl (.tmp 37) (.tmp 43) 99 rfl underlying99 mW rfl (hO.alloc _) _ [c,d] 2 _ rfl rfl (aEb _ _ _ _ _ hc2 hd2 _) hal (hB.alloc hsy _) (by simp;omega) ?_;intro v2 w2 hO2 hB2 hs2);rw[List.append_assoc,← bGq.out] at hO2;exact⟨⟨k+1,by omega,by simp,hO2,hB2⟩,by simp[intOf];omega⟩
     · obtain rfl:k=Wt.length:=by omega
       have q2:decide ((Wt.length:Int)<(Wt.length:Int))=false:=decide_eq_false (by omega);rw[List.take_length] at hO hfl;have hal:(acc++Wt.flatMap sF).length+2≤140737488355328:=by rw[List.length_append];omega
       go_wp2_with (at_builtin;refine bD rfl (.tmp 46) (.tmp 47) 99 rfl underlying99 mW rfl (hO.alloc _) _ [0,0] 2 _ rfl rfl (pW _ 0 0 _) hal (hB.alloc hsy _) (by simp;omega) ?_;intro v2 w2 hO2 hB2 hs2);rw[List.append_assoc,← bQr.out,← HSN.out] at hO2;exact⟨⟨j+1,by omega,by simp,hO2,hB2⟩,by simp[intOf];omega⟩
  · obtain rfl:j=n:=by omega
    have q1:decide ((j:Int)<(j:Int))=false:=decide_eq_false (by omega);have hcv:=hO.conv 99 9 underlying99 underlying5 underlying9;go_wp2_with fail;rw[List.take_of_length_le (by omega),← HKEY.out];refine bodyPost_ret (v:=.tuple #[.string ⟨(bT D T ⟨(j:Int),sh,back⟩ s).toArray⟩,.int .i64 0]) (by simp[results,Tryz.f126]) rfl ?_;exact⟨rfl,HB0.out.trans (hB.mono (Nat.le_trans (by simp) hz1))⟩
