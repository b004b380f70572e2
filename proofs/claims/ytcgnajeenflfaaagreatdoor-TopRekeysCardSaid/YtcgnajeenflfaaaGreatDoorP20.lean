import Derived.Test.YtcgnajeenflfaaaGreatDoorP12
import Derived.Test.YtcgnajeenflfaaaGreatDoorP13
import Derived.Test.YtcgnajeenflfaaaGreatDoorP14
import Derived.Test.YtcgnajeenflfaaaGreatDoorP15
import Derived.Test.YtcgnajeenflfaaaGreatDoorP17
import Derived.Test.YtcgnajeenflfaaaGreatDoorP19
set_option maxRecDepth 100000
set_option maxHeartbeats 4000000
set_option linter.all false
open Go.Proofs.Tryz Go.RowKit
namespace Go.Proofs.YtcgnajeenflfaaaGreatDoor
namespace V
theorem PI.later {w w1:World} {l:List Pt} {v:Value} (h:PI w 0 w.heap.size l v) (hb:Below w.heap.size w w1):PI w1 0 w1.heap.size l v :=
 (h.same (Same.of_below hb lr)).wide lr hb.size
theorem VI.later {w w1:World} {p:Pt} {v:Value} (h:VI w 0 w.heap.size p v) (hb:Below w.heap.size w w1):VI w1 0 w1.heap.size p v :=
 (h.same (Same.of_below hb lr)).wide lr hb.size
theorem aYc {f:Pt→Bool} {l:List Pt} {k:Nat} (h:k<l.length):(l.drop k).any f=(f l[k] || (l.drop (k+1)).any f):=by
 rw[List.drop_eq_getElem_cons h];rfl
theorem aYd {f:Pt→Bool} {l:List Pt} {k:Nat} (h:k<l.length):(l.drop k).all f=(f l[k]&&(l.drop (k+1)).all f):=by
 rw[List.drop_eq_getElem_cons h];rfl
theorem aYe (n:Nat):∀ (p:Pt) (v:Value) (w:World),n≤1000→Fit p→PI w 0 w.heap.size p.items v →
 Calls prog 54 #[.agg #[.int .u8 p.kind,.bool p.yes,.bool p.neg,.string p.mag,.string p.raw,v],.int .i64 n] w fun e w'=>e=.returned (.bool (dH n p))∧Below w.heap.size w w':=by
 induction n with
 | zero =>
  intro p v w _ hf hp;have hk:=hf.k;by_cases h7:p.kind=7
  · have q1:((p.kind:Int) != 7)=false:=by rw[h7];rfl
    have HD:=zh (show dH 0 p=true by simp[dH,h7]);clear h7;go_enter func54,ntmps54;go_wp2_with fail;go_ret;exact⟨by rw[HD.out];rfl,zr.alloc lr _⟩
  · have q1:((p.kind:Int) != 7)=true:=by simp;omega
    have HD:=zh (show dH 0 p=false by simp[dH,h7]);clear h7;go_enter func54,ntmps54;go_wp2_with fail;go_ret;exact⟨by rw[HD.out];rfl,zr.alloc lr _⟩
 | succ n ih =>
  intro p v w hn hf hp;have hk:=hf.k;have hl:=hf.l;by_cases h7:p.kind=7
  · have q1:((p.kind:Int) != 7)=false:=by rw[h7];rfl
    have q2:((n:Int)+1==0)=false:=beq_eq_false_iff_ne.2 (by omega);have HD:=zh (show dH (n+1) p=(p.items.drop 0).any (dH n) by simp[dH,h7]);obtain⟨a,cap,rfl,hcap,hat⟩:=hp.open;have HA:=zh hat;have IH:=zh ih;clear h7 hat ih hp;go_enter func54,ntmps54;go_wp2_with fail;go_loopw [15] (fun i wr=>∃ k:Nat,k≤p.items.length∧i=.int .i64 k∧RowKit.Hid (dH (n+1) p=(p.items.drop k).any (dH n))∧Below w.heap.size w wr∧w.heap.size<wr.heap.size) (fun i _=>p.items.length-(intOf i).toNat)
    case atStart=>exact⟨0,Nat.zero_le _,rfl,HD,zr.alloc lr _,by simp⟩
    case round =>
     obtain⟨k,hkl,rfl,HK,hB,hsz⟩:=hrel;by_cases hlt:k<p.items.length
     · have q3:decide (k<p.items.length)=true:=by simpa using hlt
       obtain⟨b,off,u,rfl,_,hb,hc,hfit,hpi⟩:=HA.out k hlt;obtain⟨d0,d1,d2,d3,d4,d5⟩:=hc.same (Same.of_below hB lr) (Nat.zero_le _) hb;have HE:=zh (aYc (f:=dH n) hlt);obtain⟨q,hq⟩:∃ q,p.items[k]=q:=⟨_,rfl⟩
       rw[hq] at d0 d1 d2 d3 d4 hfit hpi HE;obtain⟨a2,cap2,rfl,_,_⟩:=hpi.open;have hpi2:=zh hpi;clear hc hq hpi;go_wp2_with fail;have hpw:PI (wr.alloc (.cells #[.int .u8 q.kind,.bool q.yes,.bool q.neg,.string q.mag,.string q.raw,.slice a2 q.items.length cap2] 57)) 0 (wr.alloc (.cells #[.int .u8 q.kind,.bool q.yes,.bool q.neg,.string q.mag,.string q.raw,.slice a2 q.items.length cap2] 57)).heap.size q.items (.slice a2 q.items.length cap2) :=
        hpi2.out.later (hB.alloc (Nat.le_of_lt hsz) _)
       refine(IH.out q _ _ (by omega) hfit hpw).mono ?_;rintro e w1 ⟨rfl,hb1⟩;have hB1:Below w.heap.size w w1:=(hB.alloc (Nat.le_of_lt hsz) _).trans (hb1.mono (by simp;omega));have hz1:w.heap.size<w1.heap.size:=by have:=hb1.size;simp at this;omega
       cases hd:dH n q with
       | true =>
        have HD2:=zh (show dH (n+1) p=true by rw[HK.out,HE.out,hd];rfl);clear hd hB hb1 hpw d0 d1 d2 d3 d4 d5;go_wp2_with fail;go_ret;exact⟨by rw[HD2.out];rfl,hB1⟩
       | false =>
        have HD2:=zh (show dH (n+1) p=(p.items.drop (k+1)).any (dH n) by rw[HK.out,HE.out,hd];rfl);clear hd hB hb1 hpw d0 d1 d2 d3 d4 d5;go_wp2_with fail;refine⟨?_,by simp[intOf];omega⟩;(repeat apply Exists.intro)
        exact⟨⟨k+1,by omega,rfl,HD2,hB1,hz1⟩,rfl⟩
     · have q3:decide (k<p.items.length)=false:=by simpa using hlt
       have HD2:=zh (show dH (n+1) p=false by rw[HK.out,List.drop_of_length_le (by omega)];rfl);go_wp2_with fail;go_ret;exact⟨by rw[HD2.out];rfl,hB⟩
  · have q1:((p.kind:Int) != 7)=true:=by simp;omega
    have HD:=zh (show dH (n+1) p=false by simp[dH,h7]);clear h7;go_enter func54,ntmps54;go_wp2_with fail;go_ret;exact⟨by rw[HD.out];rfl,zr.alloc lr _⟩
end V
namespace Sc
open We (Co)
theorem bCu (nm:ByteArray) (k:Nat) (dn:Bool) (nu:Nat) (bd lb:Bool) (lm:ByteArray) (hb:Bool) (hm:ByteArray) (mo st:Int) (sh bk:Bool) (n:Nat) (a:Option Addr) (c:Nat) (w:World) (h:k<1∨7<k∨2<nu) :
 Calls prog 82 #[.agg #[.string nm,.int .u8 k,.bool dn,.int .u8 nu,.bool bd,.bool lb,.string lm,.bool hb,.string hm,.int .i64 mo,.int .i64 st,.bool sh,.bool bk,.slice a n c]] w (nM true w):=by
 by_cases h1:k<1
 · have q1:decide ((k:Int)<1)=true:=decide_eq_true (by omega);go_enter func82,ntmps82;go_wp2_with fail;go_ret;exact⟨rfl,zr.alloc lr _⟩
 have q1:decide ((k:Int)<1)=false:=decide_eq_false (by omega);by_cases h2:7<k
 · have q2:decide (7<(k:Int))=true:=decide_eq_true (by omega);go_enter func82,ntmps82;go_wp2_with fail;go_ret;exact⟨rfl,zr.alloc lr _⟩
 have q2:decide (7<(k:Int))=false:=decide_eq_false (by omega);have q3:decide (2<(nu:Int))=true:=decide_eq_true (by omega);go_enter func82,ntmps82;go_wp2_with fail;go_ret;exact⟨rfl,zr.alloc lr _⟩
theorem bCv (f:Fd) (a:Option Addr) (n c:Nat) (hn:n=f.fields.length) (hf:jY f) (w:World):Calls prog 82 #[.agg (aR f (.slice a n c)).toArray] w fun e w'=>e=.returned (.bool (yD f))∧Below w.heap.size w w':=by
 subst hn;have HK:=fun w=>aSw f (.slice a f.fields.length c) ⟨_,_,_,rfl⟩ hf w
 rw[aQs];obtain⟨nm,k,dn,nu,bd,lb,lm,hb,hm,mo,⟨st,sh,bk⟩,fs⟩:=f;rw[dN] at HK ⊢;simp only [Fd.kind,Fd.aI,Fd.bnd,Fd.eX,Fd.eG,Fd.hib,Fd.him,Fd.most,Fd.co,Fd.fields] at HK ⊢;by_cases hv:k<1∨7<k∨2<nu
 · rw[show jN k nu bd lb lm hb hm mo ⟨st,sh,bk⟩ fs (wM (.mk nm k dn nu bd lb lm hb hm mo ⟨st,sh,bk⟩ fs))=true by unfold jN;rw[if_pos hv]];exact bCu nm k dn nu bd lb lm hb hm mo st sh bk fs.length a c w hv
 · simp only [not_or,Nat.not_lt] at hv;obtain⟨hk1,hk7,hnu⟩:=hv;rcases (by omega:k=1∨k=2∨k=3∨k=4∨k=5∨k=6∨k=7) with rfl | rfl | rfl | rfl | rfl | rfl | rfl
   · exact bJp nm dn nu bd lb lm hb hm mo st sh bk fs a c w _ _ hnu HK rfl
   · exact bJr nm dn nu bd lb lm hb hm mo st sh bk fs a c w _ _ hnu HK rfl
   · exact bJs nm dn nu bd lb lm hb hm mo st sh bk fs a c w _ _ hnu HK rfl
   · exact bJq nm dn nu bd lb lm hb hm mo st sh bk fs a c w _ _ hnu HK rfl
   · exact bJt nm dn nu bd lb lm hb hm mo st sh bk fs a c w _ _ hnu HK rfl
   · exact bJu nm dn nu bd lb lm hb hm mo st sh bk fs a c w _ _ hnu HK rfl
   · exact bJv nm dn nu bd lb lm hb hm mo st sh bk fs a c w _ _ hnu HK rfl
open V (Same)
theorem FI.take {w:World} {lo hi n cap:Nat} {a:Option Addr} {l:List Fd} (h:FI w lo hi l (.slice a n cap)) (i:Nat) (hin:i≤n):FI w lo hi (l.take i) (.slice a i cap):=by
 generalize hv:Value.slice a n cap=v at h;cases h with
 | mk _ a' cap' F hc cells fits deep =>
  injection hv with e1 e2 e3
  subst e1 e2 e3;have hl:(l.take i).length=i:=by rw[List.length_take];omega
  have hg:∀ j (hj:j<(l.take i).length),(l.take i)[j]=l[j]'(by omega):=fun j hj=>List.getElem_take
  have:=FI.mk (w:=w) (lo:=lo) (hi:=hi) (l.take i) a cap F (by omega) (fun j hj=>by rw[hg j hj];exact cells j (by omega)) (fun j hj=>by rw[hg j hj];exact fits j (by omega)) (fun j hj=>by rw[hg j hj];exact deep j (by omega));rwa [hl] at this
theorem FI.len {w:World} {lo hi n cap:Nat} {a:Option Addr} {l:List Fd} (h:FI w lo hi l (.slice a n cap)):n=l.length:=by
 obtain⟨a',cap',he,_⟩:=h.open;injection he with _ e2 _
theorem FI.xv {P:Nat→Prop} {w w':World} {lo hi:Nat} {l:List Fd} {v:Value} (h:FI w lo hi l v) (hm:Xv P w w') (hb:∀ k,lo≤k→k<hi→¬ P k) (hs:hi≤w.heap.size):FI w' lo hi l v:=h.same (hm.same hb hs)
def aCa (c:Int) (pv:Value):Ending:=.panicked [{ v:=.iface 126 (.agg #[.int .i64 c,pv]),recovered:=false }]
def Wrong (e:Ending):Prop:=∃ c a n k,c≠0∧e=aCa c (.slice a n k)
def qG (ok:Bool) (nb n:Nat) (w:World) (e:Ending) (w':World):Prop :=
 (if ok then e=.returned (.bool true) else Wrong e)∧Xv (· = nb) w w'∧aC w' nb 3 #[.int .i64 ((n+1:Nat):Int)]
theorem lG.all {w:World} {b o:Nat} {f:Fd} {v:Value} (h:lG w b o f v) :
 w.cell? ⟨b,o,none⟩=some (.string f.name)∧w.cell? ⟨b,o+1,none⟩=some (.int .u8 f.kind)∧w.cell? ⟨b,o+2,none⟩=some (.bool f.down)∧w.cell? ⟨b,o+3,none⟩=some (.int .u8 f.aI)∧w.cell? ⟨b,o+4,none⟩=some (.bool f.bnd) ∧
  w.cell? ⟨b,o+5,none⟩=some (.bool f.eX)∧w.cell? ⟨b,o+6,none⟩=some (.string f.eG)∧w.cell? ⟨b,o+7,none⟩=some (.bool f.hib)∧w.cell? ⟨b,o+8,none⟩=some (.string f.him)∧w.cell? ⟨b,o+9,none⟩=some (.int .i64 f.most) ∧
  w.cell? ⟨b,o+10,none⟩=some (.int .i64 f.co.str)∧w.cell? ⟨b,o+11,none⟩=some (.bool f.co.sh)∧w.cell? ⟨b,o+12,none⟩=some (.bool f.co.back)∧w.cell? ⟨b,o+13,none⟩=some v :=
 ⟨h 0 (by decide),h 1 (by decide),h 2 (by decide),h 3 (by decide),h 4 (by decide),h 5 (by decide),h 6 (by decide),h 7 (by decide),h 8 (by decide),h 9 (by decide),h 10 (by decide),h 11 (by decide),h 12 (by decide),h 13 (by decide)⟩
theorem qG.bad {X:Bool} {nb n:Nat} {w w':World} {c:Int} {a:Option Addr} {i k:Nat} (h:X=false) (hc:c≠0) (hx:Xv (· = nb) w w') (hb:aC w' nb 3 #[.int .i64 ((n+1:Nat):Int)]):qG X nb n w (aCa c (.slice a i k)) w':=by
 subst h;exact⟨⟨c,a,i,k,hc,rfl⟩,hx,hb⟩
theorem aNn {al:List Fd} {nm:ByteArray} {j:Nat} (hj:j<al.length) (h:∀ x∈al.take j,(x.name.toList==nm.toList)=false) (h2:(al[j].name.toList==nm.toList)=false):∀ x∈al.take (j+1),(x.name.toList==nm.toList)=false:=by
 intro x hx;rw[List.take_add_one,List.getElem?_eq_getElem hj] at hx;rcases List.mem_append.1 hx with hx | hx
 · exact h x hx
 · simp only [Option.toList_some,List.mem_singleton] at hx;rw[hx];exact h2
theorem aTi {al:List Fd} {nm:ByteArray} {j:Nat} (hj:j<al.length) (h2:(al[j].name.toList==nm.toList)=true):(al.all fun x=>!(x.name.toList==nm.toList))=false:=by
 rw[List.all_eq_false];exact⟨al[j],List.getElem_mem hj,by simp[h2]⟩
theorem aYf {al:List Fd} {nm:ByteArray} (h:∀ x∈al,(x.name.toList==nm.toList)=false):(al.all fun x=>!(x.name.toList==nm.toList))=true:=by
 rw[List.all_eq_true];intro x hx;rw[h x hx];rfl
theorem bGo (f:Fd) (a:Option Addr) (cf:Nat) (hf:jY f) (al:List Fd) (aa:Option Addr) (ca:Nat) (pa:Option Addr) (d cp:Nat) (nb n:Nat) (hi:Nat) (w:World)
 (hn:n≤64) (hall:al.length≤140737488351232) (hnb:hi≤nb) (hhi:hi≤w.heap.size) (hal:FI w 0 hi al (.slice aa al.length ca)) (hB:aC w nb 3 #[.int .i64 (n:Int)]) :
 Calls prog 80 #[.slice pa d cp,.agg (aR f (.slice a f.fields.length cf)).toArray,.slice aa al.length ca,.pointer (some ⟨nb,0,none⟩)] w (qG (uR (n+1) d al f) nb n w):=by
 obtain⟨X,hX⟩:∃ X,uR (n+1) d al f=X:=⟨_,rfl⟩
 rw[hX];have HO:=fun w=>bCv f a f.fields.length cf rfl hf w
 have HN:=fun w=>aMx f.name hf.n w
 unfold uR at hX;obtain⟨O,hO⟩:∃ O,yD f=O:=⟨_,rfl⟩
 obtain⟨N,hN⟩:∃ N,kM f.name.toList=N:=⟨_,rfl⟩
 rw[hO] at HO hX;rw[hN] at HN hX;obtain⟨nm,k,dn,nu,bd,lb,lm,hb,hm,mo,⟨st,sh,bk⟩,fs⟩:=f;simp only [Fd.name,Fd.fields] at HN HO ⊢;replace hX:(decide (n+1≤64)&&decide (d≤16)&&N&&al.all (fun x=>!(x.name.toList==nm.toList))&&!O&&!(k==7&&fs.isEmpty))=X:=hX;rw[dN] at HO ⊢;have c0:=hB.cell 0;have z0:=hB.frozen 0;have hXv:∀ o,Xv (· = nb) w ((w.setCell ⟨nb,0,none⟩ (.int .i64 ((n:Int)+1))).alloc o):=fun o=>((Xv.refl (· = nb) w).aU (fun _=>rfl) _ _).alloc _
 have hBl:∀ o,aC ((w.setCell ⟨nb,0,none⟩ (.int .i64 ((n:Int)+1))).alloc o) nb 3 #[.int .i64 ((n+1:Nat):Int)]:=fun o =>
  aC.below (hB.aU 0 (.int .i64 ((n:Int)+1))) (zr.alloc lr o) (hB.aU 0 _).lt
 have hBf:∀ cs,aC ((w.setCell ⟨nb,0,none⟩ (.int .i64 ((n:Int)+1))).alloc (.cells cs 79)) w.heap.size 79 cs:=fun cs=>by
  have:=aC.new (w.setCell ⟨nb,0,none⟩ (.int .i64 ((n:Int)+1))) 79 cs;rwa [show (w.setCell ⟨nb,0,none⟩ (.int .i64 ((n:Int)+1))).heap.size=w.heap.size by simp[World.setCell]] at this
 have HXV:=zh hXv;have HBL:=zh hBl;have nO:=zh hBf;have HAL:=zh hal;have HX:=zh hX;replace HO:=zh HO;replace HN:=zh HN;have hnl:=hB.lt;clear hO hN hX hal hB hf hXv hBl hBf;simp at c0;go_enter func80,ntmps80;by_cases h64:64<n+1
 · have q1:decide ((64:Int)<(n:Int)+1)=true:=decide_eq_true (by omega);go_wp2_with fail;exact⟨rfl,qG.bad (by rw[← HX.out,decide_eq_false (show ¬ n+1≤64 by omega)];rfl) (by decide) (HXV.out _) (HBL.out _)⟩
 have q1:decide ((64:Int)<(n:Int)+1)=false:=decide_eq_false (by omega);by_cases h16:16<d
 · have q2:decide ((16:Int)<(d:Int))=true:=decide_eq_true (by omega);go_wp2_with fail;exact⟨rfl,qG.bad (by rw[← HX.out,decide_eq_false (show ¬ d≤16 by omega),Bool.and_false];rfl) (by decide) (HXV.out _) (HBL.out _)⟩
 have q2:decide ((16:Int)<(d:Int))=false:=decide_eq_false (by omega);cases N with
 | false =>
  go_wp2_with (go_at_call 81;refine(HN.out _).mono ?_;rintro e w1 ⟨rfl,hb1⟩;have HB1:=zh hb1);exact⟨rfl,qG.bad (by rw[← HX.out];simp) (by decide) ((HXV.out _).then HB1.out) (aC.below (HBL.out _) HB1.out (HBL.out _).lt)⟩
 | true =>
  go_wp2_with (go_at_call 81;refine(HN.out _).mono ?_;rintro e w1 ⟨rfl,hb1⟩;have HB1:=zh hb1);have bQm:=zh ((HXV.out _).then HB1.out);have bQn:=zh (aC.below (HBL.out _) HB1.out (HBL.out _).lt);have bQo:=zh (aC.below (nO.out _) HB1.out (nO.out _).lt);clear hb1 HXV HBL nO HN c0 z0 hnl HB1;go_loopw [35] (fun i wr=>∃ j:Nat,j≤al.length∧i=.int .i64 (j:Int)∧Xv (· = nb) w wr∧aC wr nb 3 #[.int .i64 ((n+1:Nat):Int)]∧aC wr w.heap.size 79 #[.string nm,.int .u8 k,.bool dn,.int .u8 nu,.bool bd,.bool lb,.string lm,.bool hb,.string hm,.int .i64 mo,.int .i64 st,.bool sh,.bool bk,.slice a fs.length cf]∧Hid (∀ x∈al.take j,(x.name.toList==nm.toList)=false)) (fun i _=>al.length-(intOf i).toNat)
  case atStart=>exact⟨0,Nat.zero_le _,rfl,bQm.out,bQn.out,bQo.out,zh (fun x hx=>by cases hx)⟩
  case round =>
   obtain⟨j,hj,rfl,hxv,hbl,hbf,hnm⟩:=hrel;have c0:wr.cell? ⟨w.heap.size,0,none⟩=some (.string nm):=hbf.cell 0;have hwl:=hbf.lt;by_cases hlt:j<al.length
   · have q3:decide ((j:Int)<(al.length:Int))=true:=decide_eq_true (by omega);have hal:=HAL.out.xv hxv (fun k _ h e=>by omega) hhi;obtain⟨aa',ca',he,hca,hpl⟩:=hal.open;injection he with e1 e2 e3
     subst e1 e3;obtain⟨b,off,u,rfl,_,hbh,hcl,_,hfi⟩:=hpl j hlt;obtain⟨k0,k1,k2,k3,k4,k5,k6,k7,k8,k9,k10,k11,k12,k13⟩:=hcl.all;obtain⟨au,cu,rfl,_,_⟩:=hfi.open;clear hal hcl hfi hpl;obtain⟨x,hx⟩:∃ x,al[j]=x:=⟨_,rfl⟩
     rw[hx] at k0 k1 k2 k3 k4 k5 k6 k7 k8 k9 k10 k11 k12 k13;obtain⟨xm,xk,xdn,xnu,xbd,xlb,xlm,xhb,xhm,xmo,⟨xst,xsh,xbk⟩,xfs⟩:=x;have HSN:=zh (show (xm.toList==nm.toList)=false→∀ x∈al.take (j+1),(x.name.toList==nm.toList)=false from fun h2=>aNn (nm:=nm) hlt hnm.out (by rw[hx];exact h2));have HBD:=zh (show (xm.toList==nm.toList)=true→(al.all fun x=>!(x.name.toList==nm.toList))=false from fun h2=>aTi (nm:=nm) hlt (by rw[hx];exact h2));simp only [Fd.name,Fd.kind,Fd.down,Fd.aI,Fd.bnd,Fd.eX,Fd.eG,Fd.hib,Fd.him,Fd.most,Fd.co,Fd.fields] at k0 k1 k2 k3 k4 k5 k6 k7 k8 k9 k10 k11 k12 k13;clear hx hnm;cases hq:(xm.toList==nm.toList) with
     | true =>
      go_wp2_with fail;exact⟨rfl,qG.bad (by rw[← HX.out,HBD.out hq];simp) (by decide) (hxv.alloc _) (aC.below hbl (zr.alloc lr _) hbl.lt)⟩
     | false =>
      go_wp2_with fail;exact⟨⟨j+1,by omega,by simp,hxv.alloc _,aC.below hbl (zr.alloc lr _) hbl.lt,aC.below hbf (zr.alloc lr _) hwl,zh (HSN.out hq)⟩,by simp[intOf];omega⟩
   · obtain rfl:j=al.length:=by omega
     have q3:decide ((al.length:Int)<(al.length:Int))=false:=decide_eq_false (by omega);have HOK:=zh (aYf (nm:=nm) (by have:=hnm.out;rwa [List.take_length] at this));have c1:wr.cell? ⟨w.heap.size,1,none⟩=some (.int .u8 k):=hbf.cell 1;have c2:wr.cell? ⟨w.heap.size,2,none⟩=some (.bool dn):=hbf.cell 2;have c3:wr.cell? ⟨w.heap.size,3,none⟩=some (.int .u8 nu):=hbf.cell 3;have c4:wr.cell? ⟨w.heap.size,4,none⟩=some (.bool bd):=hbf.cell 4;have c5:wr.cell? ⟨w.heap.size,5,none⟩=some (.bool lb):=hbf.cell 5;have c6:wr.cell? ⟨w.heap.size,6,none⟩=some (.string lm):=hbf.cell 6;have c7:wr.cell? ⟨w.heap.size,7,none⟩=some (.bool hb):=hbf.cell 7;have c8:wr.cell? ⟨w.heap.size,8,none⟩=some (.string hm):=hbf.cell 8;have c9:wr.cell? ⟨w.heap.size,9,none⟩=some (.int .i64 mo):=hbf.cell 9;have c10:wr.cell? ⟨w.heap.size,10,none⟩=some (.int .i64 st):=hbf.cell 10;have c11:wr.cell? ⟨w.heap.size,11,none⟩=some (.bool sh):=hbf.cell 11;have c12:wr.cell? ⟨w.heap.size,12,none⟩=some (.bool bk):=hbf.cell 12;have c13:wr.cell? ⟨w.heap.size,13,none⟩=some (.slice a fs.length cf):=hbf.cell 13;have aNo:=zh hbf;have aCb:=zh hbl;have bCw:=zh hxv;clear hbf hbl hxv hnm;cases O with
     | true =>
      go_wp2_with (go_at_call 82;refine(HO.out _).mono ?_;rintro e w2 ⟨rfl,hb2⟩;have HB2:=zh hb2);exact⟨rfl,qG.bad (by rw[← HX.out];simp) (by decide) (bCw.out.then HB2.out) (aC.below aCb.out HB2.out aCb.out.lt)⟩
     | false =>
      have H64:=zh h64;have H16:=zh h16;by_cases hk7:k=7
      · subst hk7;cases fs with
        | nil =>
         go_wp2_with (go_at_call 82;refine(HO.out _).mono ?_;rintro e w2 ⟨rfl,hb2⟩;have HB2:=zh hb2;have c21:=(aC.below aNo.out hb2 hwl).cell 1;have c213:=(aC.below aNo.out hb2 hwl).cell 13;simp at c21 c213);exact⟨rfl,qG.bad (by rw[← HX.out];simp) (by decide) (bCw.out.then HB2.out) (aC.below aCb.out HB2.out aCb.out.lt)⟩
        | cons x xs =>
         obtain⟨m,hm⟩:∃ m,(x::xs).length=m:=⟨_,rfl⟩
         have q5:((m:Int)==0)=false:=by simp;rw[← hm];simp
         rw[hm] at c13 HO aNo;clear hm;go_wp2_with (go_at_call 82;refine(HO.out _).mono ?_;rintro e w2 ⟨rfl,hb2⟩;have HB2:=zh hb2;have c21:=(aC.below aNo.out hb2 hwl).cell 1;have c213:=(aC.below aNo.out hb2 hwl).cell 13;simp at c21 c213);refine bodyPost_ret (v:=.bool true) (by simp[results,Tryz.f80]) rfl ?_;refine⟨?_,bCw.out.then HB2.out,aC.below aCb.out HB2.out aCb.out.lt⟩;rw[← HX.out,HOK.out,decide_eq_true (show n+1≤64 by have:=H64.out;omega),decide_eq_true (show d≤16 by have:=H16.out;omega)];simp
      · have q4:((k:Int)==7)=false:=by simp;omega
        have HK7:=zh hk7;clear hk7;go_wp2_with (go_at_call 82;refine(HO.out _).mono ?_;rintro e w2 ⟨rfl,hb2⟩;have HB2:=zh hb2;have c21:=(aC.below aNo.out hb2 hwl).cell 1;have c213:=(aC.below aNo.out hb2 hwl).cell 13;simp at c21 c213);refine bodyPost_ret (v:=.bool true) (by simp[results,Tryz.f80]) rfl ?_;refine⟨?_,bCw.out.then HB2.out,aC.below aCb.out HB2.out aCb.out.lt⟩;rw[← HX.out,HOK.out,decide_eq_true (show n+1≤64 by omega),decide_eq_true (show d≤16 by omega)];rw[show (k==7)=false by simpa using HK7.out];simp
open V (Pt aW cZ aL fB fO kC nI bE)
def aEa (F:List Fd) (p:Pt):Bool:=p.kind==7&&p.items.length==F.length&&kH F p.items
def encS (K:Co→ByteArray→List UInt8) (lim:Int) (F:List Fd) (p:Pt):Option (List UInt8) :=
 if rT lim F&&aEa F p&&decide (((iW K F p.items).length:Int)≤lim) then some (iW K F p.items) else none
def aNp (K:Co→ByteArray→List UInt8) (lim:Int) (F:List Fd) (key:List UInt8):Option Pt :=
 if rT lim F&&decide ((key.length:Int)≤lim) then match zV K F key with
  | none=>none
  | some (ps,r)=>if r=[] then some (.mk 7 false false .empty .empty ps) else none
 else none
theorem aKd {K:Co→ByteArray→List UInt8} (hK:aEy K) {lim:Int} {F:List Fd} {key:List UInt8} {p:Pt} (hm:aL p=true) (h:encS K lim F p=some key):aNp K lim F key=some p:=by
 unfold encS at h;split at h
 · next h1 =>
   simp only [Bool.and_eq_true,decide_eq_true_eq,aEa,beq_iff_eq] at h1;injection h with h
   subst h;obtain⟨_,_,hne,hl,ho⟩:=lQ h1.1.1;have hr:=aQx (K:=K) 0 F (fun g _=>bCl hK g) ho p.items [] h1.1.2.1.2 h1.1.2.2 (fun q hq=>V.dW hm hq);rw[List.append_nil] at hr;unfold aNp;simp only [h1.1.1,h1.2,decide_true,Bool.and_self,if_true,hr];congr 1
   obtain⟨_,c1,c2,c7,_,_,_,ce⟩:=canon (bE hm);have e7:=h1.1.2.1.1;conv=>rhs;rw[V.Pt.eta p,e7,c1 (by omega),(c2 (by omega)).1,(c2 (by omega)).2,ce (by omega)]
 · cases h
open Go.ChangeShapes Go.WideShapes Go.ChangeAt Go.RowKit Go.Deep
theorem zZ {H:Type} {enc:TypeId×Value→H} {w:World} {base:Nat} {sp:Nat→Bool} {held:Bool} {fuel:Nat} {a b:Value} {x:DataW H×List MemPlace}
 (h:DataW.trod enc prog w base sp held fuel 26 [a,b]=some x) (hw:∀ n∈x.1.weights prog 26,n≤reachBytes) :
 ∃ (lim:Int) (F:List Fd) (a0:Option Addr) (k0:Nat),a=.int .i64 lim∧b=.slice a0 F.length k0∧FI w 0 w.heap.size F (.slice a0 F.length k0)∧F.length≤140737488351232:=by
 have e3:prog.cellsOf 3=1:=by kernel_rfl
 have eF:prog.cellsOf 24=1:=by kernel_rfl
 obtain⟨z0,z1,m,hz,_,g0,g1⟩:=trod_struct2 underlying26 h;obtain⟨lim,hl,_⟩:=DataW.trod_int underlying3 g0;rw[e3] at hl;simp only [eF] at g1;obtain⟨F,hF,hFl⟩:=aNi m b z1 g1 (fun n hn=>by
  refine hw n ?_;rw[hz];simp only [DataW.weights,underlying26];exact DataW.weights_mem_each (j:=1) rfl rfl n hn)
 have hr:reachBytes=140737488351232:=by decide
 rw[hr] at hFl;obtain⟨a0,k0,rfl,_⟩:=hF.open;exact⟨lim,F,a0,k0,by simpa using hl,rfl,hF,hFl⟩
theorem aYg {H:Type} {enc:TypeId×Value→H} {w:World} {base:Nat} {sp:Nat→Bool} {held:Bool} {fuel:Nat} {a b:Value} {x:DataW H×List MemPlace}
 (h:DataW.trod enc prog w base sp held fuel 23 [a,b]=some x):∃ s t:ByteArray,a=.string s∧b=.string t:=by
 have e9:prog.cellsOf 9=1:=by kernel_rfl
 obtain⟨z0,z1,m,_,_,g0,g1⟩:=trod_struct2 underlying23 h;obtain⟨s,hs,_⟩:=DataW.trod_string underlying9 g0;obtain⟨t,ht,_⟩:=DataW.trod_string underlying9 g1;rw[e9] at hs ht;exact⟨s,t,by simpa using hs,by simpa using ht⟩
theorem aYh {H:Type} {enc:TypeId×Value→H} {w:World} {base:Nat} {sp:Nat→Bool} {held:Bool} {fuel:Nat} {cs:List Value} {x:DataW H×List MemPlace}
 (h:DataW.trod enc prog w base sp held fuel 28 cs=some x) (hw:∀ n∈x.1.weights prog 28,n≤reachBytes) :
 ∃ (s t:ByteArray) (lim:Int) (F:List Fd) (a0:Option Addr) (k0:Nat),cs=[.string s,.string t,.int .i64 lim,.slice a0 F.length k0]∧FI w 0 w.heap.size F (.slice a0 F.length k0)∧F.length≤140737488351232:=by
 have e4:prog.cellsOf 28=4:=by kernel_rfl
 have eT:prog.cellsOf 23=2:=by kernel_rfl
 have eS:prog.cellsOf 26=2:=by kernel_rfl
 obtain⟨z0,z1,m,hz,hl,g0,g1⟩:=trod_struct2 underlying28 h;rw[e4] at hl;match cs,hl with
 | [v0,v1,v2,v3],_ =>
  simp[eT,eS] at g0 g1;obtain⟨s,t,rfl,rfl⟩:=aYg g0;obtain⟨lim,F,a0,k0,rfl,rfl,hF,hl⟩:=zZ g1 (fun n hn=>by
   refine hw n ?_;rw[hz];simp only [DataW.weights,underlying28];exact DataW.weights_mem_each (j:=1) rfl rfl n hn)
  exact⟨s,t,lim,F,a0,k0,rfl,hF,hl⟩
theorem aYi {H:Type} {enc:TypeId×Value→H} {w:World} {base b0:Nat} {sp:Nat→Bool} {held:Bool} {r:Reach} {v:Value} {d:DataW H} {ps:List MemPlace}
 (hval:Value.okWide prog w r b0 28 v) (h:DataW.Trod enc prog w base sp held 28 v d ps) (hw:∀ n∈d.weights prog 28,n≤reachBytes) :
 ∃ (s t:ByteArray) (lim:Int) (F:List Fd) (a0:Option Addr) (k0:Nat),v=.agg #[.string s,.string t,.int .i64 lim,.slice a0 F.length k0]∧FI w 0 w.heap.size F (.slice a0 F.length k0)∧F.length≤140737488351232:=by
 obtain⟨fuel,hf⟩:=h;obtain⟨s,t,lim,F,a0,k0,hc,hF,hl⟩:=aYh hf hw;obtain⟨cs,rfl,_⟩:=okWide_struct underlying28 hval;refine⟨s,t,lim,F,a0,k0,?_,hF,hl⟩;have hc':cs.toList=[.string s,.string t,.int .i64 lim,.slice a0 F.length k0]:=hc;cases cs;simp_all
