import Derived.Test.YtcgnajeenflfaaaGreatDoorP28
import Derived.Test.YtcgnajeenflfaaaGreatDoorP29
set_option maxRecDepth 100000
set_option maxHeartbeats 4000000
set_option linter.all false
open Go.Proofs.Tryz Go.RowKit
namespace Go.Proofs.YtcgnajeenflfaaaGreatDoor
namespace V
theorem infoP:(prog.info? 57).map (fun i=>(i.zero,i.size,i.bytes))=some (some (.agg #[.int .u8 0,.bool false,.bool false,.string ⟨#[]⟩,.string ⟨#[]⟩,.slice none 0 0]),6,72):=by kernel_rfl
theorem vL.form {w:World} {m:Bool} {lo hi:Nat} {l:List Pt} {v:Value} (h:vL w m lo hi l v):∃ a cap,v=.slice a l.length cap:=by
 cases h with
 | nil _ _ _=>exact⟨none,0,rfl⟩
 | row _ _ _ g cap=>exact⟨_,cap,rfl⟩
theorem aFp (w:World) (cs:Array Value) (T:TypeId) (hn:cs.size=6):∀ j u,cs.toList[j]?=some u→(w.alloc (.cells cs T)).cell? ((⟨w.heap.size,0,none⟩:Addr).add j)=some u:=by
 intro j u hj;have e2:(⟨w.heap.size,0,none⟩:Addr).add j=⟨w.heap.size,j,none⟩:=by unfold Addr.add;split<;>simp_all
 rw[e2];have:=cell_of_row (w.alloc (.cells cs T)) w.heap.size j cs T (0,0) (heap_alloc_new w _);rw[this,← hj,Array.getElem?_toList]
theorem Same.setCell {lo hi b c:Nat} {w:World} {u:Value} (h:b<lo):Same lo hi w (w.setCell ⟨b,c,none⟩ u):=fun k h1 _=>Below.heap_setCell _ _ _ _ (by simp;omega)
theorem aYw {b:ByteArray} (h:b.toList.isEmpty=true):b=⟨#[]⟩:=bBu (by rw[List.isEmpty_iff.1 h,Lib.toList_data])
theorem vM (y:Bool) (w:World):Calls prog 283 #[.agg #[.bool y]] w fun e w'=>e=.returned (.agg #[.int .u8 1,.bool y,.bool false,.string ⟨#[]⟩,.string ⟨#[]⟩,.slice none 0 0])∧Below w.heap.size w w':=by
 go_enter func283,ntmps283;go_wp2_with fail;exact bodyPost_ret (v:=.agg #[.int .u8 1,.bool y,.bool false,.string ⟨#[]⟩,.string ⟨#[]⟩,.slice none 0 0]) (by simp[results,Tryz.results283,go_sem]) rfl ⟨rfl,(zr.alloc lr _).alloc (by simp) _⟩
theorem canon {p:Pt} (h:aL p=true):(p.kind≠1→p.yes=false)∧(p.kind≠2→p.neg=false∧p.mag=⟨#[]⟩)∧(p.kind≠7→p.items=[])∧(p.kind=0∨p.kind=1∨p.kind=2∨p.kind=7→p.raw=⟨#[]⟩):=by
 have h1:=bE h;unfold fB at h1;simp only [Bool.and_eq_true] at h1;obtain⟨⟨⟨⟨_,h2⟩,h3⟩,h4⟩,h5⟩:=h1;refine⟨fun k=>?_,fun k=>?_,fun k=>?_,fun k=>?_⟩
 · simpa[k] using h2
 · have:p.neg=false∧p.mag.toList=[]:=by simpa[k] using h3
   exact⟨this.1,aYw (by rw[this.2];rfl)⟩
 · have:(p.kind==7)=false:=by simpa using k
   rw[this,Bool.false_or,List.isEmpty_iff] at h4;exact h4
 · refine aYw ?_;rcases k with k | k | k | k<;>simp[k] at h5 ⊢
   · exact h5
   · exact h5
   · exact h5.1
   · exact h5.1
end V
namespace Sc
open V (Same Pt VI aL bE fT dX cK bJ iK fE fU gY dV bS jE fA vM)
open We (Co gL lF bT)
open D (Dm Wf)
open Ta (Tm)
def nQ (l:List UInt8) (w:World) (e:Ending) (w':World):Prop:=e=.returned (.string ⟨l.toArray⟩)∧Below w.heap.size w w'
theorem aTt (f:Fd) (y:Bool) (a:Option Addr) (n c:Nat) (t:Addr) (w:World):Calls prog 102 #[.pointer (some t),.agg (aR f (.slice a n c)).toArray,.iface 148 (.agg #[.bool y])] w (nQ [if y then 1 else 0] w):=by
 rw[aT];have t1:=fT (.agg #[.bool y]);have t2:=fU (.agg #[.bool y]);have t3:=iK (.agg #[.bool y]);have m1:∀ w:World,(method 512 148 (.agg #[.bool y]) "Part").run prog w=.ok (283,.agg #[.bool y]) w:=fun _=>by kernel_rfl
 have HP:=zh (fun w=>vM y w);have hfd:∀ (y:Bool) (w:World),(Instr.field 57 (.agg #[.int .u8 1,.bool y,.bool false,.string ⟨#[]⟩,.string ⟨#[]⟩,.slice none 0 0]) 1).run prog w=.ok (.bool y) w:=fun _ _=>by kernel_rfl
 cases y;all_goals
  go_enter func102,ntmps102;go_wp2_with (go_at_call 283;refine(HP.out _).mono ?_;rintro e w1 ⟨rfl,hb1⟩;have HB:=zh ((zr.alloc lr _).trans (hb1.mono (by simp))));go_ret;exact⟨rfl,HB.out⟩
theorem aTu (f:Fd) (b:Bool) (m:ByteArray) (hb:iJ b m.toList=0) (a:Option Addr) (n c:Nat) (t:Addr) (w:World):Calls prog 102 #[.pointer (some t),.agg (aR f (.slice a n c)).toArray,.iface 220 (.agg #[.bool b,.string m])] w (nQ (bM b m.toList) w):=by
 rw[aT];have t1:=dX (.agg #[.bool b,.string m]);have m1:∀ w:World,(method 512 220 (.agg #[.bool b,.string m]) "Num").run prog w=.ok (301,.agg #[.bool b,.string m]) w:=fun _=>by kernel_rfl
 have HP:=zh (fun w=>bGu b m w hb);go_enter func102,ntmps102;go_wp2_with (first
  | (go_at_call 301;refine(jE b m _).mono ?_;rintro e w1 ⟨rfl,hb1⟩;have HB:=zh ((zr.alloc lr _).trans (hb1.mono (by simp))))
  | (go_at_call 127;refine(HP.out _).mono ?_;rintro e w2 ⟨p,rfl,hp,hb2⟩;have HB2:=zh (HB.out.trans (hb2.mono HB.out.size))))
 go_ret;refine⟨?_,HB2.out⟩;rw[← hp.out,kI];rfl
theorem bDf (f:Fd) (k:Nat) (r:ByteArray) (L:List UInt8) (a:Option Addr) (n c:Nat) (t:Addr) (w:World) (HR:∀ w':World,Below w.heap.size w w'→Calls prog 128 #[.pointer (some t),.agg (aR f (.slice a n c)).toArray,.string r] w' fun e w''=>e=.returned (.string ⟨L.toArray⟩)∧Below w'.heap.size w' w'') :
 Calls prog 102 #[.pointer (some t),.agg (aR f (.slice a n c)).toArray,.iface 222 (.agg #[.int .u8 k,.string r])] w (nQ L w):=by
 rw[aT] at HR ⊢;have t1:=cK (.agg #[.int .u8 k,.string r]);have t2:=dV (.agg #[.int .u8 k,.string r]);have t3:=fE (.agg #[.int .u8 k,.string r]);have m1:∀ w:World,(method 512 222 (.agg #[.int .u8 k,.string r]) "Bytes").run prog w=.ok (303,.agg #[.int .u8 k,.string r]) w:=fun _=>by kernel_rfl
 have HR2:=zh HR;clear HR;go_enter func102,ntmps102;go_wp2_with fail;generalize hW:w.alloc (.cells _ 79)=w2;have hBW:Below w.heap.size w w2:=by rw[← hW];exact zr.alloc lr _
 have k0:w2.cell? ⟨w.heap.size,0,none⟩=some (.string f.name):=by rw[← hW,aA];rfl
 have k1:w2.cell? ⟨w.heap.size,1,none⟩=some (.int .u8 f.kind):=by rw[← hW,aA];rfl
 have k2:w2.cell? ⟨w.heap.size,2,none⟩=some (.bool f.down):=by rw[← hW,aA];rfl
 have k3:w2.cell? ⟨w.heap.size,3,none⟩=some (.int .u8 f.aI):=by rw[← hW,aA];rfl
 have k4:w2.cell? ⟨w.heap.size,4,none⟩=some (.bool f.bnd):=by rw[← hW,aA];rfl
 have k5:w2.cell? ⟨w.heap.size,5,none⟩=some (.bool f.eX):=by rw[← hW,aA];rfl
 have k6:w2.cell? ⟨w.heap.size,6,none⟩=some (.string f.eG):=by rw[← hW,aA];rfl
 have k7:w2.cell? ⟨w.heap.size,7,none⟩=some (.bool f.hib):=by rw[← hW,aA];rfl
 have k8:w2.cell? ⟨w.heap.size,8,none⟩=some (.string f.him):=by rw[← hW,aA];rfl
 have k9:w2.cell? ⟨w.heap.size,9,none⟩=some (.int .i64 f.most):=by rw[← hW,aA];rfl
 have k10:w2.cell? ⟨w.heap.size,10,none⟩=some (.int .i64 f.co.str):=by rw[← hW,aA];rfl
 have k11:w2.cell? ⟨w.heap.size,11,none⟩=some (.bool f.co.sh):=by rw[← hW,aA];rfl
 have k12:w2.cell? ⟨w.heap.size,12,none⟩=some (.bool f.co.back):=by rw[← hW,aA];rfl
 have k13:w2.cell? ⟨w.heap.size,13,none⟩=some (.slice a n c):=by rw[← hW,aA];rfl
 have mX:=zh hBW;clear hW hBW;have hbd:Below w2.heap.size w2 w2.drew:=(Below.refl w2.heap.size w2).drew;go_region_held3 (fun w'=>w'.cell? ⟨w.heap.size,0,none⟩=some (.string f.name)∧w'.cell? ⟨w.heap.size,1,none⟩=some (.int .u8 f.kind)∧w'.cell? ⟨w.heap.size,2,none⟩=some (.bool f.down)∧w'.cell? ⟨w.heap.size,3,none⟩=some (.int .u8 f.aI)∧w'.cell? ⟨w.heap.size,4,none⟩=some (.bool f.bnd)∧w'.cell? ⟨w.heap.size,5,none⟩=some (.bool f.eX)∧w'.cell? ⟨w.heap.size,6,none⟩=some (.string f.eG)∧w'.cell? ⟨w.heap.size,7,none⟩=some (.bool f.hib)∧w'.cell? ⟨w.heap.size,8,none⟩=some (.string f.him)∧w'.cell? ⟨w.heap.size,9,none⟩=some (.int .i64 f.most)∧w'.cell? ⟨w.heap.size,10,none⟩=some (.int .i64 f.co.str)∧w'.cell? ⟨w.heap.size,11,none⟩=some (.bool f.co.sh)∧w'.cell? ⟨w.heap.size,12,none⟩=some (.bool f.co.back)∧w'.cell? ⟨w.heap.size,13,none⟩=some (.slice a n c)∧Below w2.heap.size w2 w') (go_keep) (first
  | (go_at_call 303;refine(fA k r _).mono ?_;rintro e w9 ⟨rfl,aB⟩;have k0:=V.keeps aB (p:=⟨w.heap.size,0,none⟩) (v:=.string f.name) (by assumption);have k1:=V.keeps aB (p:=⟨w.heap.size,1,none⟩) (v:=.int .u8 f.kind) (by assumption);have k2:=V.keeps aB (p:=⟨w.heap.size,2,none⟩) (v:=.bool f.down) (by assumption);have k3:=V.keeps aB (p:=⟨w.heap.size,3,none⟩) (v:=.int .u8 f.aI) (by assumption);have k4:=V.keeps aB (p:=⟨w.heap.size,4,none⟩) (v:=.bool f.bnd) (by assumption);have k5:=V.keeps aB (p:=⟨w.heap.size,5,none⟩) (v:=.bool f.eX) (by assumption);have k6:=V.keeps aB (p:=⟨w.heap.size,6,none⟩) (v:=.string f.eG) (by assumption);have k7:=V.keeps aB (p:=⟨w.heap.size,7,none⟩) (v:=.bool f.hib) (by assumption);have k8:=V.keeps aB (p:=⟨w.heap.size,8,none⟩) (v:=.string f.him) (by assumption);have k9:=V.keeps aB (p:=⟨w.heap.size,9,none⟩) (v:=.int .i64 f.most) (by assumption);have k10:=V.keeps aB (p:=⟨w.heap.size,10,none⟩) (v:=.int .i64 f.co.str) (by assumption);have k11:=V.keeps aB (p:=⟨w.heap.size,11,none⟩) (v:=.bool f.co.sh) (by assumption);have k12:=V.keeps aB (p:=⟨w.heap.size,12,none⟩) (v:=.bool f.co.back) (by assumption);have k13:=V.keeps aB (p:=⟨w.heap.size,13,none⟩) (v:=.slice a n c) (by assumption);have kb:=V.two (a:=_) (by assumption) aB)
  | (go_at_call 128;have hcur:=(show Below w2.heap.size w2 _ from by assumption);refine(HR2.out _ (mX.out.trans (hcur.mono mX.out.size))).mono ?_;rintro e w9 ⟨rfl,aB⟩;have k0:=V.keeps aB (p:=⟨w.heap.size,0,none⟩) (v:=.string f.name) (by assumption);have k1:=V.keeps aB (p:=⟨w.heap.size,1,none⟩) (v:=.int .u8 f.kind) (by assumption);have k2:=V.keeps aB (p:=⟨w.heap.size,2,none⟩) (v:=.bool f.down) (by assumption);have k3:=V.keeps aB (p:=⟨w.heap.size,3,none⟩) (v:=.int .u8 f.aI) (by assumption);have k4:=V.keeps aB (p:=⟨w.heap.size,4,none⟩) (v:=.bool f.bnd) (by assumption);have k5:=V.keeps aB (p:=⟨w.heap.size,5,none⟩) (v:=.bool f.eX) (by assumption);have k6:=V.keeps aB (p:=⟨w.heap.size,6,none⟩) (v:=.string f.eG) (by assumption);have k7:=V.keeps aB (p:=⟨w.heap.size,7,none⟩) (v:=.bool f.hib) (by assumption);have k8:=V.keeps aB (p:=⟨w.heap.size,8,none⟩) (v:=.string f.him) (by assumption);have k9:=V.keeps aB (p:=⟨w.heap.size,9,none⟩) (v:=.int .i64 f.most) (by assumption);have k10:=V.keeps aB (p:=⟨w.heap.size,10,none⟩) (v:=.int .i64 f.co.str) (by assumption);have k11:=V.keeps aB (p:=⟨w.heap.size,11,none⟩) (v:=.bool f.co.sh) (by assumption);have k12:=V.keeps aB (p:=⟨w.heap.size,12,none⟩) (v:=.bool f.co.back) (by assumption);have k13:=V.keeps aB (p:=⟨w.heap.size,13,none⟩) (v:=.slice a n c) (by assumption);have kb:=V.two (a:=_) (by assumption) aB))
 have HB9:=zh (mX.out.trans (kb.mono mX.out.size));clear kb hbd;go_wp2_with fail;go_ret;exact⟨rfl,HB9.out⟩
open V (Same Pt VI aL bE bJ bS oN)
def bEx (K:Co→ByteArray→List UInt8) (Tb:World→Prop) (t:Addr) (g:Fd):Prop:=jY g→cntF g≤64→∀ (a:Option Addr) (c:Nat) (q:Pt) (v:Value) (w:World),aL q=true→mQ g q=true→Tb w→VI w 0 w.heap.size q v→FI w 0 w.heap.size g.fields (.slice a g.fields.length c) →
 Calls prog 77 #[.pointer (some t),.agg (aR g (.slice a g.fields.length c)).toArray,v] w (nQ (qX K g q) w)
theorem aFq {K:Co→ByteArray→List UInt8} {F:List Fd} {l:List Pt} {j:Nat} (h:j<F.length) (h2:j<l.length):iW K (F.drop j) (l.drop j)=qX K F[j] l[j]++iW K (F.drop (j+1)) (l.drop (j+1)):=by
 rw[List.drop_eq_getElem_cons h,List.drop_eq_getElem_cons h2,tH];rfl
theorem aCo (a b:ByteArray):(a++b).toList=a.toList++b.toList:=by rw[Lib.toList_data,Lib.toList_data,Lib.toList_data];simp
theorem aTv (K:Co→ByteArray→List UInt8) (hK:aCg K) (Tb:World→Prop) (hTb:∀ w w',Tb w→Below w.heap.size w w'→Tb w') (t:Addr) (f:Fd) (d:Nat) (fK:jY f) (hcnt:cntF f≤64) (hin:∀ g∈f.fields,xL d g) (p:Pt) (b:Option Addr) (cap:Nat) (a:Option Addr) (c:Nat) (w:World) (hmay:aL p=true) (hk:p.kind=7) (hil:p.items.length≤1024)
 (hlen:p.items.length=f.fields.length) (hfit:kH f.fields p.items=true) (IH:∀ g∈f.fields,bEx K Tb t g) (htb:Tb w)
 (hv:VI w 0 w.heap.size p (.iface 118 (.agg #[.slice b p.items.length cap]))) (hfi:FI w 0 w.heap.size f.fields (.slice a f.fields.length c)) :
 Calls prog 102 #[.pointer (some t),.agg (aR f (.slice a f.fields.length c)).toArray,.iface 118 (.agg #[.slice b p.items.length cap])] w (nQ (iW K f.fields p.items++[1]) w):=by
 have HV:=zh hv;have uK:=zh hfi;have HIH:=zh IH;have HTB:=zh htb;have HIN:=zh hin;have hfl:=fK.l;rw[aHl] at hcnt;obtain⟨F,hF⟩:∃ F,f.fields=F:=⟨_,rfl⟩
 obtain⟨il,hm⟩:∃ m,F.length=m:=⟨_,rfl⟩
 rw[hF] at HIH uK HIN hfl hlen hfit hcnt ⊢;rw[hm] at uK hfl hlen ⊢;rw[hlen] at HV hil ⊢;have htot:(iW K F p.items).length≤uL F*700000000:=aCh (K:=K) F (fun g hg q h1 h2=>sG hK g d (HIN.out g hg) q h1 h2) p.items (by omega) hfit (fun q hq=>V.dW hmay hq);have aKv:(iW K F p.items).length≤64*700000000:=Nat.le_trans htot (Nat.mul_le_mul_right _ (by omega));rw[aT];have bDg:=zh (show uL F≤64 by omega);have bGv:=zh aKv;have HHF:=zh hfit;have HLEN:=zh hlen;have HM:=zh hm;clear hv hfi IH fK hF htb hcnt htot aKv hfit hlen hm hin;have t1:=bJ (.agg #[.slice b il cap]);have t2:=bS (.agg #[.slice b il cap]);have mA:∀ w:World,(method 512 118 (.agg #[.slice b il cap]) "At").run prog w=.ok (277,.agg #[.slice b il cap]) w:=fun _=>by kernel_rfl
 go_enter func102,ntmps102;go_wp2_with fail;go_loopw [11,32] (fun sv iv wr=>∃ (j:Nat) (s:ByteArray),j≤il∧iv=.int .i64 (j:Int)∧sv=.string s∧Below w.heap.size w wr∧Hid (iW K F p.items=s.toList++iW K (F.drop j) (p.items.drop j))∧Hid (kH (F.drop j) (p.items.drop j)=true)) (fun _ iv _=>il-(intOf iv).toNat)
 case atStart=>exact⟨0,_,Nat.zero_le _,rfl,rfl,zr.alloc lr _,zh (by rw[Lib.toList_data];rfl),zh HHF.out⟩
 case round =>
  obtain⟨j,s,hj,rfl,rfl,hB,henc,aYx⟩:=hrel;have hss:s.size≤64*700000000:=by
   have h1:=bGv.out;rw[henc.out,List.length_append,V.aD] at h1;omega
  by_cases hlt:j<il
  · have q2:decide ((j:Int)<(il:Int))=true:=decide_eq_true (by omega);have hfi:=bA uK.out hB;obtain⟨a',c',he,hc,hpl⟩:=hfi.open;injection he with e1 e2 e3
    subst e1 e3;have hjF:j<F.length:=by omega
    have hjp:j<p.items.length:=by rw[HLEN.out];omega
    obtain⟨bb,off,u,rfl,_,hbh,hcl,fK,hsub⟩:=hpl j hjF;obtain⟨k0,k1,k2,k3,k4,k5,k6,k7,k8,k9,k10,k11,k12,k13⟩:=hcl.all;obtain⟨au,cu,rfl,hsc,hso⟩:=hsub.open;obtain⟨gi,ui,rfl,_,hci,oW⟩:=aHm (aX HV.out hB) hk j hjp;have hmq:=V.dW hmay (List.getElem_mem hjp);have hgm:=List.getElem_mem hjF;have hIH:=HIH.out F[j] hgm;have hfd:=zB hjF hjp;have hed:=aFq (K:=K) hjF hjp;have hct:=aCf hgm;have hog:=HIN.out F[j] hgm;obtain⟨g,hg⟩:∃ g,F[j]=g:=⟨_,rfl⟩
    obtain⟨q,hq⟩:∃ q,p.items[j]=q:=⟨_,rfl⟩
    rw[hg] at k0 k1 k2 k3 k4 k5 k6 k7 k8 k9 k10 k11 k12 fK hsub hIH hfd hed hct hog k13;rw[hq] at oW hmq hfd hed;rw[aYx.out] at hfd;have aCp:=hfd.symm;rw[Bool.and_eq_true] at aCp;have hgl:=sG hK g d hog q aCp.1 hmq;have aHr:(qX K g q).length≤64*700000000:=Nat.le_trans hgl (Nat.mul_le_mul_right _ (Nat.le_trans hct bDg.out));have HP:=zh (fun w' (hb:Below w.heap.size w w') hvv bGw=>hIH fK (Nat.le_trans hct bDg.out) au cu q ui w' hmq aCp.1 (hTb w w' HTB.out hb) hvv bGw);obtain⟨eg,heg⟩:∃ eg,qX K g q=eg:=⟨_,rfl⟩
    rw[heg] at HP hed aHr;have HED:=zh hed;have yX:=zh hsub;have HVI:=zh oW;have HB3:=zh hB;have pV:=zh aCp.2;have hcc:il≤c:=by have:=HM.out;omega
    have hc1:(9223372036854775807<s.size+eg.length)=False:=by simp;omega
    clear hfi hpl hcl hsub oW hmq hIH hfd hg hq fK hB hsc hso e2 hc hjF hjp hgm hed hct hog aCp hgl aHr heg hss;go_wp2_with fail;generalize hW:wr.alloc (.cells _ 79)=w2;have hBW:Below wr.heap.size wr w2:=by rw[← hW];exact zr.alloc lr _
    replace hci:=V.keeps hBW hci;clear k0 k1 k2 k3 k4 k5 k6 k7 k8 k9 k10 k11 k12 k13;have k0:w2.cell? ⟨wr.heap.size,0,none⟩=some (.string g.name):=by rw[← hW,aA];rfl
    have k1:w2.cell? ⟨wr.heap.size,1,none⟩=some (.int .u8 g.kind):=by rw[← hW,aA];rfl
    have k2:w2.cell? ⟨wr.heap.size,2,none⟩=some (.bool g.down):=by rw[← hW,aA];rfl
    have k3:w2.cell? ⟨wr.heap.size,3,none⟩=some (.int .u8 g.aI):=by rw[← hW,aA];rfl
    have k4:w2.cell? ⟨wr.heap.size,4,none⟩=some (.bool g.bnd):=by rw[← hW,aA];rfl
    have k5:w2.cell? ⟨wr.heap.size,5,none⟩=some (.bool g.eX):=by rw[← hW,aA];rfl
    have k6:w2.cell? ⟨wr.heap.size,6,none⟩=some (.string g.eG):=by rw[← hW,aA];rfl
    have k7:w2.cell? ⟨wr.heap.size,7,none⟩=some (.bool g.hib):=by rw[← hW,aA];rfl
    have k8:w2.cell? ⟨wr.heap.size,8,none⟩=some (.string g.him):=by rw[← hW,aA];rfl
    have k9:w2.cell? ⟨wr.heap.size,9,none⟩=some (.int .i64 g.most):=by rw[← hW,aA];rfl
    have k10:w2.cell? ⟨wr.heap.size,10,none⟩=some (.int .i64 g.co.str):=by rw[← hW,aA];rfl
    have k11:w2.cell? ⟨wr.heap.size,11,none⟩=some (.bool g.co.sh):=by rw[← hW,aA];rfl
    have k12:w2.cell? ⟨wr.heap.size,12,none⟩=some (.bool g.co.back):=by rw[← hW,aA];rfl
    have k13:w2.cell? ⟨wr.heap.size,13,none⟩=some (.slice au g.fields.length cu):=by rw[← hW,aA];rfl
    have mX:=zh hBW;clear hW hBW;have hbd:Below w2.heap.size w2 w2.drew:=(Below.refl w2.heap.size w2).drew;go_region_held3 (fun w'=>w'.cell? ⟨wr.heap.size,0,none⟩=some (.string g.name)∧w'.cell? ⟨wr.heap.size,1,none⟩=some (.int .u8 g.kind)∧w'.cell? ⟨wr.heap.size,2,none⟩=some (.bool g.down)∧w'.cell? ⟨wr.heap.size,3,none⟩=some (.int .u8 g.aI)∧w'.cell? ⟨wr.heap.size,4,none⟩=some (.bool g.bnd)∧w'.cell? ⟨wr.heap.size,5,none⟩=some (.bool g.eX)∧w'.cell? ⟨wr.heap.size,6,none⟩=some (.string g.eG)∧w'.cell? ⟨wr.heap.size,7,none⟩=some (.bool g.hib)∧w'.cell? ⟨wr.heap.size,8,none⟩=some (.string g.him)∧w'.cell? ⟨wr.heap.size,9,none⟩=some (.int .i64 g.most)∧w'.cell? ⟨wr.heap.size,10,none⟩=some (.int .i64 g.co.str)∧w'.cell? ⟨wr.heap.size,11,none⟩=some (.bool g.co.sh)∧w'.cell? ⟨wr.heap.size,12,none⟩=some (.bool g.co.back)∧w'.cell? ⟨wr.heap.size,13,none⟩=some (.slice au g.fields.length cu)∧w'.cell? ⟨gi,j,none⟩=some (ui)∧Below w2.heap.size w2 w') (go_keep) (first
     | (go_at_call 277;refine(oN gi il cap j ui _ (by omega) (by omega) (by assumption)).mono ?_;rintro e w9 ⟨rfl,aB⟩;have k0:=V.keeps aB (p:=⟨wr.heap.size,0,none⟩) (v:=.string g.name) (by assumption);have k1:=V.keeps aB (p:=⟨wr.heap.size,1,none⟩) (v:=.int .u8 g.kind) (by assumption);have k2:=V.keeps aB (p:=⟨wr.heap.size,2,none⟩) (v:=.bool g.down) (by assumption);have k3:=V.keeps aB (p:=⟨wr.heap.size,3,none⟩) (v:=.int .u8 g.aI) (by assumption);have k4:=V.keeps aB (p:=⟨wr.heap.size,4,none⟩) (v:=.bool g.bnd) (by assumption);have k5:=V.keeps aB (p:=⟨wr.heap.size,5,none⟩) (v:=.bool g.eX) (by assumption);have k6:=V.keeps aB (p:=⟨wr.heap.size,6,none⟩) (v:=.string g.eG) (by assumption);have k7:=V.keeps aB (p:=⟨wr.heap.size,7,none⟩) (v:=.bool g.hib) (by assumption);have k8:=V.keeps aB (p:=⟨wr.heap.size,8,none⟩) (v:=.string g.him) (by assumption);have k9:=V.keeps aB (p:=⟨wr.heap.size,9,none⟩) (v:=.int .i64 g.most) (by assumption);have k10:=V.keeps aB (p:=⟨wr.heap.size,10,none⟩) (v:=.int .i64 g.co.str) (by assumption);have k11:=V.keeps aB (p:=⟨wr.heap.size,11,none⟩) (v:=.bool g.co.sh) (by assumption);have k12:=V.keeps aB (p:=⟨wr.heap.size,12,none⟩) (v:=.bool g.co.back) (by assumption);have k13:=V.keeps aB (p:=⟨wr.heap.size,13,none⟩) (v:=.slice au g.fields.length cu) (by assumption);have k14:=V.keeps aB (p:=⟨gi,j,none⟩) (v:=ui) (by assumption);have kb:=V.two (a:=_) (by assumption) aB)
     | (go_at_call 77;have hcur:=(show Below w2.heap.size w2 _ from by assumption);refine(HP.out _ (HB3.out.trans ((mX.out.trans (hcur.mono mX.out.size)).mono HB3.out.size)) (aX HVI.out (mX.out.trans (hcur.mono mX.out.size))) (bA yX.out (mX.out.trans (hcur.mono mX.out.size)))).mono ?_;rintro e w9 ⟨rfl,aB⟩;have k0:=V.keeps aB (p:=⟨wr.heap.size,0,none⟩) (v:=.string g.name) (by assumption);have k1:=V.keeps aB (p:=⟨wr.heap.size,1,none⟩) (v:=.int .u8 g.kind) (by assumption);have k2:=V.keeps aB (p:=⟨wr.heap.size,2,none⟩) (v:=.bool g.down) (by assumption);have k3:=V.keeps aB (p:=⟨wr.heap.size,3,none⟩) (v:=.int .u8 g.aI) (by assumption);have k4:=V.keeps aB (p:=⟨wr.heap.size,4,none⟩) (v:=.bool g.bnd) (by assumption);have k5:=V.keeps aB (p:=⟨wr.heap.size,5,none⟩) (v:=.bool g.eX) (by assumption);have k6:=V.keeps aB (p:=⟨wr.heap.size,6,none⟩) (v:=.string g.eG) (by assumption);have k7:=V.keeps aB (p:=⟨wr.heap.size,7,none⟩) (v:=.bool g.hib) (by assumption);have k8:=V.keeps aB (p:=⟨wr.heap.size,8,none⟩) (v:=.string g.him) (by assumption);have k9:=V.keeps aB (p:=⟨wr.heap.size,9,none⟩) (v:=.int .i64 g.most) (by assumption);have k10:=V.keeps aB (p:=⟨wr.heap.size,10,none⟩) (v:=.int .i64 g.co.str) (by assumption);have k11:=V.keeps aB (p:=⟨wr.heap.size,11,none⟩) (v:=.bool g.co.sh) (by assumption);have k12:=V.keeps aB (p:=⟨wr.heap.size,12,none⟩) (v:=.bool g.co.back) (by assumption);have k13:=V.keeps aB (p:=⟨wr.heap.size,13,none⟩) (v:=.slice au g.fields.length cu) (by assumption);have k14:=V.keeps aB (p:=⟨gi,j,none⟩) (v:=ui) (by assumption);have kb:=V.two (a:=_) (by assumption) aB))
    have dJ:=zh (HB3.out.trans ((mX.out.trans (kb.mono mX.out.size)).mono HB3.out.size));clear kb hbd;go_wp2_with fail;exact⟨⟨j+1,_,by omega,by simp,rfl,dJ.out,zh (by rw[henc.out,HED.out,aCo,toList_mk eg,List.append_assoc]),zh pV.out⟩,by simp[intOf];omega⟩
  · have q2:decide ((j:Int)<(il:Int))=false:=decide_eq_false (by omega);have HE:=zh (show iW K F p.items=s.toList by rw[henc.out,List.drop_of_length_le (show F.length≤j by rw[HM.out];omega),rW,List.append_nil]);have hc1:(9223372036854775807<s.size+1)=False:=by simp;omega
    have hcv:∀ (W:World) (B:Nat),W.cell? ⟨B,0,none⟩=some (.int .u8 1)→(convert 99 9 (.slice (some ⟨B,0,none⟩) 1 1)).run prog W=.ok (.string ⟨#[1]⟩) W:=fun W B h =>
     run_convert_bytes_back (P:=prog) W 99 9 5 ⟨B,0,none⟩ 1 [1] underlying99 underlying5 underlying9 (fun j hj=>by
      obtain rfl:j=0:=by simp at hj;omega
      simpa[Addr.add] using h)
    have lJ:=zh hB;clear hB hss;go_wp2_with fail;go_ret;refine⟨?_,lJ.out.alloc lJ.out.size _⟩;refine congrArg (fun s=>Ending.returned (.string s)) (ba_eq ?_);have h1:=aCo s ⟨#[1]⟩;rw[Lib.toList_data] at h1;rw[h1,HE.out,Lib.toList_data ⟨#[1]⟩]
