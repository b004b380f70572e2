import Derived.Test.YtcgnajeenflfaaaGreatDoorP31
set_option maxRecDepth 100000
set_option maxHeartbeats 4000000
set_option linter.all false
open Go.Proofs.Tryz Go.RowKit
namespace Go.Proofs.YtcgnajeenflfaaaGreatDoor
namespace Sc
open V (Same Pt VI aL bE oN)
open We (Co gL lF bT)
open D (Dm Wf)
open Ta (Tm)
theorem bGx (s:ByteArray):Lib.strCells s=bv s.toList:=by
 unfold Lib.strCells bv;rw[Lib.toList_data]
theorem jU {P:Program} {ops:Array Oper} {rest:List Oper} {o:Oper} {a:Act} {Q:Exit→Act→World→Prop} {W w:World} (hgd:o.guard=none) (s x:Operand) (t u:TypeId)
 (ho:o.op=.call { callee:=.builtin .append,args:=#[s,x],argTypes:=#[t,u] })
 (ht:P.underlying t=some (.slice 5)) (hu:P.underlying u=some .string) (hinfo:(P.info? 5).map (fun i=>(i.zero,i.size,i.bytes))=some (some (.int .u8 0),1,1))
 {base:Nat} {v:Value} {l:List UInt8} (hs:a.eval s=v) (hown:cO w base v l)
 (m:ByteArray) (hx:a.eval x=.string m)
 (hlen:l.length+m.size≤140737488355328) (hB:Below base W w) (hbase:base≤w.heap.size)
 (h:∀ v' w',cO w' base v' (l++m.toList)→Below base W w'→base≤w'.heap.size→wpList P ops Q rest (a.put o.dst v') w'):wpList P ops Q (o::rest) a w:=by
 obtain⟨i0,hi,hz0,hz1,hz2⟩:=info_parts hinfo;refine Lib.wpList_append_own_string w hgd s x t u ho base 5 i0 ht hu hi hz0 hz1 hz2 v l.length (bv l) hs hown m hx (by unfold maxLen;omega) (by omega) hbase ?_;intro v' w' ho' hg _;refine h v' w' ?_ (hB.grown hg hbase fun k hk=>(World.ownsRow.lt hown k hk).1) (Nat.le_trans hbase hg.size);unfold cO;rw[bGx,xP] at ho';rw[List.length_append,V.aD];exact ho'
theorem aKx {D:Dm} (wf:Wf D) {T:Tm} (wt:lF T) (t:Addr) (lim:Int) (F:List Fd) (hok:rT lim F=true) (p:Pt) (b:Option Addr) (cap:Nat) (a:Option Addr) (c:Nat) (w:World) (hmay:aL p=true) (hfit:aEa F p=true) (htb:Tb D T t w)
 (hv:VI w 0 w.heap.size p (.iface 118 (.agg #[.slice b p.items.length cap]))) (hfi:FI w 0 w.heap.size F (.slice a F.length c)) :
 Calls prog 26 #[.pointer (some t),.agg #[.int .i64 lim,.slice a F.length c],.iface 118 (.agg #[.slice b p.items.length cap])] w fun e w'=>e=.returned (.tuple #[.string ⟨(iW (bT D T) F p.items).toArray⟩,.nilIface])∧Below w.heap.size w w':=by
 obtain⟨K,hKK⟩:∃ K,bT D T=K:=⟨_,rfl⟩
 have hK:aCg K:=by rw[← hKK];exact aOl wf wt
 simp only [aEa,Bool.and_eq_true,beq_iff_eq] at hfit;obtain⟨⟨hk,hlen⟩,hfit⟩:=hfit;obtain⟨_,_,_,bRo,ho⟩:=lQ hok;have hcnt:=aRe hok;have HV:=zh hv;have uK:=zh hfi;have HTB:=zh htb;have HOK:=zh hok;have HPT:=zh (fun (g:Fd) (hg:g∈F) (fK:jY g)=>by have:=bDj wf wt t g fK;rw[hKK,aQq hok hg] at this;exact this);obtain⟨il,hm⟩:∃ m,F.length=m:=⟨_,rfl⟩
 rw[hm] at uK hlen bRo ⊢;rw[hlen] at HV ⊢;rw[hKK];have htot:(iW K F p.items).length≤uL F*700000000:=aCh (K:=K) F (fun g hg q h1 h2=>sG hK g 0 (ho g hg) q h1 h2) p.items (by omega) hfit (fun q hq=>V.dW hmay hq);have aKv:(iW K F p.items).length≤64*700000000:=Nat.le_trans htot (Nat.mul_le_mul_right _ (by omega));have HO:=zh ho;have bDg:=zh hcnt;have bGv:=zh aKv;have HHF:=zh hfit;have HLEN:=zh hlen;have HM:=zh hm;clear hv hfi hok htb hcnt htot aKv hfit hlen hm ho hKK;have ta:∀ w:World,(Instr.typeAssert (.iface 118 (.agg #[.slice b il cap])) 34 84 false).run prog w=.ok (.iface 118 (.agg #[.slice b il cap])) w:=fun _=>by kernel_rfl
 have mA:∀ w:World,(method 512 118 (.agg #[.slice b il cap]) "At").run prog w=.ok (277,.agg #[.slice b il cap]) w:=fun _=>by kernel_rfl
 go_enter func26,ntmps26;go_wp2_with fail;go_loopw [9,19] (fun sv iv wr=>∃ (j:Nat) (l:List UInt8),j≤il∧iv=.int .i64 (j:Int)∧cO wr w.heap.size sv l∧Below w.heap.size w wr∧Hid (iW K F p.items=l++iW K (F.drop j) (p.items.drop j))∧Hid (kH (F.drop j) (p.items.drop j)=true)) (fun _ iv _=>il-(intOf iv).toNat)
 case atStart=>exact⟨0,[],Nat.zero_le _,rfl,cO.nil _ _,zr.alloc lr _,zh rfl,zh HHF.out⟩
 case round =>
  obtain⟨j,l,hj,rfl,hO,hB,henc,aYx⟩:=hrel;have hss:l.length≤64*700000000:=by
   have h1:=bGv.out;rw[henc.out,List.length_append] at h1;omega
  by_cases hlt:j<il
  · have q2:decide ((j:Int)<(il:Int))=true:=decide_eq_true (by omega);have hfi:=bA uK.out hB;obtain⟨a',c',he,hc,hpl⟩:=hfi.open;injection he with e1 e2 e3
    subst e1 e3;have hjF:j<F.length:=by omega
    have hjp:j<p.items.length:=by rw[HLEN.out];omega
    obtain⟨bb,off,u,rfl,_,hbh,hcl,fK,hsub⟩:=hpl j hjF;obtain⟨k0,k1,k2,k3,k4,k5,k6,k7,k8,k9,k10,k11,k12,k13⟩:=hcl.all;obtain⟨au,cu,rfl,hsc,hso⟩:=hsub.open;obtain⟨gi,ui,rfl,_,hci,oW⟩:=aHm (aX HV.out hB) hk j hjp;have hmq:=V.dW hmay (List.getElem_mem hjp);have hgm:=List.getElem_mem hjF;have hPT:=HPT.out F[j] hgm fK;have hfd:=zB hjF hjp;have hed:=aFq (K:=K) hjF hjp;have hct:=aCf hgm;have hog:=HO.out F[j] hgm;obtain⟨g,hg⟩:∃ g,F[j]=g:=⟨_,rfl⟩
    obtain⟨q,hq⟩:∃ q,p.items[j]=q:=⟨_,rfl⟩
    rw[hg] at k0 k1 k2 k3 k4 k5 k6 k7 k8 k9 k10 k11 k12 fK hsub hPT hfd hed hct hog k13;rw[hq] at oW hmq hfd hed;rw[aYx.out] at hfd;have aCp:=hfd.symm;rw[Bool.and_eq_true] at aCp;have hgl:=sG hK g 0 hog q aCp.1 hmq;have aHr:(qX K g q).length≤64*700000000:=Nat.le_trans hgl (Nat.mul_le_mul_right _ (Nat.le_trans hct bDg.out));have HP:=zh (fun w' (hb:Below w.heap.size w w') hvv bGw=>by have:=hPT au cu q ui w' hmq (bV HTB.out hb) hvv bGw;rw[aCp.1] at this;exact this);obtain⟨eg,heg⟩:∃ eg,qX K g q=eg:=⟨_,rfl⟩
    rw[heg] at HP hed aHr;have HED:=zh hed;have yX:=zh hsub;have HVI:=zh oW;have HB3:=zh hB;have zR:=zh hO;have pV:=zh aCp.2;have hcc:il≤c:=by have:=HM.out;omega
    have HHL:=zh (show l.length+(⟨eg.toArray⟩:ByteArray).size≤140737488355328 by rw[size_mk];omega);clear hfi hpl hcl hsub oW hmq hPT hfd hg hq fK hB hsc hso e2 hc hjF hjp hgm hed hct hog aCp hgl aHr heg hss hO;go_wp2_with fail;generalize hW:wr.alloc (.cells _ 79)=w2;have hBW:Below wr.heap.size wr w2:=by rw[← hW];exact zr.alloc lr _
    replace hci:=V.keeps hBW hci;clear k0 k1 k2 k3 k4 k5 k6 k7 k8 k9 k10 k11 k12 k13;have k0:w2.cell? ⟨wr.heap.size,0,none⟩=some (.string g.name):=by rw[← hW,aA];rfl
    have k1:w2.cell? ⟨wr.heap.size,1,none⟩=some (.int .u8 g.kind):=by rw[← hW,aA];rfl
    have k2:w2.cell? ⟨wr.heap.size,2,none⟩=some (.bool g.down):=by rw[← hW,aA];rfl
    have k3:w2.cell? ⟨wr.heap.size,3,none⟩=some (.int .u8 g.aI):=by rw[← hW,aA];rfl
    have k4:w2.cell? ⟨wr.heap.size,4,none⟩=some (.bool g.bnd):=by rw[← hW,aA];rfl
    have k5:w2.cell? ⟨wr.heap.size,5,none⟩=some (.bool g.eX):=by rw[← hW,aA];rfl
    have k6:w2.cell? ⟨wr.heap.size,6,none⟩=some (.string g.eG):=by rw[← hW,aA];rfl
    have k7:w2.cell? ⟨wr.heap.size,7,none⟩=some (.bool g.hib):=by rw[← hW,aA];rfl
    have k8:w2.cell? ⟨wr.heap.size,8,none⟩=some (.string g.him):=by rw[← hW,aA];rfl
    have k9:w2.cell? ⟨wr.heap.size,9,none⟩=some (.int .i64 g.most):=by rw[← hW,aA];rfl
    have k10:w2.cell? ⟨wr.heap.size,10,none⟩=some (.int .i64 g.co.str):=by rw[← hW,aA];rfl
    have k11:w2.cell? ⟨wr.heap.size,11,none⟩=some (.bool g.co.sh):=by rw[← hW,aA];rfl
    have k12:w2.cell? ⟨wr.heap.size,12,none⟩=some (.bool g.co.back):=by rw[← hW,aA];rfl
    have k13:w2.cell? ⟨wr.heap.size,13,none⟩=some (.slice au g.fields.length cu):=by rw[← hW,aA];rfl
    have mX:=zh hBW;clear hW hBW;have hbd:Below w2.heap.size w2 w2.drew:=(Below.refl w2.heap.size w2).drew;go_region_held3 (fun w'=>w'.cell? ⟨wr.heap.size,0,none⟩=some (.string g.name)∧w'.cell? ⟨wr.heap.size,1,none⟩=some (.int .u8 g.kind)∧w'.cell? ⟨wr.heap.size,2,none⟩=some (.bool g.down)∧w'.cell? ⟨wr.heap.size,3,none⟩=some (.int .u8 g.aI)∧w'.cell? ⟨wr.heap.size,4,none⟩=some (.bool g.bnd)∧w'.cell? ⟨wr.heap.size,5,none⟩=some (.bool g.eX)∧w'.cell? ⟨wr.heap.size,6,none⟩=some (.string g.eG)∧w'.cell? ⟨wr.heap.size,7,none⟩=some (.bool g.hib)∧w'.cell? ⟨wr.heap.size,8,none⟩=some (.string g.him)∧w'.cell? ⟨wr.heap.size,9,none⟩=some (.int .i64 g.most)∧w'.cell? ⟨wr.heap.size,10,none⟩=some (.int .i64 g.co.str)∧w'.cell? ⟨wr.heap.size,11,none⟩=some (.bool g.co.sh)∧w'.cell? ⟨wr.heap.size,12,none⟩=some (.bool g.co.back)∧w'.cell? ⟨wr.heap.size,13,none⟩=some (.slice au g.fields.length cu)∧w'.cell? ⟨gi,j,none⟩=some (ui)∧Below w2.heap.size w2 w') (go_keep) (first
     | (go_at_call 277;refine(oN gi il cap j ui _ (by omega) (by omega) (by assumption)).mono ?_;rintro e w9 ⟨rfl,aB⟩;have k0:=V.keeps aB (p:=⟨wr.heap.size,0,none⟩) (v:=.string g.name) (by assumption);have k1:=V.keeps aB (p:=⟨wr.heap.size,1,none⟩) (v:=.int .u8 g.kind) (by assumption);have k2:=V.keeps aB (p:=⟨wr.heap.size,2,none⟩) (v:=.bool g.down) (by assumption);have k3:=V.keeps aB (p:=⟨wr.heap.size,3,none⟩) (v:=.int .u8 g.aI) (by assumption);have k4:=V.keeps aB (p:=⟨wr.heap.size,4,none⟩) (v:=.bool g.bnd) (by assumption);have k5:=V.keeps aB (p:=⟨wr.heap.size,5,none⟩) (v:=.bool g.eX) (by assumption);have k6:=V.keeps aB (p:=⟨wr.heap.size,6,none⟩) (v:=.string g.eG) (by assumption);have k7:=V.keeps aB (p:=⟨wr.heap.size,7,none⟩) (v:=.bool g.hib) (by assumption);have k8:=V.keeps aB (p:=⟨wr.heap.size,8,none⟩) (v:=.string g.him) (by assumption);have k9:=V.keeps aB (p:=⟨wr.heap.size,9,none⟩) (v:=.int .i64 g.most) (by assumption);have k10:=V.keeps aB (p:=⟨wr.heap.size,10,none⟩) (v:=.int .i64 g.co.str) (by assumption);have k11:=V.keeps aB (p:=⟨wr.heap.size,11,none⟩) (v:=.bool g.co.sh) (by assumption);have k12:=V.keeps aB (p:=⟨wr.heap.size,12,none⟩) (v:=.bool g.co.back) (by assumption);have k13:=V.keeps aB (p:=⟨wr.heap.size,13,none⟩) (v:=.slice au g.fields.length cu) (by assumption);have k14:=V.keeps aB (p:=⟨gi,j,none⟩) (v:=ui) (by assumption);have kb:=V.two (a:=_) (by assumption) aB)
     | (go_at_call 47;have hcur:=(show Below w2.heap.size w2 _ from by assumption);refine(HP.out _ (HB3.out.trans ((mX.out.trans (hcur.mono mX.out.size)).mono HB3.out.size)) (aX HVI.out (mX.out.trans (hcur.mono mX.out.size))) (bA yX.out (mX.out.trans (hcur.mono mX.out.size)))).mono ?_;rintro e w9 ⟨rfl,aB⟩;have k0:=V.keeps aB (p:=⟨wr.heap.size,0,none⟩) (v:=.string g.name) (by assumption);have k1:=V.keeps aB (p:=⟨wr.heap.size,1,none⟩) (v:=.int .u8 g.kind) (by assumption);have k2:=V.keeps aB (p:=⟨wr.heap.size,2,none⟩) (v:=.bool g.down) (by assumption);have k3:=V.keeps aB (p:=⟨wr.heap.size,3,none⟩) (v:=.int .u8 g.aI) (by assumption);have k4:=V.keeps aB (p:=⟨wr.heap.size,4,none⟩) (v:=.bool g.bnd) (by assumption);have k5:=V.keeps aB (p:=⟨wr.heap.size,5,none⟩) (v:=.bool g.eX) (by assumption);have k6:=V.keeps aB (p:=⟨wr.heap.size,6,none⟩) (v:=.string g.eG) (by assumption);have k7:=V.keeps aB (p:=⟨wr.heap.size,7,none⟩) (v:=.bool g.hib) (by assumption);have k8:=V.keeps aB (p:=⟨wr.heap.size,8,none⟩) (v:=.string g.him) (by assumption);have k9:=V.keeps aB (p:=⟨wr.heap.size,9,none⟩) (v:=.int .i64 g.most) (by assumption);have k10:=V.keeps aB (p:=⟨wr.heap.size,10,none⟩) (v:=.int .i64 g.co.str) (by assumption);have k11:=V.keeps aB (p:=⟨wr.heap.size,11,none⟩) (v:=.bool g.co.sh) (by assumption);have k12:=V.keeps aB (p:=⟨wr.heap.size,12,none⟩) (v:=.bool g.co.back) (by assumption);have k13:=V.keeps aB (p:=⟨wr.heap.size,13,none⟩) (v:=.slice au g.fields.length cu) (by assumption);have k14:=V.keeps aB (p:=⟨gi,j,none⟩) (v:=ui) (by assumption);have kb:=V.two (a:=_) (by assumption) aB))
    have HBX:=zh (mX.out.trans (kb.mono mX.out.size));have dJ:=zh (HB3.out.trans (HBX.out.mono HB3.out.size));have HO4:=zh (zR.out.below HBX.out);clear kb hbd;go_wp2_with (at_builtin;refine jU rfl (.tmp 36) (.tmp 37) 99 9 rfl underlying99 underlying9 We.mW rfl HO4.out ⟨eg.toArray⟩ rfl HHL.out dJ.out dJ.out.size ?_;intro v5 w5 qZ hB5 hs5);exact⟨⟨j+1,_,by omega,by simp,qZ,hB5,zh (by rw[henc.out,HED.out,toList_mk eg,List.append_assoc]),zh pV.out⟩,by simp[intOf];omega⟩
  · have q2:decide ((j:Int)<(il:Int))=false:=decide_eq_false (by omega);have HE:=zh (show iW K F p.items=l by rw[henc.out,List.drop_of_length_le (show F.length≤j by rw[HM.out];omega),rW,List.append_nil]);have hcv:=hO.conv 99 9 underlying99 underlying5 underlying9;have lJ:=zh hB;clear hB hss;go_wp2_with fail;refine bodyPost_ret (v:=.tuple #[.string ⟨l.toArray⟩,.nilIface]) (by simp[results,Tryz.f26]) rfl ?_;exact⟨by rw[HE.out],lJ.out⟩
theorem f2 {w:World} {g:Nat} {t:TypeId} {v0 v1:Value} (h:aC w g t #[v0,v1]):w.cell? ⟨g,0,none⟩=some v0∧w.cell? ⟨g,1,none⟩=some v1:=⟨h.cell 0,h.cell 1⟩
theorem qV (lim:Int) (F:List Fd) (a:Option Addr) (c:Nat) (t:Addr) (w:World) (hl:F.length≤140737488351232) (hfi:FI w 0 w.heap.size F (.slice a F.length c)) :
 Calls prog 21 #[.pointer (some t),.agg #[.int .i64 lim,.slice a F.length c]] w (dO (rT lim F) w):=by
 have HS:=zh (fun o=>qH lim F a c (w.alloc o) hl (bA hfi (zr.alloc lr o)));obtain⟨X,hX⟩:∃ X,rT lim F=X:=⟨_,rfl⟩
 obtain⟨m,hm⟩:∃ m,F.length=m:=⟨_,rfl⟩
 rw[hX,hm] at HS;rw[hX,hm];clear hX hm hfi hl;cases X with
 | true =>
  go_enter func21,ntmps21;go_wp2_with (go_at_call 27;refine(HS.out _).mono ?_;intro e w1 he;obtain⟨rfl,hb1⟩:=he.yes;have HB:=zh ((zr.alloc lr _).trans (hb1.mono (by simp))));go_ret;exact dO.ok HB.out
 | false =>
  go_enter func21,ntmps21;go_wp2_with (go_at_call 27;refine(HS.out _).mono ?_;intro e w1 he;obtain⟨⟨fb,rfl⟩,hb1⟩:=he.no;have HB:=zh ((zr.alloc lr _).trans (hb1.mono (by simp))));go_ret;exact dO.new rfl HB.out (.inr ⟨_,_,rfl⟩)
def tX (r:Option (List UInt8)) (w:World) (e:Ending) (w':World):Prop :=
 (match r with
  | some l=>e=.returned (.tuple #[.string ⟨l.toArray⟩,.nilIface])
  | none=>∃ fb:Nat,e=.returned (.tuple #[.string ⟨#[]⟩,.iface 39 (.pointer (some ⟨fb,0,none⟩))]))∧Below w.heap.size w w'
theorem aZb {w:World} {lo hi:Nat} {p:Pt} {v:Value} (h:VI w lo hi p v) (hk:p.kind=7):∃ b cap,v=.iface 118 (.agg #[.slice b p.items.length cap]):=by
 cases h with
 | null _ h=>omega
 | truth _ h=>omega
 | whole _ h=>omega
 | row _ _ _ _ h=>omega
 | tuple _ h a cap F hc cells deep=>exact⟨a,cap,rfl⟩
theorem kK {D:Dm} (wf:Wf D) {T:Tm} (wt:lF T) (t:Addr) (lim:Int) (F:List Fd) (p:Pt) (v:Value) (a:Option Addr) (c:Nat) (w:World) (hl:F.length≤140737488351232) (hmay:aL p=true) (htb:Tb D T t w)
 (hv:VI w 0 w.heap.size p v) (hfi:FI w 0 w.heap.size F (.slice a F.length c)) :
 Calls prog 9 #[.pointer (some t),.agg #[.int .i64 lim,.slice a F.length c],v] w (tX (encS (bT D T) lim F p) w):=by
 have hvs:v=.nilIface∨∃ T V,v=.iface T V:=by
  by_cases h0:p.kind=0
  · exact .inl (hv.mP h0)
  · obtain⟨T,V,_,h,_⟩:=hv.kindOf h0;exact .inr ⟨T,V,h⟩
 have HR:=zh (fun (w':World) (hb:Below w.heap.size w w')=>qV lim F a c t w' hl (bA hfi hb));have HC:=zh (fun (w':World) (hb:Below w.heap.size w w')=>aHn lim F a c p v w' hl hmay (aX hv hb) (bA hfi hb));cases hok:rT lim F with
 | false =>
  rw[show encS (bT D T) lim F p=none by unfold encS;rw[hok];rfl];rw[hok] at HR;obtain⟨m,hm⟩:∃ m,F.length=m:=⟨_,rfl⟩
  rw[hm] at HR ⊢;clear hv hfi hok hl hmay hm htb HC;rcases hvs with rfl | ⟨U,V,rfl⟩
  all_goals
   go_enter func9,ntmps9;go_wp2_with (go_at_call 21;refine(HR.out _ (zr.alloc lr _)).mono ?_;intro e w1 he;obtain⟨fb,⟨_,rfl,_⟩,hb1⟩:=he.no;have HB:=zh ((zr.alloc lr _).trans (hb1.mono (by simp))));refine bodyPost_ret (v:=.tuple #[.string ⟨#[]⟩,.iface 39 (.pointer (some ⟨fb,0,none⟩))]) (by simp[results,Tryz.f9]) rfl ?_;exact⟨⟨fb,rfl⟩,HB.out⟩
 | true =>
  rw[hok] at HR;rw[hok,Bool.true_and] at HC;cases hfs:aEa F p with
  | false =>
   rw[show encS (bT D T) lim F p=none by unfold encS;rw[hfs,Bool.and_false];rfl];rw[hfs] at HC;obtain⟨m,hm⟩:∃ m,F.length=m:=⟨_,rfl⟩
   rw[hm] at HR HC ⊢;clear hv hfi hok hl hmay hm htb hfs;rcases hvs with rfl | ⟨U,V,rfl⟩
   all_goals
    go_enter func9,ntmps9;go_wp2_with (first
     | (go_at_call 21;refine(HR.out _ (zr.alloc lr _)).mono ?_;intro e w1 he;obtain⟨rfl,hb1⟩:=he.yes;have HB:=zh ((zr.alloc lr _).trans (hb1.mono (by simp)));obtain⟨c0,c1⟩:=f2 (aC.below (aC.new w 26 #[.int .i64 lim,.slice a m c]) hb1 (by simp)))
     | (go_at_call 10;refine(HC.out _ HB.out).mono ?_;intro e w2 he2;obtain⟨fb,⟨_,rfl,_⟩,hb2⟩:=he2.no;have HB2:=zh (HB.out.trans (hb2.mono HB.out.size))))
    refine bodyPost_ret (v:=.tuple #[.string ⟨#[]⟩,.iface 39 (.pointer (some ⟨fb,0,none⟩))]) (by simp[results,Tryz.f9]) rfl ?_;exact⟨⟨fb,rfl⟩,HB2.out⟩
  | true =>
   have hk7:p.kind=7:=by
    unfold aEa at hfs;simp only [Bool.and_eq_true,beq_iff_eq] at hfs;exact hfs.1.1
   obtain⟨b,cap,rfl⟩:=aZb hv hk7;have HP:=zh (fun (w':World) (hb:Below w.heap.size w w')=>aKx wf wt t lim F hok p b cap a c w' hmay hfs (bV htb hb) (aX hv hb) (bA hfi hb));have henc:encS (bT D T) lim F p=if decide (((iW (bT D T) F p.items).length:Int)≤lim) then some (iW (bT D T) F p.items) else none:=by
    unfold encS;rw[hok,hfs];rfl
   rw[henc];rw[hfs] at HC;obtain⟨E,hE⟩:∃ E,iW (bT D T) F p.items=E:=⟨_,rfl⟩
   rw[hE] at HP ⊢;obtain⟨m,hm⟩:∃ m,F.length=m:=⟨_,rfl⟩
   obtain⟨il,hil⟩:∃ m,p.items.length=m:=⟨_,rfl⟩
   rw[hm] at HR HC HP ⊢;rw[hil] at HC HP ⊢;clear hv hfi hok hl hmay hm htb hfs hE henc hil hk7 hvs;by_cases hlt:lim<(E.length:Int)
   · rw[decide_eq_false (show ¬ (E.length:Int)≤lim by omega),if_neg (by decide)];have q1:decide (lim<(E.length:Int))=true:=decide_eq_true hlt;go_enter func9,ntmps9;go_wp2_with (first
      | (go_at_call 21;refine(HR.out _ (zr.alloc lr _)).mono ?_;intro e w1 he;obtain⟨rfl,hb1⟩:=he.yes;have HB:=zh ((zr.alloc lr _).trans (hb1.mono (by simp)));have nO:=zh (aC.below (aC.new w 26 #[.int .i64 lim,.slice a m c]) hb1 (by simp));obtain⟨c0,c1⟩:=f2 nO.out)
      | (go_at_call 10;refine(HC.out _ HB.out).mono ?_;intro e w2 he2;obtain⟨rfl,hb2⟩:=he2.yes;have HB2:=zh (HB.out.trans (hb2.mono HB.out.size));have HBG:=zh (aC.below nO.out hb2 nO.out.lt);obtain⟨d0,d1⟩:=f2 HBG.out)
      | (go_at_call 26;refine(HP.out _ HB2.out).mono ?_;rintro e w3 ⟨rfl,hb3⟩;have HB3:=zh (HB2.out.trans (hb3.mono HB2.out.size));obtain⟨e0,e1⟩:=f2 (aC.below HBG.out hb3 HBG.out.lt)))
     refine bodyPost_ret (v:=.tuple #[.string ⟨#[]⟩,.iface 39 (.pointer (some ⟨w3.heap.size,0,none⟩))]) (by simp[results,Tryz.f9]) rfl ?_;exact⟨⟨_,rfl⟩,HB3.out.alloc HB3.out.size _⟩
   · rw[decide_eq_true (show (E.length:Int)≤lim by omega),if_pos rfl];have q1:decide (lim<(E.length:Int))=false:=decide_eq_false hlt;have hle:(E.length:Int)≤lim:=by omega
     clear hlt;go_enter func9,ntmps9;go_wp2_with (first
      | (go_at_call 21;refine(HR.out _ (zr.alloc lr _)).mono ?_;intro e w1 he;obtain⟨rfl,hb1⟩:=he.yes;have HB:=zh ((zr.alloc lr _).trans (hb1.mono (by simp)));have nO:=zh (aC.below (aC.new w 26 #[.int .i64 lim,.slice a m c]) hb1 (by simp));obtain⟨c0,c1⟩:=f2 nO.out)
      | (go_at_call 10;refine(HC.out _ HB.out).mono ?_;intro e w2 he2;obtain⟨rfl,hb2⟩:=he2.yes;have HB2:=zh (HB.out.trans (hb2.mono HB.out.size));have HBG:=zh (aC.below nO.out hb2 nO.out.lt);obtain⟨d0,d1⟩:=f2 HBG.out)
      | (go_at_call 26;refine(HP.out _ HB2.out).mono ?_;rintro e w3 ⟨rfl,hb3⟩;have HB3:=zh (HB2.out.trans (hb3.mono HB2.out.size));obtain⟨e0,e1⟩:=f2 (aC.below HBG.out hb3 HBG.out.lt)))
     refine bodyPost_ret (v:=.tuple #[.string ⟨E.toArray⟩,.nilIface]) (by simp[results,Tryz.f9]) rfl ?_;exact⟨rfl,HB3.out⟩
