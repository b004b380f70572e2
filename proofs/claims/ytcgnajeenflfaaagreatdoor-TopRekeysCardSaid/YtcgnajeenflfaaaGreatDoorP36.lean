import Derived.Lib.AppendIntMem
import Derived.Test.YtcgnajeenflfaaaGreatDoorP18
import Derived.Test.YtcgnajeenflfaaaGreatDoorP35
set_option maxRecDepth 100000
set_option maxHeartbeats 4000000
set_option linter.all false
open Go.Proofs.Tryz Go.RowKit
namespace Go.Proofs.YtcgnajeenflfaaaGreatDoor
namespace V
def pT (l:List Pt):Pt:=.mk 7 false false ⟨#[]⟩ ⟨#[]⟩ l
def ofE (l:List Pt):Int:=if 1024<l.length then 2 else if dH 16 (pT l) then 91 else 0
theorem zF (l:List Pt):(1024<l.length∧ofE l=2)∨(¬ 1024<l.length∧dH 16 (pT l)=true∧ofE l=91)∨(¬ 1024<l.length∧dH 16 (pT l)=false∧ofE l=0):=by
 unfold ofE;by_cases h:1024<l.length
 · exact .inl ⟨h,if_pos h⟩
 · rw[if_neg h];cases hd:dH 16 (pT l) with
   | true=>exact .inr (.inl ⟨h,rfl,rfl⟩)
   | false=>exact .inr (.inr ⟨h,rfl,rfl⟩)
theorem aRm {l:List Pt}:dH 16 (pT l)=true↔∃ q∈l,16≤aW q:=by
 rw[sV,fO];show 16<(if (7:Nat)=7 then cZ l+1 else 0)↔_
 rw[if_pos rfl];constructor
 · intro h;have h2:¬ ∀ q∈l,aW q≤15:=fun h3=>by have:=(kC l 15).2 h3;omega
   simp only [Classical.not_forall,Nat.not_le] at h2;obtain⟨q,hq,hd⟩:=h2;exact⟨q,hq,hd⟩
 · rintro ⟨q,hq,hd⟩;have:=qI hq;omega
end V
namespace Lo
open D (aF)
open Ta (bL kW aMz aJm)
structure GLd (w:World):Prop where
 len:∃ m,w.cell? ⟨2,0,none⟩=some (.int .i64 m)
 errs:aBs w
 bru:aAq w
 pow:Lib.TabIs prog w "internal/strconv.uint64pow10" .u64 Lib.pow10Tab
theorem aUe:prog.globalNamed "internal/strconv.uint64pow10" = some 7:=by kernel_rfl
theorem GLd.later {w w':World} (h:GLd w) (hb:Below w.heap.size w w'):GLd w' where
 len:=by obtain⟨m,hm⟩:=h.len;exact⟨m,(hb.cell (p:=⟨2,0,none⟩) (World.block_lt_of_cell? _ _ hm)).trans hm⟩
 errs:=h.errs.later hb
 bru:=h.bru.later hb
 pow:=var?_below hb aUe (by have:10<w.heap.size:=World.block_lt_of_cell? _ _ h.bru;omega) h.pow
theorem pI (c:UInt8) (s:ByteArray) (hs:s.size≤1048576) (w:World) (hg:GLd w):Calls prog 59 #[.string s,.string ⟨#[c]⟩] w fun e w' =>
 e=.returned (.slice (some ⟨w.heap.size,0,none⟩) (bL c s).length (bL c s).length)∧aC w' w.heap.size 9 ((bL c s).map Value.string).toArray∧Below w.heap.size w w':=by
 obtain⟨m,hm⟩:=hg.len;refine(Tryz.strings_Split s ⟨#[c]⟩ m w (by omega) hm (Nat.le_refl 1)).mono ?_;rintro e w' ⟨rfl,rfl⟩;rw[kW];exact⟨rfl,aC.new _ _ _,zr.alloc lr _⟩
theorem bDm (s:ByteArray) (hs:s.size≤1048576) (w:World) (hg:GLd w):Calls prog 91 #[.string s,.string ⟨#[59]⟩] w fun e w' =>
 ∃ b,e=.returned (.tuple #[.string (aMz s),.string (aJm s),.bool b])∧Below w.heap.size w w':=by
 obtain⟨m,hm⟩:=hg.len;refine(Tryz.strings_Cut s ⟨#[59]⟩ m w (by omega) hm).mono ?_;rintro e w' ⟨rfl,n,rfl⟩;exact⟨_,rfl,⟨rfl,by simp[World.drewN],rfl,Nat.le_refl _,fun _ _=>rfl⟩⟩
def aZj (e:Ending):Prop:=∃ (a:Int) (v:Value),e=.returned (.tuple #[.int .i64 a,v])∧(v=.nilIface∨∃ T V,v=.iface T V)
theorem aZk (s:ByteArray) (hs:s.size≤1048576) (w:World) (hg:GLd w):Calls prog 88 #[.string s] w fun e w'=>aZj e∧Below w.heap.size w w':=by
 obtain⟨⟨e1,a1,b1⟩,e2,a2,b2⟩:=hg.errs;cases h:Lib.atoiAll s.data.toList
 · rename_i v
   refine(Tryz.strconv_Atoi_ok s (by omega) v h w).mono ?_;rintro e w' ⟨rfl,rfl | ⟨t,rfl⟩⟩
   · exact⟨⟨v,_,rfl,.inl rfl⟩,zr⟩
   · exact⟨⟨v,_,rfl,.inl rfl⟩,Lib.bytesWorld_below _ _ _⟩
 · refine(Any.strconv_Atoi_syntax Tryz.laysC172 s (by omega) h e1 w a1 b1).mono ?_;rintro e w' ⟨N,rfl,_,_,hb⟩;exact⟨⟨_,_,rfl,.inr ⟨_,_,rfl⟩⟩,hb⟩
 · refine(Tryz.strconv_Atoi_range s (by omega) h e2 w a2 b2).mono ?_;rintro e w' ⟨N,rfl,_,_,hb⟩;exact⟨⟨_,_,rfl,.inr ⟨_,_,rfl⟩⟩,hb⟩
theorem aZl (n:Int) (h0:0≤n) (h1:n≤1000) (w:World) (hg:GLd w):Calls prog 89 #[.int .i64 n] w fun e w'=>∃ p:ByteArray,e=.returned (.string p)∧Below w.heap.size w w':=by
 refine(Tryz.strconv_Itoa n (by omega) (by omega) w hg.pow).mono ?_;rintro e w' ⟨rfl,k,os,rfl⟩;exact⟨_,rfl,Lib.below_grow _ w lr k os⟩
end Lo
namespace Sc
open V (Same Pt VI aL bE)
theorem aHt {c:UInt8} (h:c=255∨c=1):eH [c]=none:=by simp[eH,h]
theorem aCu {c:UInt8} (h:c=255∨c=1) (n:UInt8) (r:List UInt8):eH (c::n::r)=some (2+(if c=1 then 255-n.toNat else n.toNat)):=by simp[eH,h]
theorem vO {c:UInt8} (h:¬ (c=255∨c=1)) (r:List UInt8):eH (c::r)=some (1+(if 128≤c.toNat then c.toNat-128 else if 1<c.toNat then 128-c.toNat else 0)):=by simp only [eH,if_neg h]
def sJ (f:Fd) (rb:Nat) (tv:Value) (b:ByteArray) (tn:Bool) (pv:Value) (L:List UInt8) (w:World) (e:Ending) (w':World):Prop :=
 (match rdNum f L with
  | some (p,l)=>e=.returned (.agg #[.bool p.neg,.string p.mag])∧∃ a,a≤b.size∧l=aK b a tn∧gB w' rb tv b a tn pv
  | none=>Fails b.size w e w')∧Xv (· = rb) w w'
theorem sJ.no {f:Fd} {rb:Nat} {tv:Value} {b:ByteArray} {tn:Bool} {pv:Value} {L:List UInt8} {w w':World} {e:Ending} (h:rdNum f L=none) (h2:Fails b.size w e w') (h3:Xv (· = rb) w w'):sJ f rb tv b tn pv L w e w':=by
 unfold sJ;rw[h];exact⟨h2,h3⟩
theorem sJ.yes {f:Fd} {rb:Nat} {tv:Value} {b:ByteArray} {tn:Bool} {pv:Value} {L l m:List UInt8} {n:Bool} {p:ByteArray} {a:Nat} {w w':World} (h:rdNum f L=some (.mk 2 false n ⟨m.toArray⟩ .empty [],l)) (hp:(⟨m.toArray⟩:ByteArray)=p) (hl:l=aK b a tn) (ha:a≤b.size)
 (hr:gB w' rb tv b a tn pv) (hx:Xv (· = rb) w w'):sJ f rb tv b tn pv L w (.returned (.agg #[.bool n,.string p])) w':=by
 unfold sJ;rw[h,hl];exact⟨⟨by rw[← hp];rfl,a,ha,rfl,hr⟩,hx⟩
theorem aCv {f:Fd} {L:List UInt8} (h:eH L=none):rdNum f L=none:=by unfold rdNum;rw[h]
theorem iY (rb:Nat) (tv:Value) (b:ByteArray) (a:Nat) (tn:Bool) (pv:Value) (w:World) (hb:b.size≤4194304) (hr:gB w rb tv b a tn pv) (h:a<b.size) :
 Calls prog 66 #[.pointer (some ⟨rb,0,none⟩),.int .i64 1] w fun e w'=>∃ p:ByteArray,e=.returned (.string p)∧(∃ h:0<p.size,p[0]=fl tn b[a])∧Hid (p.toList=[fl tn b[a]])∧gB w' rb tv b (a+1) tn pv∧Xv (· = rb) w w':=by
 refine(aCt rb tv b a 1 tn pv w hb hr (by omega)).mono fun e w' h2=>?_
 unfold bZ at h2;rw[if_pos (by omega),dP tn h] at h2;exact⟨⟨#[fl tn b[a]]⟩,h2.1,⟨Nat.zero_lt_one,rfl⟩,zh (by rw[Lib.toList_data]),h2.2⟩
theorem vP (b:ByteArray) (a k:Nat) (tn:Bool):(aK b a tn).drop k=aK b (a+k) tn:=by
 unfold aK flips;rw[← List.map_drop,List.drop_drop]
theorem aZm (f:Fd) {L:List UInt8} {n:Nat} (h:eH L=some n) (hn:n≤L.length):rdNum f L=match jZ (L.take n) 0 with
 | .error _=>none
 | .ok (b,m,k)=>if k=n∧rX f b m=true then some (.mk 2 false b ⟨m.toArray⟩ .empty [],L.drop n) else none:=by
 unfold rdNum;simp only [h];rw[if_neg (by omega)];cases jZ (L.take n) 0<;>rfl
theorem aLd (f:Fd) {L:List UInt8} {n:Nat} (h:eH L=some n) (hn:L.length<n):rdNum f L=none:=by
 unfold rdNum;simp only [h];rw[if_pos hn]
theorem Fails.to {m k:Nat} {w w':World} {e:Ending} (h:Fails k w e w') (hk:k≤m):Fails m w e w':=by
 obtain⟨fb,c,a,pv,lp,why,h1,h2,h3,h4,h5,h6,h7⟩:=h;exact⟨fb,c,a,pv,lp,why,h1,h2,h3,h4,h5,⟨h6.1,Int.le_trans h6.2 (by omega)⟩,h7⟩
theorem gB.aLe {w w4:World} {rb a:Nat} {tv pv:Value} {b:ByteArray} {tn:Bool} (h:gB w rb tv b a tn pv) (hb:Below w.heap.size w w4) (o:Obj):gB (w4.alloc o) rb tv b a tn pv:=aC.below h (hb.alloc hb.size o) h.lt
theorem _root_.Go.Proofs.YtcgnajeenflfaaaGreatDoor.aH.aLe {w w4:World} {rb:Nat} {v:Value} {l:List Int} (h:aH w (· = rb) v l) (hb:Below w.heap.size w w4) (o:Obj):aH (w4.alloc o) (· = rb) v l :=
 h.keep (hb.alloc hb.size o).size (fun k hk _=>(hb.alloc hb.size o).block k hk) (fun _ _ e=>e)
theorem aOr (p q:ByteArray):(p++q).toList=p.toList++q.toList:=by simp[Lib.toList_data]
theorem aZn {p:ByteArray} {l:List UInt8} (h:p.toList=l) (i:Nat) (hi:i<l.length):∃ h:i<p.size,p[i]=l[i]:=by
 subst h;have h2:i<p.size:=by rw[← V.aD];exact hi
 refine⟨h2,?_⟩;simp only [Lib.toList_data];rfl
theorem aOs (f:Fd) (a0:Option Addr) (k c0:Nat) (rb:Nat) (tv:Value) (b:ByteArray) (at_:Nat) (tn:Bool) (pv:Value) (lp:List Int) (w:World) (hf:f.kind=2) (ho:yD f=false) (hb:b.size≤4194304) (hat:at_≤b.size) (hr:gB w rb tv b at_ tn pv) (hp:aH w (· = rb) pv lp) (hlp:lp.length≤17) :
 Calls prog 96 #[.pointer (some ⟨rb,0,none⟩),.agg (aR f (.slice a0 k c0)).toArray] w (sJ f rb tv b tn pv (aK b at_ tn) w):=by
 obtain⟨L,hL⟩:∃ L,aK b at_ tn=L:=⟨_,rfl⟩
 rw[hL];have HF:=zh (show f=f from rfl);obtain⟨nm,kd,dn,nu,bd,lb,lm,hib,hm,mo,⟨st,sh,bk⟩,fs⟩:=f;rw[dN];obtain⟨f,hfe⟩:∃ f,Fd.mk nm kd dn nu bd lb lm hib hm mo ⟨st,sh,bk⟩ fs=f:=⟨_,rfl⟩
 rw[hfe];have HFE:=zh hfe;rw[hfe] at hf ho;have hrl:=hr.lt;have hne1:rb≠w.heap.size:=by omega
 have hne2:rb≠w.heap.size+1:=by omega
 have HO:=zh ho;have HKF:=zh hf;generalize hW:(w.alloc (.cells #[.string nm,.int .u8 kd,.bool dn,.int .u8 nu,.bool bd,.bool lb,.string lm,.bool hib,.string hm,.int .i64 mo,.int .i64 st,.bool sh,.bool bk,.slice a0 k c0] 79)).alloc (.cells #[.bool false,.string ⟨#[]⟩] 54)=w0;clear hfe hf ho HF;subst hW;have hXA:Xv (· = rb) w ((w.alloc (.cells #[.string nm,.int .u8 kd,.bool dn,.int .u8 nu,.bool bd,.bool lb,.string lm,.bool hib,.string hm,.int .i64 mo,.int .i64 st,.bool sh,.bool bk,.slice a0 k c0] 79)).alloc (.cells #[.bool false,.string ⟨#[]⟩] 54)):=((Xv.refl _ _).alloc _).alloc _;have xC:=zh (show aC _ w.heap.size 79 _ from aC.below (aC.new w 79 #[.string nm,.int .u8 kd,.bool dn,.int .u8 nu,.bool bd,.bool lb,.string lm,.bool hib,.string hm,.int .i64 mo,.int .i64 st,.bool sh,.bool bk,.slice a0 k c0]) ((Below.refl _ (w.alloc (.cells #[.string nm,.int .u8 kd,.bool dn,.int .u8 nu,.bool bd,.bool lb,.string lm,.bool hib,.string hm,.int .i64 mo,.int .i64 st,.bool sh,.bool bk,.slice a0 k c0] 79))).alloc lr (.cells #[.bool false,.string ⟨#[]⟩] 54)) (by simp))
 have HRB:=zh (show aC ((w.alloc (.cells #[.string nm,.int .u8 kd,.bool dn,.int .u8 nu,.bool bd,.bool lb,.string lm,.bool hib,.string hm,.int .i64 mo,.int .i64 st,.bool sh,.bool bk,.slice a0 k c0] 79)).alloc (.cells #[.bool false,.string ⟨#[]⟩] 54)) (w.heap.size+1) 54 #[.bool false,.string ⟨#[]⟩] by simpa using aC.new (w.alloc (.cells #[.string nm,.int .u8 kd,.bool dn,.int .u8 nu,.bool bd,.bool lb,.string lm,.bool hib,.string hm,.int .i64 mo,.int .i64 st,.bool sh,.bool bk,.slice a0 k c0] 79)) 54 #[.bool false,.string ⟨#[]⟩]);have HXA:=zh hXA;have HR0:=zh (show gB _ rb tv b at_ tn pv from aC.below hr ((zr.alloc lr (.cells #[.string nm,.int .u8 kd,.bool dn,.int .u8 nu,.bool bd,.bool lb,.string lm,.bool hib,.string hm,.int .i64 mo,.int .i64 st,.bool sh,.bool bk,.slice a0 k c0] 79)).alloc (by simp) (.cells #[.bool false,.string ⟨#[]⟩] 54)) hrl);have HP0:=zh (hp.keep hXA.size (fun k hk hp=>hXA.block k hk hp) (fun _ _ e=>e));have c2:w.cell? ⟨rb,2,none⟩=some (.int .i64 (at_:Int)):=hr.cell 2;clear hr hp hXA;by_cases hlt:at_<b.size
 case neg =>
  have hRn:=zh (show rdNum f L=none from aCv (by rw[← hL,jJ tn (by omega)];rfl));have H1:=zh (kY rb tv b at_ tn pv lp _ hb HR0.out HP0.out hlp hat hlt);clear hL;go_enter func96,ntmps96;go_wp2_with fail;refine H1.out.mono ?_;rintro e w3 ⟨hf,hb3⟩;obtain⟨ch,rfl⟩:=hf.form;go_wp2_with fail;exact⟨rfl,.no hRn.out (hf.low HXA.out.size) (HXA.out.then hb3)⟩
 obtain⟨c,hc⟩:∃ c,fl tn b[at_]=c:=⟨_,rfl⟩
 have H1:=zh (iY rb tv b at_ tn pv _ hb HR0.out hlt);rw[hc] at H1;have HLC:=zh (show L=c::aK b (at_+1) tn by rw[← hL,dP tn hlt,hc]);have HLL:=zh (show L.length=b.size-at_ by rw[← hL,zD]);have HLB:=zh hL;clear hc hL;by_cases h2:c=255∨c=1
 case' pos =>
  by_cases hlt2:at_+1<b.size
  case neg =>
   have hRn:=zh (show rdNum f L=none from aCv (by rw[HLC.out,jJ tn (by omega),aHt h2]));rcases h2 with rfl | rfl
   all_goals
    go_enter func96,ntmps96;go_wp2_with fail;refine H1.out.mono ?_;rintro e w1 ⟨p1,rfl,⟨hp1,hpc⟩,sK,hr1,hx1⟩;have lW:=zh (HXA.out.trans hx1 (fun _ _ e=>e));have HF:=zh (kY rb tv b (at_+1) tn pv lp w1 hb hr1 (HP0.out.keep hx1.size (fun k hk hp=>hx1.block k hk hp) (fun _ _ e=>e)) hlp (by omega) hlt2);clear hr1 hx1;go_wp2_with fail;refine HF.out.mono ?_;rintro e w3 ⟨hf,hb3⟩;obtain⟨ch,rfl⟩:=hf.form;go_wp2_with fail;exact⟨rfl,.no hRn.out (hf.low lW.out.size) (lW.out.then hb3)⟩
  obtain⟨d,hd⟩:∃ d,fl tn b[at_+1]=d:=⟨_,rfl⟩
  have aUf:=zh (show aK b (at_+1) tn=d::aK b (at_+2) tn by rw[dP tn hlt2,hd]);rcases h2 with rfl | rfl
  case' inl =>
   have HLN:=zh (aCu (c:=255) (.inl rfl) d (aK b (at_+2) tn));go_enter func96,ntmps96;go_wp2_with fail;refine H1.out.mono ?_;rintro e w1 ⟨p1,rfl,⟨hp1,hpc⟩,sK,hr1,hx1⟩;have HP1:=zh (HP0.out.keep hx1.size (fun k hk hp=>hx1.block k hk hp) (fun _ _ e=>e));have H2:=zh (iY rb tv b (at_+1) tn pv w1 hb hr1 hlt2);rw[hd] at H2;have HY1:=zh hx1;clear hr1 hx1 hd;go_wp2_with fail;refine H2.out.mono ?_;rintro e w2 ⟨p2,rfl,⟨hp2,hpd⟩,qO,hr2,hx2⟩;have HY2:=zh (HY1.out.trans hx2 (fun _ _ e=>e));have xZ:=zh (HP1.out.keep hx2.size (fun k hk hp=>hx2.block k hk hp) (fun _ _ e=>e));have HR2:=zh (show gB w2 rb tv b (at_+2) tn pv from hr2);obtain⟨S,hS⟩:∃ S,p1++p2=S:=⟨_,rfl⟩
   have HSL:=zh (show S.toList=[255,d] by rw[← hS,aOr,sK.out,qO.out];rfl);have hsum:(9223372036854775807<p1.size+p2.size)=False:=by
    have z1:p1.size=1:=by rw[← V.aD,sK.out];rfl
    have z2:p2.size=1:=by rw[← V.aD,qO.out];rfl
    simp[z1,z2]
   obtain⟨hs1,hsd⟩:=aZn HSL.out 1 (by simp);replace hsd:S[1]=d:=hsd;have hwd:wrap64 (d.toNat:Int)=(d.toNat:Int):=by have:=d.toNat_lt;unfold wrap64;omega
   obtain⟨M,hM⟩:∃ M,d.toNat=M:=⟨_,rfl⟩
   have hM2:M≤255:=by have:=d.toNat_lt;omega
   have hwm:(d.toNat:Int)=(M:Int):=by rw[hM]
   replace HLN:=zh (show eH L=some (S.size+M) by rw[HLC.out,aUf.out,HLN.out,← V.aD,HSL.out,← hM];rfl);have HSP:=zh (show S.toList=L.take S.size by rw[← V.aD,HSL.out,HLC.out,aUf.out];rfl);have hsz:S.size=2:=by rw[← V.aD,HSL.out];rfl
   obtain⟨a,ha⟩:∃ a,at_+2=a:=⟨_,rfl⟩
   have hab:a≤b.size:=by omega
   have HAS:=zh (show a=at_+S.size by omega);rw[ha] at HR2;have HM:=zh hM;have HT:=zh (kL rb tv b a M tn pv lp w2 hb hab (by omega) HR2.out xZ.out hlp);clear hr2 hx2 sK qO hp1 hpc hp2 hpd hM hsz ha aUf HSL hlt2 H2;go_wp2_with fail
  case' inr =>
   have HLN:=zh (aCu (c:=1) (.inr rfl) d (aK b (at_+2) tn));go_enter func96,ntmps96;go_wp2_with fail;refine H1.out.mono ?_;rintro e w1 ⟨p1,rfl,⟨hp1,hpc⟩,sK,hr1,hx1⟩;have HP1:=zh (HP0.out.keep hx1.size (fun k hk hp=>hx1.block k hk hp) (fun _ _ e=>e));have H2:=zh (iY rb tv b (at_+1) tn pv w1 hb hr1 hlt2);rw[hd] at H2;have HY1:=zh hx1;clear hr1 hx1 hd;go_wp2_with fail;refine H2.out.mono ?_;rintro e w2 ⟨p2,rfl,⟨hp2,hpd⟩,qO,hr2,hx2⟩;have HY2:=zh (HY1.out.trans hx2 (fun _ _ e=>e));have xZ:=zh (HP1.out.keep hx2.size (fun k hk hp=>hx2.block k hk hp) (fun _ _ e=>e));have HR2:=zh (show gB w2 rb tv b (at_+2) tn pv from hr2);obtain⟨S,hS⟩:∃ S,p1++p2=S:=⟨_,rfl⟩
   have HSL:=zh (show S.toList=[1,d] by rw[← hS,aOr,sK.out,qO.out];rfl);have hsum:(9223372036854775807<p1.size+p2.size)=False:=by
    have z1:p1.size=1:=by rw[← V.aD,sK.out];rfl
    have z2:p2.size=1:=by rw[← V.aD,qO.out];rfl
    simp[z1,z2]
   obtain⟨hs1,hsd⟩:=aZn HSL.out 1 (by simp);replace hsd:S[1]=d:=hsd;have hwd:wrap64 (d.toNat:Int)=(d.toNat:Int):=by have:=d.toNat_lt;unfold wrap64;omega
   obtain⟨M,hM⟩:∃ M,255-d.toNat=M:=⟨_,rfl⟩
   have hM2:M≤255:=by have:=d.toNat_lt;omega
   have hwm:IntKind.i64.wrap (255-(d.toNat:Int))=(M:Int):=by rw[wrap_small _ (by have:=d.toNat_lt;omega) (by omega)];have:=d.toNat_lt;omega
   replace HLN:=zh (show eH L=some (S.size+M) by rw[HLC.out,aUf.out,HLN.out,← V.aD,HSL.out,← hM];rfl);have HSP:=zh (show S.toList=L.take S.size by rw[← V.aD,HSL.out,HLC.out,aUf.out];rfl);have hsz:S.size=2:=by rw[← V.aD,HSL.out];rfl
   obtain⟨a,ha⟩:∃ a,at_+2=a:=⟨_,rfl⟩
   have hab:a≤b.size:=by omega
   have HAS:=zh (show a=at_+S.size by omega);rw[ha] at HR2;have HM:=zh hM;have HT:=zh (kL rb tv b a M tn pv lp w2 hb hab (by omega) HR2.out xZ.out hlp);clear hr2 hx2 sK qO hp1 hpc hp2 hpd hM hsz ha aUf HSL hlt2 H2;go_wp2_with fail
 case' neg =>
  have e1:((c.toNat:Int)==255)=false:=by
   have:c.toNat≠255:=fun e=>h2 (.inl (UInt8.toNat_inj.1 (by rw[e];rfl)))
   simp;omega
  have e2:((c.toNat:Int)==1)=false:=by
   have:c.toNat≠1:=fun e=>h2 (.inr (UInt8.toNat_inj.1 (by rw[e];rfl)))
   simp;omega
  have e3:wrap64 (c.toNat:Int)=(c.toNat:Int):=by have:=c.toNat_lt;unfold wrap64;omega
  have h2:=zh h2;rcases Nat.lt_or_ge c.toNat 128 with h3 | h3
  case' inr =>
   have e4:decide ((128:Int)≤(c.toNat:Int))=true:=decide_eq_true (by omega);obtain⟨M,hM⟩:∃ M,c.toNat-128=M:=⟨_,rfl⟩
   have hM2:M≤255:=by have:=c.toNat_lt;omega
   have hwm:IntKind.i64.wrap ((c.toNat:Int)-128)=(M:Int):=by rw[wrap_small _ (by omega) (by omega)];omega
   have HLN:=zh (show eH L=some (1+M) by rw[HLC.out,vO h2.out,← hM];simp only [if_pos h3]);have HM:=zh hM;clear hM;go_enter func96,ntmps96;go_wp2_with fail;refine H1.out.mono ?_;rintro e w2 ⟨S,rfl,⟨hp1,hpc⟩,sK,hr1,hx1⟩;have xZ:=zh (HP0.out.keep hx1.size (fun k hk hp=>hx1.block k hk hp) (fun _ _ e=>e));have HY2:=zh hx1;have HSL:=sK;have hsz:S.size=1:=by rw[← V.aD,HSL.out];rfl
   replace HLN:=zh (show eH L=some (S.size+M) by rw[HLN.out,hsz]);have HSP:=zh (show S.toList=L.take S.size by rw[hsz,HSL.out,HLC.out];rfl);obtain⟨a,ha⟩:∃ a,at_+1=a:=⟨_,rfl⟩
   have hab:a≤b.size:=by omega
   have HAS:=zh (show a=at_+S.size by omega);have HR2:=zh hr1;rw[ha] at HR2;have HT:=zh (kL rb tv b a M tn pv lp w2 hb hab (by omega) HR2.out xZ.out hlp);clear hr1 hx1 sK hsz ha HSL;go_wp2_with fail
  case' inl =>
   rcases Nat.lt_or_ge 1 c.toNat with h4 | h4
   case' inl =>
    have e4:decide ((128:Int)≤(c.toNat:Int))=false:=decide_eq_false (by omega);have e5:decide ((1:Int)<(c.toNat:Int))=true:=decide_eq_true (by omega);obtain⟨M,hM⟩:∃ M,128-c.toNat=M:=⟨_,rfl⟩
    have hM2:M≤255:=by have:=c.toNat_lt;omega
    have hwm:IntKind.i64.wrap (128-(c.toNat:Int))=(M:Int):=by rw[wrap_small _ (by omega) (by omega)];omega
    have HLN:=zh (show eH L=some (1+M) by rw[HLC.out,vO h2.out,← hM];simp only [if_neg (show ¬ 128≤c.toNat by omega),if_pos h4]);have HM:=zh hM;clear hM;go_enter func96,ntmps96;go_wp2_with fail;refine H1.out.mono ?_;rintro e w2 ⟨S,rfl,⟨hp1,hpc⟩,sK,hr1,hx1⟩;have xZ:=zh (HP0.out.keep hx1.size (fun k hk hp=>hx1.block k hk hp) (fun _ _ e=>e));have HY2:=zh hx1;have HSL:=sK;have hsz:S.size=1:=by rw[← V.aD,HSL.out];rfl
    replace HLN:=zh (show eH L=some (S.size+M) by rw[HLN.out,hsz]);have HSP:=zh (show S.toList=L.take S.size by rw[hsz,HSL.out,HLC.out];rfl);obtain⟨a,ha⟩:∃ a,at_+1=a:=⟨_,rfl⟩
    have hab:a≤b.size:=by omega
    have HAS:=zh (show a=at_+S.size by omega);have HR2:=zh hr1;rw[ha] at HR2;have HT:=zh (kL rb tv b a M tn pv lp w2 hb hab (by omega) HR2.out xZ.out hlp);clear hr1 hx1 sK hsz ha HSL;go_wp2_with fail
   case' inr =>
    have e4:decide ((128:Int)≤(c.toNat:Int))=false:=decide_eq_false (by omega);have e5:decide ((1:Int)<(c.toNat:Int))=false:=decide_eq_false (by omega);obtain⟨M,hM⟩:∃ M,0=M:=⟨_,rfl⟩
    have hM2:M≤255:=by have:=c.toNat_lt;omega
    have hz:=zh (show Value.int IntKind.i64 (M:Int)=Value.int IntKind.i64 0 by rw[← hM];rfl);have HLN:=zh (show eH L=some (1+M) by rw[HLC.out,vO h2.out,← hM];simp only [if_neg (show ¬ 128≤c.toNat by omega),if_neg (show ¬ 1<c.toNat by omega)]);have HM:=zh hM;clear hM;go_enter func96,ntmps96;go_wp2_with fail;refine H1.out.mono ?_;rintro e w2 ⟨S,rfl,⟨hp1,hpc⟩,sK,hr1,hx1⟩;have xZ:=zh (HP0.out.keep hx1.size (fun k hk hp=>hx1.block k hk hp) (fun _ _ e=>e));have HY2:=zh hx1;have HSL:=sK;have hsz:S.size=1:=by rw[← V.aD,HSL.out];rfl
    replace HLN:=zh (show eH L=some (S.size+M) by rw[HLN.out,hsz]);have HSP:=zh (show S.toList=L.take S.size by rw[hsz,HSL.out,HLC.out];rfl);obtain⟨a,ha⟩:∃ a,at_+1=a:=⟨_,rfl⟩
    have hab:a≤b.size:=by omega
    have HAS:=zh (show a=at_+S.size by omega);have HR2:=zh hr1;rw[ha] at HR2;have HT:=zh (kL rb tv b a M tn pv lp w2 hb hab (by omega) HR2.out xZ.out hlp);rw[hz.out] at HT;clear hr1 hx1 sK hsz ha HSL;go_wp2_with fail
 all_goals
  refine HT.out.mono ?_;intro e w3 h3;unfold bZ at h3;have hLs:=HLL.out;have hSz:=HAS.out;by_cases hle:a+M≤b.size
  · rw[if_pos hle] at h3;obtain⟨rfl,hr3,hx3⟩:=h3;obtain⟨q,hq⟩:∃ q:ByteArray,⟨((aK b a tn).take M).toArray⟩=q:=⟨_,rfl⟩
    rw[hq];have hql:q.toList=(L.drop S.size).take M:=by
     rw[← hq,toList_mk,← HLB.out,vP,← hSz]
    obtain⟨U,hU⟩:∃ U,S++q=U:=⟨_,rfl⟩
    have hUL:U.toList=L.take (S.size+M):=by rw[← hU,aOr,hql,HSP.out,List.take_add]
    have hUS:U.size=S.size+M:=by rw[← V.aD,hUL,List.length_take];omega
    have hqs:q.size=M:=by rw[← V.aD,hql,List.length_take,List.length_drop];omega
    have bVi:(9223372036854775807<S.size+q.size)=False:=by simp;omega
    have HUL:=zh hUL;have bRr:=zh (aZm f HLN.out (show S.size+M≤L.length by omega));have HLE:=zh hle;have HY3:=zh (HY2.out.trans hx3 (fun _ _ e=>e));have HP3:=zh (xZ.out.keep hx3.size (fun k hk hp=>hx3.block k hk hp) (fun _ _ e=>e));have HR3:=zh hr3;have HUS:=zh hUS;have HTK:=zh (take_at U 0 w3 (by omega) (Nat.zero_le _));clear hq hql hUL hqs hr3 hx3 hUS hLs hSz HT hle;go_wp2_with fail;refine HTK.out.mono ?_;intro e w4 h4;unfold YtcgnajeenflfaaaGreatDoor.bZ at h4;rw[HUL.out] at h4;have HRD:=bRr;have hle:=HLE.out;cases htk:jZ (L.take (S.size+M)) 0 with
    | error p =>
     rw[htk] at h4 HRD;obtain⟨rfl,hb4⟩:=h4;have HF:=zh (eO rb tv b (a+M) tn pv lp 143 at_ (.iface 41 (.int .i64 20)) (w4.alloc (.cells #[.bool false,.string ⟨#[]⟩] 54)) (HR3.out.aLe hb4 _) (HP3.out.aLe hb4 _) hlp (.inr ⟨_,_,rfl⟩));have uE:=zh ((HXA.out.trans (HY3.out.then hb4) (fun _ _ e=>e)).alloc (.cells #[.bool false,.string ⟨#[]⟩] 54));clear hb4;go_wp2_with fail;refine HF.out.mono ?_;rintro e w5 ⟨hf,hb5⟩;obtain⟨ch,rfl⟩:=hf.form;go_wp2_with fail;exact⟨rfl,.no HRD.out ((hf.low uE.out.size).to (by omega)) (uE.out.then hb5)⟩
    | ok x =>
     obtain⟨b',m,n⟩:=x;rw[htk] at h4 HRD;obtain⟨p,rfl,hpm,hb4⟩:=h4;have HCH:=zh (zM htk).1;rw[← hpm.out] at HCH;have uE:=zh ((HXA.out.trans (HY3.out.then hb4) (fun _ _ e=>e)).alloc (.cells #[.bool b',.string p] 54));have HR4:=zh (HR3.out.aLe hb4 (.cells #[.bool b',.string p] 54));have HP4:=zh (HP3.out.aLe hb4 (.cells #[.bool b',.string p] 54));by_cases hk:n=S.size+M
     case neg =>
      have q1:((n:Int) != (U.size:Int))=true:=by have:=HUS.out;simp;omega
      have HF:=zh (eO rb tv b (a+M) tn pv lp 143 at_ (.iface 41 (.int .i64 20)) _ HR4.out HP4.out hlp (.inr ⟨_,_,rfl⟩));have kZ:=zh (show rdNum f L=none by rw[HRD.out];exact if_neg (fun h=>hk h.1));clear hb4 hk HRD hpm;go_wp2_with fail;refine HF.out.mono ?_;rintro e w5 ⟨hf,hb5⟩;obtain⟨ch,rfl⟩:=hf.form;go_wp2_with fail;exact⟨rfl,.no kZ.out ((hf.low uE.out.size).to (by omega)) (uE.out.then hb5)⟩
     have q1:((n:Int) != (U.size:Int))=false:=by have:=HUS.out;simp;omega
     have HK:=zh hk;have bCg:=uE.out.size;have bGy:=hb4.alloc hb4.size (.cells #[.bool b',.string p] 54);have hfb:aC (w4.alloc (.cells #[.bool b',.string p] 54)) w.heap.size 79 #[.string nm,.int .u8 kd,.bool dn,.int .u8 nu,.bool bd,.bool lb,.string lm,.bool hib,.string hm,.int .i64 mo,.int .i64 st,.bool sh,.bool bk,.slice a0 k c0]:=aC.below (HY3.out.blk (fun e=>hne1 e.symm) xC.out) bGy (Nat.lt_of_lt_of_le xC.out.lt HY3.out.size);have hrb:aC (w4.alloc (.cells #[.bool b',.string p] 54)) (w.heap.size+1) 54 #[.bool false,.string ⟨#[]⟩]:=aC.below (HY3.out.blk (fun e=>hne2 e.symm) HRB.out) bGy (Nat.lt_of_lt_of_le HRB.out.lt HY3.out.size);have hnb:aC (w4.alloc (.cells #[.bool b',.string p] 54)) w4.heap.size 54 #[.bool b',.string p]:=aC.new _ _ _;have aOt:=zh hfb;have bLe:=zh hrb;have bDn:=zh hnb;have c4:=aOt.out.cell 4;have c5:=aOt.out.cell 5;have c6:=aOt.out.cell 6;have c7:=aOt.out.cell 7;have c8:=aOt.out.cell 8;have n0:=bDn.out.cell 0;have n1:=bDn.out.cell 1;have aTn:=aRf HO.out HKF.out;rw[← HFE.out] at aTn;obtain⟨r1,hr1⟩:∃ r,wE b' p.toList lb lm.toList=r:=⟨_,rfl⟩
     obtain⟨r2,hr2⟩:∃ r,wE b' p.toList hib hm.toList=r:=⟨_,rfl⟩
     have H5:=zh (fun w=>mU b' p lb lm w HCH.out aTn.1 r1 hr1);have H6:=zh (fun w=>mU b' p hib hm w HCH.out aTn.2 r2 hr2);have HIB:=zh (show rX f b' m=(!bd || (decide (0≤r1)&&decide (r2≤0))) by rw[← HFE.out,← hr1,← hr2,hpm.out];rfl);clear hb4 bGy hfb hrb hnb hk aTn hr1 hr2;go_wp2_with fail;refine(H5.out _).mono ?_;rintro e w5 ⟨rfl,hb5⟩;have aZo:=zh (aOt.out.below hb5 aOt.out.lt);have aLf:=zh (bLe.out.below hb5 bLe.out.lt);have bDo:=zh (bDn.out.below hb5 bDn.out.lt);have HX5:=zh (uE.out.then hb5);have HR5:=zh (show gB w5 rb tv b (a+M) tn pv from aC.below HR4.out hb5 HR4.out.lt);have HP5:=zh (HP4.out.keep hb5.size (fun k hk _=>hb5.block k hk) (fun _ _ e=>e));have hsz5:=hb5.size;simp only [World.size_alloc] at hsz5;have bVj:=HX5.out.size;clear hb5 c4 c5 c6 c7 c8 n0 n1;have c4:=aZo.out.cell 4;have c7:=aZo.out.cell 7;have c8:=aZo.out.cell 8;have n0:=bDo.out.cell 0;have n1:=bDo.out.cell 1;go_wp2_with fail;refine(H6.out _).mono ?_;rintro e w6 ⟨rfl,hb6⟩;have bRs:=zh (aZo.out.below hb6 aZo.out.lt);have aAs:=zh (aLf.out.below hb6 aLf.out.lt);have bLf:=zh (bDo.out.below hb6 bDo.out.lt);have HX6:=zh (HX5.out.then hb6);have HR6:=zh (show gB w6 rb tv b (a+M) tn pv from aC.below HR5.out hb6 HR5.out.lt);have HP6:=zh (HP5.out.keep hb6.size (fun k hk _=>hb6.block k hk) (fun _ _ e=>e));have bCe:=hb6.size;have bVk:=HX6.out.size;have HFA:=zh (eO rb tv b (a+M) tn pv lp 123 at_ .nilIface w6 HR6.out HP6.out hlp (.inl rfl))
     clear hb6 c4 c7 c8 n0 n1;have c4:=bRs.out.cell 4;have n0:=bLf.out.cell 0;have n1:=bLf.out.cell 1;have z0:=aAs.out.frozen 0;have z1:=aAs.out.frozen 1;have y0:=aAs.out.cell 0;have y1:=aAs.out.cell 1;cases hin:rX f b' m with
     | false =>
      have kZ:=zh (show rdNum f L=none by rw[HRD.out];exact if_neg (fun h=>by rw[hin] at h;exact absurd h.2 (by decide)));rw[hin] at HIB;obtain⟨rfl,hrr⟩:bd=true∧(r1<0∨0<r2):=by
       have h:=HIB.out;cases bd with
       | false=>simp at h
       | true =>
        refine⟨rfl,?_⟩;by_cases g1:r1<0
        · exact .inl g1
        · by_cases g2:0<r2
          · exact .inr g2
          · rw[decide_eq_true (show 0≤r1 by omega),decide_eq_true (show r2≤0 by omega)] at h;cases h
      by_cases g1:r1<0
      · have e1:decide (r1<0)=true:=decide_eq_true g1;clear g1 hrr;go_wp2_with fail;refine HFA.out.mono ?_;rintro e w7 ⟨hf,hb7⟩;obtain⟨ch,rfl⟩:=hf.form;go_wp2_with fail;exact⟨rfl,.no kZ.out ((hf.low HX6.out.size).to (by omega)) (HX6.out.then hb7)⟩
      · have e1:decide (r1<0)=false:=decide_eq_false g1;have e2:decide (0<r2)=true:=decide_eq_true (by omega);clear g1 hrr;go_wp2_with fail;refine HFA.out.mono ?_;rintro e w7 ⟨hf,hb7⟩;obtain⟨ch,rfl⟩:=hf.form;go_wp2_with fail;exact⟨rfl,.no kZ.out ((hf.low HX6.out.size).to (by omega)) (HX6.out.then hb7)⟩
     | true =>
      have bLg:=zh (show rdNum f L=some (.mk 2 false b' ⟨m.toArray⟩ .empty [],L.drop (S.size+M)) by rw[HRD.out];exact if_pos ⟨HK.out,hin⟩);have HPM:=zh (show (⟨m.toArray⟩:ByteArray)=p by rw[← hpm.out];exact kI p);have HDR:=zh (show L.drop (S.size+M)=aK b (a+M) tn by rw[← HLB.out,vP,HAS.out,Nat.add_assoc]);rw[hin] at HIB;cases bd with
      | false =>
       go_wp2_with fail;refine bodyPost_ret (v:=.agg #[.bool b',.string p]) (by simp[results,Tryz.f96,go_sem,y0,y1]) rfl ?_;refine .yes bLg.out HPM.out HDR.out HLE.out ?_ ?_
       · exact(Below.heap_setCell _ _ _ _ hne2).trans ((Below.heap_setCell _ _ _ _ hne2).trans HR6.out)
       · exact(HX6.out.aU (fun h=>absurd h (by omega)) _ _).aU (fun h=>absurd h (by omega)) _ _
      | true =>
       have e1:decide (r1<0)=false:=by
        have h:=HIB.out;apply decide_eq_false;intro g;rw[decide_eq_false (show ¬ 0≤r1 by omega)] at h;cases h
       have e2:decide (0<r2)=false:=by
        have h:=HIB.out;apply decide_eq_false;intro g;rw[decide_eq_false (show ¬ r2≤0 by omega),Bool.and_false] at h;cases h
       go_wp2_with fail;refine bodyPost_ret (v:=.agg #[.bool b',.string p]) (by simp[results,Tryz.f96,go_sem,y0,y1]) rfl ?_;refine .yes bLg.out HPM.out HDR.out HLE.out ?_ ?_
       · exact(Below.heap_setCell _ _ _ _ hne2).trans ((Below.heap_setCell _ _ _ _ hne2).trans HR6.out)
       · exact(HX6.out.aU (fun h=>absurd h (by omega)) _ _).aU (fun h=>absurd h (by omega)) _ _
  · rw[if_neg hle] at h3;obtain⟨hf,hb3⟩:=h3;obtain⟨ch,rfl⟩:=hf.form;have HRD:=zh (aLd f HLN.out (by omega));have uE:=zh (HXA.out.trans HY2.out (fun _ _ e=>e));go_wp2_with fail;exact⟨rfl,.no HRD.out (hf.low uE.out.size) (uE.out.then hb3)⟩
open We (Co gL lF bT)
open D (Dm Wf)
open Ta (Tm)
theorem aOu (l:List UInt8):dF l 0=some ([],l):=by cases l with
 | nil=>rw[dF]
 | cons a r=>cases r<;>rw[dF]
theorem aLg {l:List UInt8} (n:Nat) (h:l.length<2):dF l (n+1)=none:=by
 match l,h with
 | [],_=>rw[dF];intros;contradiction
 | [a],_=>rw[dF];intros;simp_all
theorem aUg (x y:UInt8) (r:List UInt8) (n:Nat):dF (x::y::r) (n+1)=if x=0∧y=0 then (dF r n).map fun z=>(x::y::z.1,z.2) else (dF r (n+1)).map fun z=>(x::y::z.1,z.2):=by rw[dF]
theorem jV.no {rb:Nat} {tv:Value} {b:ByteArray} {tn:Bool} {pv:Value} {R:Option (List UInt8×List UInt8)} {w w':World} {e:Ending} (h:R=none) (h2:Fails b.size w e w') (h3:Xv (· = rb) w w'):jV rb tv b tn pv R w e w':=by
 unfold jV;rw[h];exact⟨h2,h3⟩
theorem jV.yes {rb:Nat} {tv:Value} {b:ByteArray} {tn:Bool} {pv:Value} {R:Option (List UInt8×List UInt8)} {s:List UInt8} {S:ByteArray} {a:Nat} {w w':World} (h:R=some (s,aK b a tn)) (hs:S=⟨s.toArray⟩) (ha:a≤b.size) (h2:gB w' rb tv b a tn pv) (h3:Xv (· = rb) w w'):jV rb tv b tn pv R w (.returned (.string S)) w':=by
 unfold jV;rw[h,hs];exact⟨⟨rfl,a,ha,rfl,h2⟩,h3⟩
theorem aUh {w w':World} (h:Below w.drew.heap.size w.drew w'):Below w.heap.size w w':=⟨h.os,h.tape,h.output,h.size,h.block⟩
def iG (K:Co→ByteArray→List UInt8) (f:Fd) (L:List UInt8):Option (List UInt8×List UInt8):=(gZ K f L).map fun x=>(x.1.raw.toList,x.2)
theorem aOv (K:Co→ByteArray→List UInt8) (f:Fd) {c:UInt8} (r:List UInt8) (h:c≠kU f.co):iG K f (c::r)=none:=by
 simp[iG,gZ,h]
theorem aUi (K:Co→ByteArray→List UInt8) (f:Fd) {c:UInt8} (r:List UInt8) (h:c=kU f.co) (h2:dF r f.co.str.toNat=none):iG K f (c::r)=none:=by
 simp[iG,gZ,h,h2]
theorem aUj (K:Co→ByteArray→List UInt8) (f:Fd) {c:UInt8} (r:List UInt8) {k r1:List UInt8} (h:c=kU f.co) (h2:dF r f.co.str.toNat=some (k,r1)) (h3:dQ r1=none):iG K f (c::r)=none:=by
 simp[iG,gZ,h,h2,h3]
theorem aUk (K:Co→ByteArray→List UInt8) (f:Fd) {c:UInt8} (r:List UInt8) {k r1 s r2:List UInt8} (h:c=kU f.co) (h2:dF r f.co.str.toNat=some (k,r1)) (h3:dQ r1=some (s,r2)) :
 iG K f (c::r)=if s.length≤65536∧U.bK ⟨s.toArray⟩<0∧K f.co ⟨s.toArray⟩=k then some (s,r2) else none:=by
 by_cases h4:s.length≤65536∧U.bK ⟨s.toArray⟩<0∧K f.co ⟨s.toArray⟩=k
 · rw[if_pos h4];simp only [iG,gZ,h,h2,h3,ne_eq,not_true_eq_false,if_false,if_pos h4,Option.map_some];rw[show (Pt.mk 6 false false ByteArray.empty ⟨s.toArray⟩ []).raw.toList=s from toList_mk s]
 · rw[if_neg h4];simp only [iG,gZ,h,h2,h3,ne_eq,not_true_eq_false,if_false,if_neg h4,Option.map_none]
theorem aZp {D:Dm} (wf:Wf D) {T:Tm} (wt:lF T) (t:Addr) (hi:Nat) (f:Fd) (a0:Option Addr) (k c0:Nat) (rb:Nat) (b:ByteArray) (at_:Nat) (tn:Bool) (pv:Value) (lp:List Int) (w:World) (hco:f.co.ok) (hb:b.size≤4194304) (hat:at_≤b.size) (hr:gB w rb (.pointer (some t)) b at_ tn pv) (hp:aH w (· = rb) pv lp) (hlp:lp.length≤17)
 (hhi:hi≤rb) (ht:gL w 0 hi (.pointer (some t)) D T) :
 Calls prog 97 #[.pointer (some ⟨rb,0,none⟩),.agg (aR f (.slice a0 k c0)).toArray] w (jV rb (.pointer (some t)) b tn pv (iG (bT D T) f (aK b at_ tn)) w):=by
 obtain⟨L,hL⟩:∃ L,aK b at_ tn=L:=⟨_,rfl⟩
 obtain⟨KM,hKM⟩:∃ KM,bT D T=KM:=⟨_,rfl⟩
 rw[hL,hKM];have hrl:=hr.lt;have HT:=zh ht;have HM:=zh (fun w=>aKp f.co hco w);have HCO:=zh hco;rw[aT];obtain⟨⟨st,sh,bk⟩,hce⟩:∃ co,f.co=co:=⟨_,rfl⟩
 obtain⟨n,rfl⟩:∃ n:Nat,st=(n:Int):=⟨st.toNat,by have:=hco.1;rw[hce] at this;simp only at this;omega⟩
 rw[hce] at HM HCO ⊢;unfold Co.val at HM;simp only at HM ⊢;have HCE:=zh hce;have hn4:n≤4:=by have:=HCO.out.2.1;simp only at this;omega
 obtain⟨mb,hmb⟩:∃ mb,kU ⟨(n:Int),sh,bk⟩=mb:=⟨_,rfl⟩
 rw[hmb] at HM;have HMB:=zh hmb;have c2:w.cell? ⟨rb,2,none⟩=some (.int .i64 (at_:Int)):=hr.cell 2;go_enter func97,ntmps97;go_wp2_with fail;generalize hW:w.alloc (.cells _ 79)=w1;have hB1:Below w.heap.size w w1:=by rw[← hW];exact zr.alloc lr _
 have hFB:aC w1 w.heap.size 79 #[.string f.name,.int .u8 f.kind,.bool f.down,.int .u8 f.aI,.bool f.bnd,.bool f.eX,.string f.eG,.bool f.hib,.string f.him,.int .i64 f.most,.int .i64 (n:Int),.bool sh,.bool bk,.slice a0 k c0]:=by rw[← hW];exact aC.new _ _ _
 have HR1:=zh (show gB w1 rb (.pointer (some t)) b at_ tn pv from aC.below hr hB1 hrl);have HP1:=zh (hp.keep hB1.size (fun k hk _=>hB1.block k hk) (fun _ _ e=>e));have lW:=zh (Xv.of_below (P:=(· = rb)) hB1);have bLh:=zh hFB;have hfl:=hFB.lt;have hne:w.heap.size≠rb:=by omega
 have f10:=hFB.cell 10;have f11:=hFB.cell 11;have f12:=hFB.cell 12;clear hW hB1 hFB hr hp c2 ht hco hce hmb;by_cases hlt:at_<b.size
 · have HT1:=zh (iY rb (.pointer (some t)) b at_ tn pv w1.drew hb HR1.out hlt);obtain⟨c,hc⟩:∃ c,fl tn b[at_]=c:=⟨_,rfl⟩
   rw[hc] at HT1;have HLC:=zh (show L=c::aK b (at_+1) tn by rw[← hL,dP tn hlt,hc]);have hbd:Xv (· = rb) w1 w1.drew:=(Xv.refl _ _).drew;clear hc hL;refine wp_region_held_drew (S:=fun w'=>w'.cell? ⟨w.heap.size,10,none⟩=some (.int .i64 (n:Int))∧w'.cell? ⟨w.heap.size,11,none⟩=some (.bool sh)∧w'.cell? ⟨w.heap.size,12,none⟩=some (.bool bk)∧Xv (· = rb) w1 w') (by kernel_rfl) ⟨f10,f11,f12,hbd⟩ (fun hHeld=>?_);refine tx 0 ?v0 rfl (by kernel_rfl) tq (by rfl) ?hy0 (by assumption) ?aCd;case hy0=>(rintro wS ⟨k10,k11,k12,kb⟩;go_simp;try with_reducible rfl)
   try simp[Act.put]
   refine tx 3 ?v3 rfl (by kernel_rfl) tq (by rfl) ?hy3 (by assumption) ?aFf;case hy3=>(rintro wS ⟨k10,k11,k12,kb⟩;go_simp;try with_reducible rfl)
   try simp[Act.put]
   refine tx 4 ?v4 rfl (by kernel_rfl) tq (by rfl) ?hy4 (by assumption) ?aKf;case hy4=>(rintro wS ⟨k10,k11,k12,kb⟩;go_simp;try with_reducible rfl)
   try simp[Act.put]
   refine wpAnyH_ready (rs:=[1]) (by kernel_rfl) (by simp) ?_;refine AllReadyH.cons rfl (fun K hK=>?_) AllReadyH.nil;go_simp;obtain⟨k10,k11,k12,kb⟩:=hHeld;refine HT1.out.mono ?_;rintro e w9 ⟨p,rfl,⟨hp1,hpc⟩,hpl,hr9,wB⟩;have HR9:=zh hr9;replace k10:=wB.cell (p:=⟨w.heap.size,10,none⟩) hne k10;replace k11:=wB.cell (p:=⟨w.heap.size,11,none⟩) hne k11;replace k12:=wB.cell (p:=⟨w.heap.size,12,none⟩) hne k12;replace kb:=wB.qA;clear hr9 wB;go_wp2_with fail;refine hK.out _ _ ⟨k10,k11,k12,kb⟩ (fun hHeld=>?_);try simp[Act.put]
   refine tx 2 ?v2 rfl (by kernel_rfl) tq (by rfl) ?hy2 (by assumption) ?aCe;case hy2=>(rintro wS ⟨k10,k11,k12,kb⟩;go_simp;try with_reducible rfl)
   try simp[Act.put]
   refine wpAnyH_ready (rs:=[5]) (by kernel_rfl) (by simp) ?_;refine AllReadyH.cons rfl (fun K hK=>?_) AllReadyH.nil;go_simp;obtain⟨k10,k11,k12,kb⟩:=hHeld;refine(HM.out _).mono ?_;rintro e w8 ⟨rfl,hb8⟩;replace k10:=V.keeps hb8 k10;replace k11:=V.keeps hb8 k11;replace k12:=V.keeps hb8 k12;replace kb:=kb.then hb8;have HB8:=zh hb8;clear hb8;go_wp2_with fail;refine hK.out _ _ ⟨k10,k11,k12,kb⟩ (fun hHeld=>?_);try simp[Act.put]
   refine tx 6 ?v6 rfl (by kernel_rfl) tq (by rfl) ?hy6 (by assumption) ?aZq;case hy6=>(rintro wS ⟨k10,k11,k12,kb⟩;go_simp;try with_reducible rfl)
   try simp[Act.put]
   refine wpAnyH_done (by kernel_rfl) ?_ _;obtain⟨k10,k11,k12,kb2⟩:=hHeld;have HR8:=zh (show gB w8 rb (.pointer (some t)) b (at_+1) tn pv from aC.below HR9.out HB8.out HR9.out.lt);have HP8:=zh (HP1.out.keep kb2.size (fun k hk hp=>kb2.block k hk hp) (fun _ _ e=>e));have HX8:=zh (lW.out.trans kb2 (fun _ _ e=>e));have HF8:=zh (kb2.blk hne bLh.out);have bDp:rb<w8.heap.size:=Nat.lt_of_lt_of_le hrl HX8.out.size;have bWh:w.heap.size<w8.heap.size:=HF8.out.lt;clear k10 k11 k12 kb2 hbd HR9 HB8 hp1 hpc hpl bLh HR1 HT1;by_cases hcm:c=mb
   case neg =>
    have q1:((c.toNat:Int) != (mb.toNat:Int))=true:=by
     have:c.toNat≠mb.toNat:=fun e=>hcm (UInt8.toNat_inj.1 e)
     simp;omega
    have kZ:=zh (show iG KM f L=none by rw[HLC.out];exact aOv KM f _ (by rw[HCE.out,HMB.out];exact hcm));have HF:=zh (eO rb (.pointer (some t)) b (at_+1) tn pv lp 143 at_ .nilIface w8 HR8.out HP8.out hlp (.inl rfl));clear hcm;go_wp2_with fail;refine HF.out.mono ?_;rintro e w3 ⟨hf,hb3⟩;obtain⟨ch,rfl⟩:=hf.form;go_wp2_with fail;exact⟨rfl,.no kZ.out ((hf.low HX8.out.size).to hat) (HX8.out.then hb3)⟩
   subst hcm;have HCM:=zh (show c=kU f.co by rw[HCE.out,HMB.out]);rw[show ((c.toNat:Int) != (c.toNat:Int))=false by simp];have d2:w8.cell? ⟨rb,2,none⟩=some (.int .i64 ((at_+1:Nat):Int)):=HR8.out.cell 2;go_wp2_with fail;obtain⟨R,hR⟩:∃ R,dF (aK b (at_+1) tn) n=R:=⟨_,rfl⟩
   have HKR:=zh hR;clear hR d2;go_loopw [6,7,8] (fun v v7 _ wr=>∃ (a i:Nat) (acc:List UInt8),i≤n∧a≤b.size∧acc.length≤a∧v7=.int .i64 (i:Int)∧cO wr w8.heap.size v acc∧gB wr rb (.pointer (some t)) b a tn pv∧Xv (· = rb) w8 wr∧Hid (R=(dF (aK b a tn) (n-i)).map fun x=>(acc++x.1,x.2))) (fun _ _ _ wr=>b.size-(intOf ((wr.cell? ⟨rb,2,none⟩).getD .nilIface)).toNat)
   case atStart=>exact⟨at_+1,0,[],Nat.zero_le _,by omega,Nat.zero_le _,rfl,cO.nil _ _,HR8.out,Xv.refl _ _,zh (by rw[Nat.sub_zero,HKR.out];cases R<;>simp)⟩
   case round =>
    obtain⟨a,i,acc,hi2,ha,hal,rfl,hO,hR,hX,hrel⟩:=hrel;have f10:=(hX.blk hne HF8.out).cell 10;have hp:=HP8.out.keep hX.size (fun k hk hp=>hX.block k hk hp) (fun _ _ e=>e);have c2:wr.cell? ⟨rb,2,none⟩=some (.int .i64 (a:Int)):=hR.cell 2;by_cases hlt2:i<n
    · have q2:decide ((i:Int)<(n:Int))=true:=decide_eq_true (by omega);have HTK:=zh (kL rb (.pointer (some t)) b a 2 tn pv lp wr hb ha (by omega) hR hp hlp);by_cases hle:a+2≤b.size
      · have HO:=zh hO;have HXX:=zh hX;have qN:=zh hrel.out;have aAe:aK b a tn=fl tn b[a]::fl tn b[a+1]::aK b (a+2) tn:=by rw[dP tn (by omega),dP tn (by omega)]
        obtain⟨x,hx⟩:∃ x,fl tn b[a]=x:=⟨_,rfl⟩
        obtain⟨y,hy⟩:∃ y,fl tn b[a+1]=y:=⟨_,rfl⟩
        rw[hx,hy] at aAe;rw[aAe,show n-i=(n-(i+1))+1 by omega,aUg] at qN;have HCN:=zh aAe;clear hO hX hrel hR hp hx hy aAe;go_wp2_with fail;refine HTK.out.mono ?_;intro e w2 h2;unfold bZ at h2;rw[if_pos hle,HCN.out] at h2;obtain⟨rfl,hr2,hx2⟩:=h2;obtain⟨p2,hp2⟩:∃ p2:ByteArray,⟨((x::y::aK b (a+2) tn).take 2).toArray⟩=p2:=⟨_,rfl⟩
        rw[hp2];have HPL:=zh (show p2.toList=[x,y] by rw[← hp2,toList_mk];rfl);have qK:=zh (HXX.out.trans hx2 (fun _ _ e=>e));have HO2:=zh (xB HO.out bDp hx2);have HR2:=zh hr2;have hpz:p2.size=2:=by rw[← V.aD,HPL.out];rfl
        clear hp2 hr2 hx2;have bWi:acc.length+2≤a+2:=by omega
        by_cases hxy:x=0∧y=0
        · rw[if_pos hxy] at qN;have qe:(p2.toList==[0,0])=true:=by rw[HPL.out,hxy.1,hxy.2];rfl
          clear hxy;go_wp2_with (at_builtin;refine jU rfl (.tmp 38) (.tmp 39) 99 9 rfl underlying99 underlying9 We.mW rfl HO2.out p2 rfl (by omega) zr qK.out.size ?_;intro v5 w5 qZ hB5 hs5);have hR5:gB w5 rb (.pointer (some t)) b (a+2) tn pv:=aC.below HR2.out hB5 bDp;have c5:w5.cell? ⟨rb,2,none⟩=some (.int .i64 ((a+2:Nat):Int)):=hR5.cell 2;rw[HPL.out] at qZ;exact⟨⟨a+2,i+1,acc++[x,y],by omega,hle,by simp;omega,by simp,qZ,hR5,aHs qK.out hB5,zh (by rw[qN.out];cases dF (aK b (a+2) tn) (n-(i+1))<;>simp)⟩,meas c2 c5 (by omega) (by omega)⟩
        · have qe:(p2.toList==[0,0])=false:=by
           rw[HPL.out];simp only [beq_eq_false_iff_ne];intro e;injection e with e1 e
           injection e with e2 e
           exact hxy ⟨e1,e2⟩
          rw[if_neg hxy] at qN;clear hxy;go_wp2_with (at_builtin;refine jU rfl (.tmp 38) (.tmp 39) 99 9 rfl underlying99 underlying9 We.mW rfl HO2.out p2 rfl (by omega) zr qK.out.size ?_;intro v5 w5 qZ hB5 hs5);have hR5:gB w5 rb (.pointer (some t)) b (a+2) tn pv:=aC.below HR2.out hB5 bDp;have c5:w5.cell? ⟨rb,2,none⟩=some (.int .i64 ((a+2:Nat):Int)):=hR5.cell 2;rw[HPL.out] at qZ;exact⟨⟨a+2,i,acc++[x,y],by omega,hle,by simp;omega,rfl,qZ,hR5,aHs qK.out hB5,zh (by rw[qN.out,show n-i=n-(i+1)+1 by omega];cases dF (aK b (a+2) tn) (n-(i+1)+1)<;>simp)⟩,meas c2 c5 (by omega) (by omega)⟩
      · have hRn:R=none:=by
         rw[hrel.out,show n-i=(n-(i+1))+1 by omega,aLg _ (by rw[zD];omega)];rfl
        have kZ:=zh (show iG KM f L=none by
         rw[HLC.out];refine aUi KM f _ HCM.out ?_;rw[HCE.out];exact HKR.out.trans hRn)
        have qK:=zh (HX8.out.trans hX (fun _ _ e=>e));clear hrel hO hX hR hp hRn;go_wp2_with fail;refine HTK.out.mono ?_;intro e w2 h2;unfold bZ at h2;rw[if_neg hle] at h2;obtain⟨hf,hb3⟩:=h2;obtain⟨ch,rfl⟩:=hf.form;go_wp2_with fail;exact⟨rfl,.no kZ.out (hf.low qK.out.size) (qK.out.then hb3)⟩
    · obtain rfl:i=n:=by omega
      have q2:decide ((i:Int)<(i:Int))=false:=decide_eq_false (by omega);have HRS:=zh (show dF (aK b (at_+1) tn) i=some (acc,aK b a tn) by
       rw[HKR.out,hrel.out,Nat.sub_self,aOu];simp)
      have HES:=zh (sI rb (.pointer (some t)) b a tn pv lp wr hb ha hR hp hlp);obtain⟨E,hE⟩:∃ E,dQ (aK b a tn)=E:=⟨_,rfl⟩
      rw[hE] at HES;have HEE:=zh hE;have HOO:=zh hO;have HFR:=zh (hX.blk hne HF8.out);have HXW:=zh (HX8.out.trans hX (fun _ _ e=>e));have HPW:=zh hp;have bWj:=zh hX;clear hrel hO hX hR hp hE;cases E with
      | none =>
       have kZ:=zh (show iG KM f L=none by
        rw[HLC.out];refine aUj KM f _ (k:=acc) HCM.out ?_ HEE.out;rw[HCE.out];exact HRS.out)
       go_wp2_with fail;refine HES.out.mono ?_;rintro e w3 ⟨hf,hx3⟩;obtain⟨ch,rfl⟩:=hf.form;go_wp2_with fail;exact⟨rfl,.no kZ.out (hf.low HXW.out.size) (HXW.out.trans hx3 (fun _ _ e=>e))⟩
      | some x =>
       obtain⟨s,r2⟩:=x;have HTR:=zh (show iG KM f L=if s.length≤65536∧U.bK ⟨s.toArray⟩<0∧KM f.co ⟨s.toArray⟩=acc then some (s,r2) else none by
        rw[HLC.out];refine aUk KM f _ HCM.out ?_ HEE.out;rw[HCE.out];exact HRS.out)
       obtain⟨S,hS⟩:∃ S,(⟨s.toArray⟩:ByteArray)=S:=⟨_,rfl⟩
       have hsz:S.size=s.length:=by rw[← hS];rfl
       have HSL:=zh (show S.toList=s by rw[← hS,toList_mk]);have HSM:=zh (show S=⟨s.toArray⟩ from hS.symm);rw[hS] at HTR;have HSS:=zh hS;clear hS;go_wp2_with fail;refine HES.out.mono ?_;rintro e w3 ⟨⟨rfl,a3,ha3,rfl,hr3⟩,hx3⟩;rw[HSS.out];have HR3:=zh hr3;have uD:=zh (HXW.out.trans hx3 (fun _ _ e=>e));have HP3:=zh (HPW.out.keep hx3.size (fun k hk hp=>hx3.block k hk hp) (fun _ _ e=>e));have zR:=zh (xB HOO.out bDp hx3);have HF3:=zh (hx3.blk hne HFR.out);have HY3:=zh hx3;clear hr3 hx3 HSS;by_cases hbig:65536<S.size
       · have q3:decide ((65536:Int)<(S.size:Int))=true:=decide_eq_true (by omega);have kZ:=zh (show iG KM f L=none by rw[HTR.out,if_neg (by omega)]);have HFA:=zh (eO rb (.pointer (some t)) b a3 tn pv lp 124 a .nilIface w3 HR3.out HP3.out hlp (.inl rfl));go_wp2_with fail;refine HFA.out.mono ?_;rintro e w4 ⟨hf,hb4⟩;obtain⟨ch,rfl⟩:=hf.form;go_wp2_with fail;exact⟨rfl,.no kZ.out ((hf.low uD.out.size).to ha) (uD.out.then hb4)⟩
       have q3:decide ((65536:Int)<(S.size:Int))=false:=decide_eq_false (by omega);have HCK:=zh (fun w=>U.tV S (by omega) w);obtain⟨C,hC⟩:∃ C,U.bK S=C:=⟨_,rfl⟩
       have HCC:=zh hC;rw[hC] at HTR HCK;clear hC;by_cases hck:C<0
       case neg =>
        have q4:decide ((0:Int)≤C)=true:=decide_eq_true (by omega);have kZ:=zh (show iG KM f L=none by rw[HTR.out,if_neg (fun e=>hck e.2.1)]);have HFA:=zh (fun w4 (hb4:Below w3.heap.size w3 w4)=>eO rb (.pointer (some t)) b a3 tn pv lp 125 a (.iface 41 (.int .i64 30)) w4 (aC.below HR3.out hb4 HR3.out.lt) (HP3.out.keep hb4.size (fun k hk _=>hb4.block k hk) (fun _ _ e=>e)) hlp (.inr ⟨_,_,rfl⟩));clear hck;go_wp2_with fail;refine(HCK.out _).mono ?_;rintro e w4 ⟨rfl,hb4⟩;have dJ:=zh hb4;clear hb4;go_wp2_with fail;refine(HFA.out _ dJ.out).mono ?_;rintro e w5 ⟨hf,hb5⟩;obtain⟨ch,rfl⟩:=hf.form;have uE:=uD.out.then dJ.out;go_wp2_with fail;exact⟨rfl,.no kZ.out ((hf.low uE.size).to ha) (uE.then hb5)⟩
       have q4:decide ((0:Int)≤C)=false:=decide_eq_false (by omega);have HKY:=zh (fun w4 (hx:Xv (· = rb) w w4)=>We.aHj wf wt (.pointer (some t)) ⟨(i:Int),sh,bk⟩ HCO.out S w4 ((HT.out.later (hx.below (B:=hi) (fun k hk e=>by omega) (by omega)) lr).wide lr (by have:=hx.size;omega)) (by omega) (aRi (by rw[HCC.out];exact hck)));rw[hKM] at HKY;obtain⟨KS,hKS⟩:∃ KS,KM ⟨(i:Int),sh,bk⟩ S=KS:=⟨_,rfl⟩
       rw[HCE.out,hKS] at HTR;rw[hKS] at HKY;unfold Co.val at HKY;simp only at HKY;clear hKS;go_wp2_with fail;refine(HCK.out _).mono ?_;rintro e w4 ⟨rfl,hb4⟩;have uE:=zh (uD.out.then hb4);have HR4:=zh (show gB w4 rb (.pointer (some t)) b a3 tn pv from aC.below HR3.out hb4 HR3.out.lt);have HO4:=zh (zR.out.below hb4);have HP4:=zh (HP3.out.keep hb4.size (fun k hk _=>hb4.block k hk) (fun _ _ e=>e));have hF4:=aC.below HF3.out hb4 HF3.out.lt;have f10:=hF4.cell 10;have f11:=hF4.cell 11;have f12:=hF4.cell 12;have r0:w4.cell? ⟨rb,0,none⟩=some (.pointer (some t)):=HR4.out.cell 0;clear hb4 hF4;go_wp2_with fail;refine wp_region_held_drew (S:=fun w'=>w'.cell? ⟨w.heap.size,10,none⟩=some (.int .i64 (i:Int))∧w'.cell? ⟨w.heap.size,11,none⟩=some (.bool sh)∧w'.cell? ⟨w.heap.size,12,none⟩=some (.bool bk)∧w'.cell? ⟨rb,0,none⟩=some (.pointer (some t))∧Below w4.heap.size w4 w') (by kernel_rfl) ⟨f10,f11,f12,r0,zr.drew⟩ (fun hHeld=>?_);refine tx 0 ?v0b rfl (by kernel_rfl) tq (by rfl) ?bRt (by assumption) ?bRu;case bRt=>(rintro wS ⟨k10,k11,k12,kr,kb⟩;go_simp;try with_reducible rfl)
       try simp[Act.put]
       refine tx 1 ?v1b rfl (by kernel_rfl) tq (by rfl) ?bFq (by assumption) ?bFr;case bFq=>(rintro wS ⟨k10,k11,k12,kr,kb⟩;go_simp;try with_reducible rfl)
       try simp[Act.put]
       refine tx 2 ?v2b rfl (by kernel_rfl) tq (by rfl) ?bFs (by assumption) ?bFt;case bFs=>(rintro wS ⟨k10,k11,k12,kr,kb⟩;go_simp;try with_reducible rfl)
       try simp[Act.put]
       refine tx 3 ?v3b rfl (by kernel_rfl) tq (by rfl) ?bFu (by assumption) ?bFv;case bFu=>(rintro wS ⟨k10,k11,k12,kr,kb⟩;go_simp;try with_reducible rfl)
       try simp[Act.put]
       refine tx 4 ?v4b rfl (by kernel_rfl) tq (by rfl) ?aXp (by assumption) ?aXq;case aXp=>(rintro wS ⟨k10,k11,k12,kr,kb⟩;go_simp;try with_reducible rfl)
       try simp[Act.put]
       refine tx 5 ?v5b rfl (by kernel_rfl) tq (by rfl) ?bFw (by assumption) ?bFx;case bFw=>(rintro wS ⟨k10,k11,k12,kr,kb⟩;go_simp;try with_reducible rfl)
       try simp[Act.put]
       refine tx 6 ?v6b rfl (by kernel_rfl) tq (by rfl) ?bRv (by assumption) ?bRw;case bRv=>(rintro wS ⟨k10,k11,k12,kr,kb⟩;go_simp;try with_reducible rfl)
       try simp[Act.put]
       refine wpAnyH_ready (rs:=[7]) (by kernel_rfl) (by simp) ?_;refine AllReadyH.cons rfl (fun K hK=>?_) AllReadyH.nil;go_simp;obtain⟨k10,k11,k12,kr,kb⟩:=hHeld;refine(HKY.out _ uE.out.drew).mono ?_;rintro e w5 ⟨rfl,hb5⟩;replace k10:=V.keeps hb5 k10;replace k11:=V.keeps hb5 k11;replace k12:=V.keeps hb5 k12;replace kr:=V.keeps hb5 kr;replace kb:=V.two kb hb5;clear hb5;go_wp2_with fail;refine hK.out _ _ ⟨k10,k11,k12,kr,kb⟩ (fun hHeld=>?_);try simp[Act.put]
       refine tx 8 ?v8b rfl (by kernel_rfl) tq (by rfl) ?bRx (by assumption) ?bRy;case bRx=>(rintro wS ⟨k10,k11,k12,kr,kb⟩;go_simp;try with_reducible rfl)
       try simp[Act.put]
       refine tx 9 ?v9b rfl (by kernel_rfl) tq (by rfl) ?bFy (by assumption) ?bFz;case bFy=>(rintro wS ⟨k10,k11,k12,kr,kb⟩;go_simp;try with_reducible rfl)
       try simp[Act.put]
       refine tx 10 ?bWk rfl (by kernel_rfl) tq (by rfl) ?bLi (by assumption) ?bNl;case bLi=>(rintro wS ⟨k10,k11,k12,kr,kb⟩;go_simp;try with_reducible rfl)
       try simp[Act.put]
       refine tx 11 ?bWl rfl (by kernel_rfl) tq (by rfl) ?bLj (by assumption) ?bNm;case bLj=>(rintro wS ⟨k10,k11,k12,kr,kb⟩;go_simp;try with_reducible rfl)
       try simp[Act.put]
       refine tx 12 ?bWm rfl (by kernel_rfl) tq (by rfl) ?bLk (by assumption) ?bNn;case bLk=>(rintro wS ⟨k10,k11,k12,kr,kb⟩;go_simp;try with_reducible rfl)
       try simp[Act.put]
       refine wpAnyH_done (by kernel_rfl) ?_ _;obtain⟨k10,k11,k12,kr,kb⟩:=hHeld;have HX5:=zh (uE.out.then kb);have HR5:=zh (show gB w5 rb (.pointer (some t)) b a3 tn pv from aC.below HR4.out kb HR4.out.lt);have HP5:=zh (HP4.out.keep kb.size (fun k hk _=>kb.block k hk) (fun _ _ e=>e));have HO5:=zh (HO4.out.below kb);have hcv:=HO5.out.conv 99 9 underlying99 underlying5 underlying9;clear kb k10 k11 k12 kr;by_cases hka:KS=acc
       · have qk:(!KS==acc)=false:=by simp[hka]
         have HTY:=zh (show iG KM f L=some (s,aK b a3 tn) by rw[HTR.out,if_pos ⟨by omega,hck,hka⟩]);clear hka hck;go_wp2_with fail;go_ret;exact .yes HTY.out HSM.out ha3 HR5.out HX5.out
       · have qk:(!KS==acc)=true:=by simp[hka]
         have kZ:=zh (show iG KM f L=none by rw[HTR.out,if_neg (fun e=>hka e.2.2)]);have HFA:=zh (eO rb (.pointer (some t)) b a3 tn pv lp 144 (at_+1) .nilIface w5 HR5.out HP5.out hlp (.inl rfl));rw[show ((at_+1:Nat):Int)=(at_:Int)+1 by omega] at HFA;clear hka hck;go_wp2_with fail;refine HFA.out.mono ?_;rintro e w6 ⟨hf,hb6⟩;obtain⟨ch,rfl⟩:=hf.form;go_wp2_with fail;exact⟨rfl,.no kZ.out ((hf.low HX5.out.size).to (by omega)) (HX5.out.then hb6)⟩
 · have HF:=zh (kY rb (.pointer (some t)) b at_ tn pv lp w1.drew hb HR1.out HP1.out hlp hat hlt);have kZ:=zh (show iG KM f L=none by rw[← hL,jJ tn (by omega)];rfl);refine wp_region_held_drew (S:=fun w'=>w'.cell? ⟨w.heap.size,10,none⟩=some (.int .i64 (n:Int))∧w'.cell? ⟨w.heap.size,11,none⟩=some (.bool sh)∧w'.cell? ⟨w.heap.size,12,none⟩=some (.bool bk)) (by kernel_rfl) ⟨f10,f11,f12⟩ (fun hHeld=>?_);refine tx 0 ?v0c rfl (by kernel_rfl) tq (by rfl) ?bRz (by assumption) ?bSa;case bRz=>(rintro wS ⟨k10,k11,k12⟩;go_simp;try with_reducible rfl)
   try simp[Act.put]
   refine tx 3 ?v3c rfl (by kernel_rfl) tq (by rfl) ?bGa (by assumption) ?bGb;case bGa=>(rintro wS ⟨k10,k11,k12⟩;go_simp;try with_reducible rfl)
   try simp[Act.put]
   refine tx 4 ?v4c rfl (by kernel_rfl) tq (by rfl) ?bGc (by assumption) ?bGd;case bGc=>(rintro wS ⟨k10,k11,k12⟩;go_simp;try with_reducible rfl)
   try simp[Act.put]
   refine wpAnyH_ready (rs:=[1]) (by kernel_rfl) (by simp) ?_;refine AllReadyH.cons rfl (fun K hK=>?_) AllReadyH.nil;go_simp;refine HF.out.mono ?_;rintro e w3 ⟨hf,hb3⟩;obtain⟨ch,rfl⟩:=hf.form;go_wp2_with fail;exact⟨rfl,.no kZ.out (hf.low lW.out.size) (lW.out.then (aUh hb3))⟩
open V (Same Pt VI aL bE PS)
def iU (rb:Nat) (tv:Value) (b:ByteArray) (tn:Bool) (lp:List Int) (pv:Value) (R:Option (Pt×List UInt8)) (w:World) (e:Ending) (w':World):Prop :=
 (match R with
  | some (p,l)=>∃ u a pv',e=.returned (.agg (V.cellsOf p u))∧a≤b.size∧l=aK b a tn∧gB w' rb tv b a tn pv'∧aJ w' (rb+1) pv' lp∧(∀ k,pv'.ownBlock=some k→pv.ownBlock=some k∨w.heap.size≤k)∧PS w' (fun k=>w.heap.size≤k∧pv'.ownBlock≠some k) p.items u
  | none=>Fails b.size w e w')∧Xv (fun k=>k=rb∨pv.ownBlock=some k) w w'
theorem fZ {w:World} {rb:Nat} {pv:Value} {lp:List Int} (h:aJ w (rb+1) pv lp):aH w (· = rb) pv lp:=h.place fun k _ h1 _ e=>by omega
theorem sM {w w':World} {rb:Nat} {pv:Value} {lp:List Int} (h:aJ w (rb+1) pv lp) (hx:Xv (· = rb) w w'):aJ w' (rb+1) pv lp:=h.xv hx fun k hk e=>by
 have:=(h.lt hk).1;omega
section
variable {rb:Nat} {tv:Value} {b:ByteArray} {tn:Bool} {lp:List Int} {pv:Value} {R:Option (Pt×List UInt8)} {w w':World} {e:Ending}
theorem iU.no (h:R=none) (hf:Fails b.size w e w') (hx:Xv (fun k=>k=rb∨pv.ownBlock=some k) w w'):iU rb tv b tn lp pv R w e w':=by
 unfold iU;rw[h];exact⟨hf,hx⟩
theorem iU.no1 (h:R=none) (hf:Fails b.size w e w') (hx:Xv (· = rb) w w'):iU rb tv b tn lp pv R w e w':=.no h hf (hx.mono fun _ _ e=>.inl e)
theorem iU.flat {p:Pt} {l:List UInt8} {a:Nat} (h:R=some (p,l)) (hl:l=aK b a tn) (ha:a≤b.size) (hi:p.items=[]) (hr:gB w' rb tv b a tn pv) (hp:aJ w (rb+1) pv lp) (hx:Xv (· = rb) w w') :
 iU rb tv b tn lp pv R w (.returned (.agg (V.cellsOf p (.slice none 0 0)))) w':=by
 unfold iU;rw[h];exact⟨⟨_,a,pv,rfl,ha,hl,hr,sM hp hx,fun _ h=>.inl h,by rw[hi];exact PS.nil _ _⟩,hx.mono fun _ _ e=>.inl e⟩
end
theorem vQ (b:ByteArray) (a:Nat) (tn d:Bool):flips d (aK b a (xor tn d))=aK b a tn:=by
 unfold aK flips;rw[List.map_map];congr 1
 funext c
 cases tn<;>cases d<;>simp[fl];exact aCs (P:=fun c=>255-(255-c)=c) (by decide +kernel) c
theorem aAf (b:ByteArray) (a:Nat) (tn d:Bool):aK b a (xor tn d)=flips d (aK b a tn) :=
 (jH d _).symm.trans (congrArg (flips d) (vQ b a tn d))
def aUl (w:World) (g:Nat) (v0 v1 v2 v3 v4 v5:Value):World:=(((((w.setCell ⟨g,0,none⟩ v0).setCell ⟨g,1,none⟩ v1).setCell ⟨g,2,none⟩ v2).setCell ⟨g,3,none⟩ v3).setCell ⟨g,4,none⟩ v4).setCell ⟨g,5,none⟩ v5
theorem bH {w:World} {g h:Nat} {t:TypeId} {cs:Array Value} (hb:aC w g t cs) (hne:g≠h) (i:Nat) (v:Value):aC (w.setCell ⟨h,i,none⟩ v) g t cs:=(Below.heap_setCell _ _ _ _ hne).trans hb
theorem fI {w:World} {g h:Nat} {t:TypeId} {cs:Array Value} (hb:aC w h t cs) (hne:h≠g) (v0 v1 v2 v3 v4 v5:Value):aC (aUl w g v0 v1 v2 v3 v4 v5) h t cs :=
 bH (bH (bH (bH (bH (bH hb hne _ _) hne _ _) hne _ _) hne _ _) hne _ _) hne _ _
theorem kP {P:Nat→Prop} {w w':World} {g:Nat} (h:Xv P w w') (hg:g<w.heap.size→P g) (v0 v1 v2 v3 v4 v5:Value):Xv P w (aUl w' g v0 v1 v2 v3 v4 v5) :=
 (((((h.aU hg 0 v0).aU hg 1 v1).aU hg 2 v2).aU hg 3 v3).aU hg 4 v4).aU hg 5 v5
theorem f6 {w:World} {g:Nat} {t:TypeId} {v0 v1 v2 v3 v4 v5:Value} (h:aC w g t #[v0,v1,v2,v3,v4,v5]):(w.cell? ⟨g,0,none⟩=some v0∧w.cell? ⟨g,1,none⟩=some v1∧w.cell? ⟨g,2,none⟩=some v2∧w.cell? ⟨g,3,none⟩=some v3∧w.cell? ⟨g,4,none⟩=some v4∧w.cell? ⟨g,5,none⟩=some v5) ∧
 w.frozen? ⟨g,0,none⟩=false∧w.frozen? ⟨g,1,none⟩=false∧w.frozen? ⟨g,2,none⟩=false∧w.frozen? ⟨g,3,none⟩=false∧w.frozen? ⟨g,4,none⟩=false∧w.frozen? ⟨g,5,none⟩=false :=
 ⟨⟨h.cell 0,h.cell 1,h.cell 2,h.cell 3,h.cell 4,h.cell 5⟩,h.frozen 0,h.frozen 1,h.frozen 2,h.frozen 3,h.frozen 4,h.frozen 5⟩
theorem gB.turn {w:World} {rb a:Nat} {tv pv:Value} {b:ByteArray} {tn tn2:Bool} {t:Int} (h:gB w rb tv b a tn pv) (e:(if tn2 then 255 else 0)=t):gB (w.setCell ⟨rb,3,none⟩ (.int .u8 t)) rb tv b a tn2 pv:=by
 subst e;have:=aC.aU h 3 (.int .u8 (if tn2 then 255 else 0));simpa[gB] using this
def mZ (n:Nat) (R:List UInt8→Option (Pt×List UInt8)) (D:Dm) (T:Tm) (t:Addr) (f:Fd) (d:Nat):Prop :=
 ∀ (hi:Nat) (a0:Option Addr) (c0 rb:Nat) (b:ByteArray) (at_:Nat) (tn:Bool) (pv:Value) (lp:List Int) (w:World),b.size≤4194304→at_≤b.size→hi≤rb→lp.length≤d →
  gB w rb (.pointer (some t)) b at_ tn pv→aJ w (rb+1) pv lp→gL w 0 hi (.pointer (some t)) D T→FI w 0 hi f.fields (.slice a0 f.fields.length c0) →
  Calls prog n #[.pointer (some ⟨rb,0,none⟩),.agg (aR f (.slice a0 f.fields.length c0)).toArray] w (iU rb (.pointer (some t)) b tn lp pv (R (aK b at_ tn)) w)
end Sc
namespace V
theorem zG {p q:Pt} (h:p.kind≠q.kind):gK p q=false:=by
 rw[oF];unfold aIp;rw[show (p.kind==q.kind)=false by simpa using h];simp
theorem aLh {p q:Pt} (hp:aL p=true) (hq:aL q=true) (h:p.kind=q.kind) :
 (p.kind=0→gK p q=true)∧(p.kind=1→gK p q=(p.yes==q.yes))∧(p.kind=2→gK p q=(p.neg==q.neg&&p.mag.toList==q.mag.toList)) ∧
  (p.kind≠0→p.kind≠1→p.kind≠2→p.kind≠7→gK p q=(p.raw.toList==q.raw.toList))∧(p.kind=7→gK p q=jP p.items q.items):=by
 obtain⟨a1,a2,a3,a4⟩:=canon hp;obtain⟨b1,b2,b3,b4⟩:=canon hq;refine⟨fun k=>?_,fun k=>?_,fun k=>?_,fun k0 k1 k2 k7=>?_,fun k=>?_⟩
 · rw[oF];unfold aIp;rw[h,a1 (by omega),b1 (by omega),(a2 (by omega)).1,(b2 (by omega)).1,(a2 (by omega)).2,(b2 (by omega)).2,a3 (by omega),b3 (by omega),a4 (by omega),b4 (by omega)];simp[oG]
 · rw[oF];unfold aIp;rw[h,(a2 (by omega)).1,(b2 (by omega)).1,(a2 (by omega)).2,(b2 (by omega)).2,a3 (by omega),b3 (by omega),a4 (by omega),b4 (by omega)];simp[oG]
 · rw[oF];unfold aIp;rw[h,a1 (by omega),b1 (by omega),a3 (by omega),b3 (by omega),a4 (by omega),b4 (by omega)];simp[oG]
 · rw[oF];unfold aIp;rw[h,a1 (by omega),b1 (by omega),(a2 (by omega)).1,(b2 (by omega)).1,(a2 (by omega)).2,(b2 (by omega)).2,a3 (by omega),b3 (by omega)];simp[oG]
 · rw[oF];unfold aIp;rw[h,a1 (by omega),b1 (by omega),(a2 (by omega)).1,(b2 (by omega)).1,(a2 (by omega)).2,(b2 (by omega)).2,a4 (by omega),b4 (by omega)];simp
theorem aOw (p q:Pt) (v u:Value) (w:World) {W:World} {lo hi lo' hi':Nat} (hp:aL p=true) (hq:aL q=true) (hv:VI W lo hi p v) (hu:VI W lo' hi' q u) (h:p.kind=0∨q.kind=0) :
 Calls prog 36 #[v,u] w fun e w'=>e=.returned (.bool (gK p q))∧Below w.heap.size w w':=by
 by_cases h1:p.kind=0
 · obtain rfl:=hv.mP h1;by_cases h2:q.kind=0
   · obtain rfl:=hu.mP h2;have HN:=zh ((aLh hp hq (by omega)).1 h1);clear h h1 h2 hv hu hp hq;go_enter func36,ntmps36;go_wp2_with fail;go_ret;exact⟨by rw[HN.out];rfl,zr⟩
   · obtain⟨T,V,rfl⟩:=hu.aHp h2;have HN:=zh (zG (p:=p) (q:=q) (by omega));clear h h1 h2 hv hu hp hq;go_enter func36,ntmps36;go_wp2_with fail;go_ret;exact⟨by rw[HN.out];rfl,zr⟩
 · have h2:q.kind=0:=h.resolve_left h1;obtain rfl:=hu.mP h2;obtain⟨T,V,rfl⟩:=hv.aHp h1;have HN:=zh (zG (p:=p) (q:=q) (by omega));clear h h1 h2 hv hu hp hq;go_enter func36,ntmps36;go_wp2_with fail;go_ret;exact⟨by rw[HN.out];rfl,zr⟩
theorem aLi (p q:Pt) (v u:Value) (w:World) {W:World} {lo hi lo' hi':Nat} (hv:VI W lo hi p v) (hu:VI W lo' hi' q u) (h0:p.kind≠0) (h1:q.kind≠0) (h:p.kind≠q.kind) :
 Calls prog 36 #[v,u] w fun e w'=>e=.returned (.bool (gK p q))∧Below w.heap.size w w':=by
 obtain⟨T,V,f,rfl,m1,r1,c1⟩:=hv.kindOf h0;obtain⟨T',V',f',rfl,m2,r2,c2⟩:=hu.kindOf h1;have HN:=zh (zG (p:=p) (q:=q) h);have q1:((p.kind:Int) != (q.kind:Int))=true:=by simp;omega
 have C1:=zh c1;have C2:=zh c2;clear h h0 h1 hv hu c1 c2;go_enter func36,ntmps36;go_wp2_with fail;refine(C1.out _).mono ?_;rintro e w1 ⟨rfl,hb1⟩;go_wp2_with fail;refine(C2.out _).mono ?_;rintro e w2 ⟨rfl,hb2⟩;go_wp2_with fail;go_ret;exact⟨by rw[HN.out];rfl,two hb1 hb2⟩
