import Derived.Test.YtcgnajeenflfaaaGreatDoorP41
import Derived.Test.YtcgnajeenflfaaaGreatDoorP44
import Derived.Test.YtcgnajeenflfaaaGreatDoorP47
import Derived.Test.YtcgnajeenflfaaaGreatDoorP48
import Derived.Test.YtcgnajeenflfaaaGreatDoorP49
set_option maxRecDepth 100000
set_option maxHeartbeats 4000000
set_option linter.all false
open Go.Proofs.Tryz Go.RowKit
namespace Go.Proofs.YtcgnajeenflfaaaGreatDoor
namespace Sc
open V (Pt Fit PI VI aPt bW aL sQ aDd gK)
open We (Co bT lF)
open D (Dm Wf)
open Ta (Tm eY aJn aAw aGs aJo yF)
open Lo (GLd Qd Qt aGb aGa)
abbrev Qb (a b:ByteArray) (D:Dm) (T:Tm):Prop:=Qd a D∧Qt b T
theorem aDm (a b:ByteArray) (w:World) (hg:GLd w) :
 Calls prog 7 #[.agg #[.string a,.string b]] w fun e w'=>(∃ v,e=.returned v∧(aCn Qb a b w' v∨aCn Qb a ⟨#[]⟩ w' v∨aCn Qb ⟨#[]⟩ ⟨#[]⟩ w' v))∧Below w.heap.size w w' :=
 aTs (fun _ _ hb h=>h.later hb) (bDy (fun _ _ hb h=>h.later hb) (fun a w h=>aGb a w h) (fun a w h=>aGa a w h)) a b w hg
theorem aLz (a b:ByteArray) (w:World) (hg:GLd w) :
 Calls prog 7 #[.agg #[.string a,.string b]] w fun e w'=>(∃ (D:Dm) (T:Tm) (t:Addr),e=.returned (.pointer (some t))∧Wf D∧lF T∧Tb D T t w')∧Below w.heap.size w w':=by
 refine(aDm a b w hg).mono ?_;rintro e w' ⟨⟨v,rfl,h⟩,hb⟩;refine⟨?_,hb⟩;rcases h with ⟨D,T,t,rfl,h1,h2,_,h3⟩ | ⟨D,T,t,rfl,h1,h2,_,h3⟩ | ⟨D,T,t,rfl,h1,h2,_,h3⟩<;>exact⟨D,T,t,rfl,h1,h2,h3⟩
def bEk (K:Co→ByteArray→List UInt8) (la lb lc:List UInt8):Prop :=
 encS K 200 [nV,nW] (own 2 65)=some la∧encS K 200 [nV,nW] (own 2 97)=some lb∧encS K 200 [nV,nW] (own 1 97)=some lc
theorem bBi {D:Dm} {T:Tm} (hD:D=fun _=>none) (hT:T=aJn∨T=eY) :
 bEk (bT D T) [34,126,253,22,33,16,0,0,0,65,0,1] [34,126,253,22,33,16,0,0,0,97,0,1] [34,126,254,22,33,16,0,0,0,97,0,1] ∨
 bEk (bT D T) [34,126,253,22,33,251,192,128,65,0,0,65,0,1] [34,126,253,22,33,251,192,128,97,0,0,97,0,1] [34,126,254,22,33,251,192,128,97,0,0,97,0,1]:=by
 subst hD;rcases hT with rfl | rfl
 · exact .inl ⟨bLl,bLm,bLn⟩
 · exact .inr ⟨bLo,bLp,bLq⟩
theorem aQd (w:World) (hg:GLd w) :
 Calls prog 7 #[.agg #[.string ⟨#[]⟩,.string aAw]] w fun e w'=>(∃ (D:Dm) (T:Tm) (t:Addr),e=.returned (.pointer (some t))∧Wf D∧lF T∧(D=fun _=>none)∧(T=aJn∨T=eY)∧Tb D T t w')∧Below w.heap.size w w':=by
 refine(aDm _ _ w hg).mono ?_;rintro e w' ⟨⟨v,rfl,h⟩,hb⟩;refine⟨?_,hb⟩;rcases h with ⟨D,T,t,rfl,h1,h2,⟨q1,q2⟩,h3⟩ | ⟨D,T,t,rfl,h1,h2,⟨q1,q2⟩,h3⟩ | ⟨D,T,t,rfl,h1,h2,⟨q1,q2⟩,h3⟩
 · exact⟨D,T,t,rfl,h1,h2,q1 rfl,.inl (q2.trans aJo),h3⟩
 · exact⟨D,T,t,rfl,h1,h2,q1 rfl,.inr (q2.trans yF),h3⟩
 · exact⟨D,T,t,rfl,h1,h2,q1 rfl,.inr (q2.trans yF),h3⟩
theorem bIu {w:World} {g:Nat} {n c:UInt8} (h:aC w g 57 #[.int .u8 2,.bool false,.bool false,.string ⟨#[n]⟩,.string ⟨#[]⟩,.slice none 0 0,.int .u8 6,.bool false,.bool false,.string ⟨#[]⟩,.string ⟨#[c]⟩,.slice none 0 0]) :
 PI w 0 w.heap.size (own n c).items (.slice (some ⟨g,0,none⟩) 2 2):=by
 refine PI.mk (own n c).items (some ⟨g,0,none⟩) 2 (fun _=>.slice none 0 0) (Nat.le_refl 2) (fun j hj=>⟨g,0,rfl,Nat.zero_le _,h.lt,?_⟩) (fun j hj=>?_) (fun j hj=>?_)
 · match j,hj with
   | 0,_=>exact⟨h.cell 0,h.cell 1,h.cell 2,h.cell 3,h.cell 4,h.cell 5⟩
   | 1,_=>exact⟨h.cell 6,h.cell 7,h.cell 8,h.cell 9,h.cell 10,h.cell 11⟩
 · match j,hj with
   | 0,_=>exact⟨show 2<256 by decide,show 1≤_ by decide,show 0≤_ by decide,show 0≤_ by decide⟩
   | 1,_=>exact⟨show 6<256 by decide,show 0≤_ by decide,show 1≤_ by decide,show 0≤_ by decide⟩
 · match j,hj with
   | 0,_=>exact PI.nil _ _ _
   | 1,_=>exact PI.nil _ _ _
theorem aDn {w:World} {g:Nat} {n c:UInt8} (hm:bW (own n c)=0) (h:aC w g 57 #[.int .u8 2,.bool false,.bool false,.string ⟨#[n]⟩,.string ⟨#[]⟩,.slice none 0 0,.int .u8 6,.bool false,.bool false,.string ⟨#[]⟩,.string ⟨#[c]⟩,.slice none 0 0]) :
 Calls prog 12 #[.agg #[.int .u8 7,.bool false,.bool false,.string ⟨#[]⟩,.string ⟨#[]⟩,.slice (some ⟨g,0,none⟩) 2 2]] w fun e w'=>(∃ u,e=.returned (.tuple #[u,.bool true])∧VI w' 0 w'.heap.size (own n c) u)∧Below w.heap.size w w':=by
 refine(sQ (own n c) (.slice (some ⟨g,0,none⟩) 2 2) w ⟨by simp[own,Pt.kind],by simp[own,Pt.mag,ByteArray.size],by simp[own,Pt.raw,ByteArray.size],by simp[own,Pt.items]⟩ (bIu h)).mono ?_;rintro e w' ⟨u,rfl,_,h2,hb⟩;rw[hm];exact⟨⟨u,rfl,(h2 hm).wide (Nat.zero_le _) lr⟩,hb⟩
open V (Pt Fit PI VI bW aL aDd gK)
open We (Co bT lF wN)
open Ta (Tm)
open Lo (GLd)
theorem tX.out {l:List UInt8} {w w':World} {e:Ending} (h:tX (some l) w e w'):e=.returned (.tuple #[.string ⟨l.toArray⟩,.nilIface])∧Below w.heap.size w w':=h
theorem aVw {K:Co→ByteArray→List UInt8} (h:bEk K [34,126,253,22,33,16,0,0,0,65,0,1] [34,126,253,22,33,16,0,0,0,97,0,1] [34,126,254,22,33,16,0,0,0,97,0,1] ∨
 bEk K [34,126,253,22,33,251,192,128,65,0,0,65,0,1] [34,126,253,22,33,251,192,128,97,0,0,97,0,1] [34,126,254,22,33,251,192,128,97,0,0,97,0,1]) :
 ∃ la lb lc,encS K 200 [nV,nW] (own 2 65)=some la∧encS K 200 [nV,nW] (own 2 97)=some lb∧encS K 200 [nV,nW] (own 1 97)=some lc∧Op.bytesLess la lb=true∧Op.bytesLess lb lc=true∧lb.length≤20:=by
 rcases h with ⟨h1,h2,h3⟩ | ⟨h1,h2,h3⟩
 · exact⟨_,_,_,h1,h2,h3,by decide +kernel,by decide +kernel,by decide⟩
 · exact⟨_,_,_,h1,h2,h3,by decide +kernel,by decide +kernel,by decide⟩
theorem aQe (w:World) (hg:GLd w) (he:aEd w):Calls prog 5 #[] w fun e w'=>e=.returned (.bool true)∧Below w.heap.size w w':=by
 have HT:=zh (aQd w hg);have HE:=zh he;clear hg he;go_enter func5,ntmps5;go_wp2_with fail;refine HT.out.mono ?_;rintro e w1 ⟨⟨D,T,t,rfl,wf,wt,hD,hT,htb⟩,hb1⟩;have HK:=zh (bBi hD hT);have WF:=zh wf;have WT:=zh wt;have TB1:=zh htb;have HB1:=zh hb1;clear wf wt hD hT htb hb1;go_wp2_with fail;refine(nU 2 (by decide) _).mono ?_;rintro e w2 ⟨rfl,hb⟩;have HN0:=zh hb;clear hb;go_wp2_with fail;have HA0:=zh (aC.new w2 57 #[.int .u8 2,.bool false,.bool false,.string ⟨#[2]⟩,.string ⟨#[]⟩,.slice none 0 0,.int .u8 6,.bool false,.bool false,.string ⟨#[]⟩,.string ⟨#[65]⟩,.slice none 0 0]);have HG0:=zh ((Below.refl w2.heap.size w2).alloc lr (.cells #[.int .u8 2,.bool false,.bool false,.string ⟨#[2]⟩,.string ⟨#[]⟩,.slice none 0 0,.int .u8 6,.bool false,.bool false,.string ⟨#[]⟩,.string ⟨#[65]⟩,.slice none 0 0] 57));refine(qL (some ⟨w2.heap.size,0,none⟩) 2 2 _).mono ?_;rintro e w3 ⟨rfl,hb⟩;have HM0:=zh (aDn (n:=2) (c:=65) (by decide +kernel) (aC.below HA0.out hb HA0.out.lt));have HU0:=zh (HN0.out.trans ((HG0.out.trans (hb.mono HG0.out.size)).mono HN0.out.size));clear hb HN0 HA0 HG0;go_wp2_with fail;refine HM0.out.mono ?_;rintro e w4 ⟨⟨x0,rfl,hv⟩,hb⟩;have HC0:=zh (HU0.out.trans (hb.mono HU0.out.size));have dJ:=zh (HB1.out.trans (HC0.out.mono HB1.out.size));have TB4:=zh (bV TB1.out HC0.out);have V0:=zh hv;clear hv hb HM0 HU0 HC0 HB1 TB1;go_wp2_with fail;refine(nU 2 (by decide) _).mono ?_;rintro e w5 ⟨rfl,hb⟩;have HN1:=zh hb;clear hb
 go_wp2_with fail;have HA1:=zh (aC.new w5 57 #[.int .u8 2,.bool false,.bool false,.string ⟨#[2]⟩,.string ⟨#[]⟩,.slice none 0 0,.int .u8 6,.bool false,.bool false,.string ⟨#[]⟩,.string ⟨#[97]⟩,.slice none 0 0]);have HG1:=zh ((Below.refl w5.heap.size w5).alloc lr (.cells #[.int .u8 2,.bool false,.bool false,.string ⟨#[2]⟩,.string ⟨#[]⟩,.slice none 0 0,.int .u8 6,.bool false,.bool false,.string ⟨#[]⟩,.string ⟨#[97]⟩,.slice none 0 0] 57));refine(qL (some ⟨w5.heap.size,0,none⟩) 2 2 _).mono ?_;rintro e w6 ⟨rfl,hb⟩;have HM1:=zh (aDn (n:=2) (c:=97) (by decide +kernel) (aC.below HA1.out hb HA1.out.lt));have HU1:=zh (HN1.out.trans ((HG1.out.trans (hb.mono HG1.out.size)).mono HN1.out.size));clear hb HN1 HA1 HG1;go_wp2_with fail;refine HM1.out.mono ?_;rintro e w7 ⟨⟨x1,rfl,hv⟩,hb⟩;have HC1:=zh (HU1.out.trans (hb.mono HU1.out.size));have HB7:=zh (dJ.out.trans (HC1.out.mono dJ.out.size));have TB7:=zh (bV TB4.out HC1.out);have V1:=zh hv;have V0:=zh (aX V0.out HC1.out);clear hv hb HM1 HU1 HC1 dJ TB4;go_wp2_with fail;refine(nU 1 (by decide) _).mono ?_;rintro e w8 ⟨rfl,hb⟩;have HN2:=zh hb;clear hb;go_wp2_with fail;have HA2:=zh (aC.new w8 57 #[.int .u8 2,.bool false,.bool false,.string ⟨#[1]⟩,.string ⟨#[]⟩,.slice none 0 0,.int .u8 6,.bool false,.bool false,.string ⟨#[]⟩,.string ⟨#[97]⟩,.slice none 0 0])
 have HG2:=zh ((Below.refl w8.heap.size w8).alloc lr (.cells #[.int .u8 2,.bool false,.bool false,.string ⟨#[1]⟩,.string ⟨#[]⟩,.slice none 0 0,.int .u8 6,.bool false,.bool false,.string ⟨#[]⟩,.string ⟨#[97]⟩,.slice none 0 0] 57));refine(qL (some ⟨w8.heap.size,0,none⟩) 2 2 _).mono ?_;rintro e w9 ⟨rfl,hb⟩;have pY:=zh (aDn (n:=1) (c:=97) (by decide +kernel) (aC.below HA2.out hb HA2.out.lt));have HU2:=zh (HN2.out.trans ((HG2.out.trans (hb.mono HG2.out.size)).mono HN2.out.size));clear hb HN2 HA2 HG2;go_wp2_with fail;refine pY.out.mono ?_;rintro e w10 ⟨⟨x2,rfl,hv⟩,hb⟩;have HC2:=zh (HU2.out.trans (hb.mono HU2.out.size));have vR:=zh (HB7.out.trans (HC2.out.mono HB7.out.size));have bIv:=zh (bV TB7.out HC2.out);have V2:=zh hv;have V0:=zh (aX V0.out HC2.out);have V1:=zh (aX V1.out HC2.out);clear hv hb pY HU2 HC2 HB7 TB7;have GE:=zh (HE.out.later vR.out);obtain⟨la,lb,lc,hk0,hk1,hk2,hab,hbc,hbs⟩:=aVw HK.out;have K0:=zh hk0;have K1:=zh hk1;have K2:=zh hk2;have KB:=zh hbs;clear hk0 hk1 hk2 hbs HE HK;go_wp2_with fail;refine(lY _).mono ?_;rintro e w11 ⟨b0,hlt,rfl,hfi,hb⟩;have HC0:=zh hb;have HF0:=zh (kK WF.out WT.out t 200 [nV,nW] (own 2 65) x0 (some ⟨b0,0,none⟩) 2 w11 (by decide) (by decide +kernel) (bV bIv.out hb) (aX V0.out hb) hfi);clear hlt hfi hb;go_wp2_with fail;refine HF0.out.mono ?_;intro e w12 hE;rw[K0.out] at hE;obtain⟨rfl,hb⟩:=hE.out;have HD0:=zh (HC0.out.trans (hb.mono HC0.out.size))
 have zH:=zh (vR.out.trans (HD0.out.mono vR.out.size));have bIw:=zh (bV bIv.out HD0.out);have GE:=zh (GE.out.later HD0.out);have V0:=zh (aX V0.out HD0.out);have V1:=zh (aX V1.out HD0.out);have V2:=zh (aX V2.out HD0.out);clear hb hE HC0 HF0 HD0 vR bIv;go_wp2_with fail;refine(lY _).mono ?_;rintro e w13 ⟨b1,hlt,rfl,hfi,hb⟩;have HC1:=zh hb;have HF1:=zh (kK WF.out WT.out t 200 [nV,nW] (own 2 97) x1 (some ⟨b1,0,none⟩) 2 w13 (by decide) (by decide +kernel) (bV bIw.out hb) (aX V1.out hb) hfi);clear hlt hfi hb;go_wp2_with fail;refine HF1.out.mono ?_;intro e w14 hE;rw[K1.out] at hE;obtain⟨rfl,hb⟩:=hE.out;have HD1:=zh (HC1.out.trans (hb.mono HC1.out.size));have aPx:=zh (zH.out.trans (HD1.out.mono zH.out.size));have bIx:=zh (bV bIw.out HD1.out);have GE:=zh (GE.out.later HD1.out);have V0:=zh (aX V0.out HD1.out);have V1:=zh (aX V1.out HD1.out);have V2:=zh (aX V2.out HD1.out);clear hb hE HC1 HF1 HD1 zH bIw;go_wp2_with fail;refine(lY _).mono ?_;rintro e w15 ⟨b2,hlt,rfl,hfi,hb⟩;have HC2:=zh hb;have pV:=zh (kK WF.out WT.out t 200 [nV,nW] (own 1 97) x2 (some ⟨b2,0,none⟩) 2 w15 (by decide) (by decide +kernel) (bV bIx.out hb) (aX V2.out hb) hfi);clear hlt hfi hb;go_wp2_with fail;refine pV.out.mono ?_;intro e w16 hE;rw[K2.out] at hE;obtain⟨rfl,hb⟩:=hE.out;have HD2:=zh (HC2.out.trans (hb.mono HC2.out.size))
 have bIy:=zh (aPx.out.trans (HD2.out.mono aPx.out.size));have bNe:=zh (bV bIx.out HD2.out);have GE:=zh (GE.out.later HD2.out);have V0:=zh (aX V0.out HD2.out);have V1:=zh (aX V1.out HD2.out);have V2:=zh (aX V2.out HD2.out);clear hb hE HC2 pV HD2 aPx bIx;go_wp2_with fail;refine(lY _).mono ?_;rintro e w17 ⟨b3,hlt,rfl,hfi,hb⟩;have HC:=zh hb;have HF:=zh (aDf WF.out WT.out t 200 [nV,nW] (some ⟨b3,0,none⟩) 2 ⟨lb.toArray⟩ w17 (by decide) (by have:=KB.out;rw[size_mk];omega) (bV bNe.out hb) (GE.out.later hb) hfi);clear hlt hfi hb;go_wp2_with fail;refine HF.out.mono ?_;intro e w18 hE;rw[toList_mk,aKd (wN WT.out D) (by decide +kernel) K1.out] at hE;obtain⟨⟨y,rfl,hy⟩,hb⟩:=hE;have HD:=zh (HC.out.trans (hb.mono HC.out.size));have bIz:=zh (bIy.out.trans (HD.out.mono bIy.out.size));have HS:=zh (aDd (own 2 97) (own 2 97) y x1 w18 (by decide +kernel) (by decide +kernel) (hy.wide (Nat.zero_le _) lr) (aX V1.out HD.out));clear hb hy HC HF HD bIy bNe;go_wp2_with fail;refine HS.out.mono ?_;rintro e w19 ⟨rfl,hb⟩;rw[show gK (own 2 97) (own 2 97)=true by decide +kernel];have bVc:=zh (bIz.out.trans (hb.mono bIz.out.size));clear hb HS bIz;go_wp2_with fail;go_ret;exact⟨rfl,bVc.out⟩
end Sc
namespace Rk
open V
open Sc
open We (bT lF wN)
open D (Dm Wf)
open Ta (Tm)
open Lo (GLd VarReads pQ)
theorem topRekeys_any (x y:ByteArray) (lim jA:Int) (F F2:List Sc.Fd) (a0 b0 l0:Option Addr) (k0 k2 l1:Nat) (L:List (Int×Pt)) (p:Pt) (pv:Value) (w:World)
 (hl:F.length≤140737488351232) (hl2:F2.length≤140737488351232) (hL:L.length≤140737488351232) (hf:Fit p) (hg:GLd w) (he:aEd w) (hn:xD w) (hfi:FI w 0 w.heap.size F (.slice a0 F.length k0))
 (aPu:FI w 0 w.heap.size F2 (.slice b0 F2.length k2)) (hs:nC w 0 w.heap.size L (.slice l0 L.length l1)) (hp:PI w 0 w.heap.size p.items pv) :
 Calls prog 4 #[.agg #[.string x,.string y,.int .i64 lim,.slice a0 F.length k0],.agg #[.int .i64 jA,.slice b0 F2.length k2,.slice l0 L.length l1],.agg #[.int .u8 p.kind,.bool p.yes,.bool p.neg,.string p.mag,.string p.raw,pv]] w
  fun e w'=>e=.returned (.bool true)∧Below w.heap.size w w' :=
 topRekeys_gen x y lim jA F F2 a0 b0 l0 k0 k2 l1 L p pv w (fun w' hb=>aQe w' (hg.later hb) (he.later hb)) aVi (fun w' hb=>aLz x y w' (hg.later hb)) (fun v w' hp=>(sQ p v w' hf hp).mono fun _ _ h=>h)
  (fun D wf T wt t key w' hb htb hm henc=>by
   have h1:=bMy henc;refine(aDf wf wt t lim F a0 k0 key w' hl (by have:=h1.2;rw[aD] at this;omega) htb (he.later hb) (bA hfi hb)).mono fun e w'' h=>?_
   rw[aKd (wN wt D) hm henc] at h;exact h)
  hl hl2 hL hf he hn hfi aPu hs hp
theorem bXi : "*" ++ "errors.errorString" = "*errors.errorString" := by decide
theorem bJa (u:TypeId) (h:prog.typeName? 3 u=some "*errors.errorString"):u=347 :=
 typeName_ptr_named (nm := "errors.errorString") (by rw[bXi];kernel_rfl) (by kernel_rfl) (by decide) u (by rw[bXi];exact h)
theorem aEf {l:List (String×DataW Unit)} {W:World} (h:laidMetH prog l W) (hm:("dovetail/rekey.none", (Rows.laid_dovetail_rekey_none:DataW Unit))∈l):xD W:=by
 obtain⟨g',t',cs,fuel,p,hg',hty',hvar,hd⟩:=pQ h hm (by kernel_rfl);have hg:prog.globalNamed "dovetail/rekey.none" = some 0:=by kernel_rfl
 obtain rfl:=Option.some.inj (hg.symm.trans hg');have hty:(prog.globals[0]?).map (·.type)=some 36:=by kernel_rfl
 obtain rfl:=Option.some.inj (hty.symm.trans hty');unfold Rows.laid_dovetail_rekey_none at hd;obtain⟨_,u,v,hcs,hn,_⟩:=iface_of_trod underlying36 hd;obtain rfl:=bJa u hn;refine⟨v,?_⟩;have:=World.var?_cell hg hvar 0;rw[this,show cs=#[.iface 347 v] by cases cs;simp_all];rfl
