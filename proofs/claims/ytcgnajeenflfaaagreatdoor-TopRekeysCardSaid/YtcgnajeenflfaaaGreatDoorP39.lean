import Derived.Test.YtcgnajeenflfaaaGreatDoorP36
set_option maxRecDepth 100000
set_option maxHeartbeats 4000000
set_option linter.all false
open Go.Proofs.Tryz Go.RowKit
namespace Go.Proofs.YtcgnajeenflfaaaGreatDoor
namespace Lo
open D (aF)
open Ta (El ev iI aBn nT)
def bLr (s:ByteArray) (e:Ending):Prop:=∃ (n:Int) (b:Bool),e=.returned (.tuple #[.int .i64 n,.bool b])∧(b=true→n=iL s.data.toList)
theorem mY (s:ByteArray) (hs:s.size≤1048576) (w:World) (hg:GLd w):Calls prog 123 #[.string s] w fun e w'=>bLr s e∧Below w.heap.size w w':=by
 have HG:=zh hg;have HP:=zh (aDy s hs w hg.errs);clear hg;go_enter func123,ntmps123;go_wp2_with fail;refine HP.out.mono ?_;rintro e w1 ⟨h | h,hb⟩
 · obtain⟨a,rfl,h1,h0,h2,h3⟩:=h;have HB:=zh hb;have HD:=zh (aRa a w1 h1 (HG.out.bru.later hb));have H3:=zh h3;clear h1 hb HP h3;have hneq:∀ w:World,(binOp BinOp.eql 36 .nilIface .nilIface).run prog w=.ok (.bool true) w:=fun _=>by kernel_rfl
   go_wp2_with fail;refine HD.out.mono ?_;rintro e w2 ⟨p,rfl,_,hb2⟩;have HB2:=zh (HB.out.trans (hb2.mono HB.out.size));clear hb2;go_wp2_with fail;go_ret2
   exact⟨⟨a,_,rfl,fun _=>H3.out⟩,HB2.out⟩
 · obtain⟨a,T,V,rfl,h1⟩:=h;have hneq:∀ w:World,(binOp BinOp.eql 36 (.iface T V) .nilIface).run prog w=.ok (.bool false) w:=fun _=>by kernel_rfl
   have h2:-9223372036854775808≤a:=h1.1;have h3:a≤9223372036854775807:=h1.2;have HB:=zh hb;clear hb HP h1;go_wp2_with fail;go_ret2
   exact⟨⟨_,false,rfl,fun h=>by cases h⟩,HB.out⟩
theorem bLs:(prog.info? 176).map (fun i=>(i.zero,i.size,i.bytes))=some (some (.agg #[.bool false,.int .i64 0,.int .i64 0,.int .i64 0]),4,32):=by kernel_rfl
theorem aCx {w w':World} {base:Nat} {e:TypeId} {size n:Nat} {v:Value} {xs:List Value} (h:w.ownsRow base e size v n xs) (hb:Below w.heap.size w w'):w'.ownsRow base e size v n xs:=by
 refine⟨h.1,?_⟩;rcases h.2 with hn | ⟨g,cap,cur,rfl,hg,hgg,rest⟩
 · exact .inl hn
 · exact .inr ⟨g,cap,cur,rfl,hg,(hb.block g (Array.getElem?_eq_some_iff.1 hgg).1).trans hgg,rest⟩
theorem aZu {X:ByteArray} {vb:Bool} {a b c:Int} (h1:1<X.size) (hv:((X[1].toNat:Int)==42)=vb) (ha:a=iL (X.extract 2 6).data.toList) (hb:b=iL (X.extract 7 11).data.toList) (hc:c=iL (X.extract 12 16).data.toList):nT X=⟨vb,a,b,c⟩:=by
 have e1:X.data.toList.getD 1 0=X[1]:=by
  rw[List.getD,List.getElem?_eq_getElem (show 1<X.data.toList.length by rw[← Lib.size_eq];exact h1)];rfl
 have e2:(X[1]==42)=((X[1].toNat:Int)==42):=by
  by_cases h:X[1]=42
  · rw[h];rfl
  · rw[beq_eq_false_iff_ne.2 h];symm;simp only [beq_eq_false_iff_ne,ne_eq];intro e;exact h (UInt8.toNat_inj.1 (by show X[1].toNat=42;omega))
 unfold nT;rw[e1,e2,hv,ha,hb,hc]
theorem aPa {r s X:ByteArray} {es:List El} {N:Nat} (h:r.size % 17=0∧es.length+r.size / 17=N∧es++iI (r.size / 17) r=iI N s) (hr:17≤r.size) (hX:r.extract 0 17=X) :
 (r.extract 17 r.size).size % 17=0∧(es++[nT X]).length+(r.extract 17 r.size).size / 17=N∧(es++[nT X])++iI ((r.extract 17 r.size).size / 17) (r.extract 17 r.size)=iI N s:=by
 obtain⟨h1,h2,h3⟩:=h;have hz:(r.extract 17 r.size).size=r.size-17:=by rw[ByteArray.size_extract];omega
 obtain⟨k,hk⟩:∃ k,r.size / 17=k+1:=⟨r.size / 17-1,by omega⟩
 have hk2:(r.extract 17 r.size).size / 17=k:=by omega
 refine⟨by omega,by rw[List.length_append,List.length_singleton,hk2];omega,?_⟩;rw[hk2,← h3,hk,iI,hX,List.append_assoc];rfl
def aHu (s:ByteArray) (w:World) (e:Ending) (w':World):Prop :=
 ((∃ v es,e=.returned (.tuple #[v,.bool true])∧es=iI (s.size / 17) s∧es.length≤16∧w'.ownsRow w.heap.size 176 4 v es.length (ev es))∨e=.returned (.tuple #[.slice none 0 0,.bool false]))∧Below w.heap.size w w'
theorem aLk (s:ByteArray) (w:World) (h:s.size=0∨s.size % 17≠0∨16<s.size / 17) (hs:s.size≤1048576):Calls prog 95 #[.string s] w (aHu s w):=by
 by_cases h0:s.size=0
 · have hce:s.toList.isEmpty=true:=by
    obtain⟨⟨l⟩⟩:=s;cases l with
    | nil=>rw[← decide_eq_emptyBytes];rfl
    | cons _ _=>simp[ByteArray.size] at h0
   clear h;go_enter func95,ntmps95;go_wp2_with fail;go_ret2
   exact⟨.inr rfl,zr⟩
 have hce:s.toList.isEmpty=false:=by
  rw[← decide_eq_emptyBytes];exact decide_eq_false (fun e=>h0 (by rw[e];rfl))
 have t1:(s.size:Int).tmod 17=((s.size % 17:Nat):Int):=by rw[Int.tmod_eq_emod_of_nonneg (by omega)];omega
 have t2:(s.size:Int).tdiv 17=((s.size / 17:Nat):Int):=by rw[Int.tdiv_eq_ediv_of_nonneg (by omega)];omega
 obtain⟨m,hm⟩:∃ m,s.size % 17=m:=⟨_,rfl⟩
 obtain⟨d,hd⟩:∃ d,s.size / 17=d:=⟨_,rfl⟩
 rw[hm] at t1;rw[hd] at t2;have hdl:d≤1048576:=by omega
 by_cases h1:m=0
 · have e1:((m:Int) != 0)=false:=by simp;omega
   have e2:decide ((16:Int)<(d:Int))=true:=decide_eq_true (by omega);clear h h0 hm hd h1;go_enter func95,ntmps95;go_wp2_with fail;go_ret2
   exact⟨.inr rfl,zr⟩
 · have e1:((m:Int) != 0)=true:=by simp;omega
   clear h h0 hm hd h1;go_enter func95,ntmps95;go_wp2_with fail;go_ret2
   exact⟨.inr rfl,zr⟩
theorem aHv (s:ByteArray) (w:World) (h0:s.size≠0) (h1:s.size % 17=0) (h2:s.size / 17≤16) (hg:GLd w):Calls prog 95 #[.string s] w (aHu s w):=by
 have hce:s.toList.isEmpty=false:=by
  rw[← decide_eq_emptyBytes];exact decide_eq_false (fun e=>h0 (by rw[e];rfl))
 have t1:(s.size:Int).tmod 17=0:=by rw[Int.tmod_eq_emod_of_nonneg (by omega)];omega
 obtain⟨N,hN⟩:∃ N,s.size / 17=N:=⟨_,rfl⟩
 have t2:(s.size:Int).tdiv 17=(N:Int):=by rw[Int.tdiv_eq_ediv_of_nonneg (by omega)];omega
 have bWn:N≤16:=by omega
 have e2:decide ((16:Int)<(N:Int))=false:=decide_eq_false (by omega);have HN:=zh (And.intro hN h1);have HG:=zh hg;clear h0 h1 h2 hg hN;go_enter func95,ntmps95;go_wp2_with fail;go_loopw [0,4] (fun rv ov wr=>∃ (r:ByteArray) (es:List El),rv=.string r∧RowKit.Hid (r.size % 17=0∧es.length+r.size / 17=N∧es++iI (r.size / 17) r=iI N s)∧RowKit.Hid (wr.ownsRow w.heap.size 176 4 ov es.length (ev es))∧RowKit.Hid (Below w.heap.size w wr)) (fun rv _ _=>aNe rv)
 case atStart=>exact⟨s,[],rfl,zh ⟨HN.out.2,by have:=HN.out.1;simp;omega,by rw[HN.out.1];rfl⟩,zh (World.ownsRow_nil _ _ _ _),zh zr⟩
 case round =>
  obtain⟨r,es,rfl,HX,HO,HB⟩:=hrel;obtain⟨oa,oc,rfl⟩:=aP HO.out;by_cases hr0:r.size=0
  · have hre:r.toList.isEmpty=true:=by
     obtain⟨⟨l⟩⟩:=r;cases l with
     | nil=>rw[← decide_eq_emptyBytes];rfl
     | cons _ _=>simp[ByteArray.size] at hr0
    have HE:=zh (show es=iI N s∧es.length≤16 by
     have h:=HX.out;rw[hr0] at h;simp only [Nat.zero_div,iI,List.append_nil] at h;exact⟨h.2.2,by omega⟩)
    clear hr0;go_wp2_with fail;go_ret2
    exact⟨.inl ⟨_,es,rfl,by rw[HN.out.1];exact HE.out.1,HE.out.2,HO.out⟩,HB.out⟩
  have hre:r.toList.isEmpty=false:=by
   rw[← decide_eq_emptyBytes];exact decide_eq_false (fun e=>hr0 (by rw[e];rfl))
  have bSc:17≤r.size:=by have:=HX.out.1;omega
  have hrs:r.size≤1048576:=by have:=HX.out.2.1;omega
  obtain⟨X,hX⟩:∃ X,r.extract 0 17=X:=⟨_,rfl⟩
  have bWo:X.size=17:=by rw[← hX,ByteArray.size_extract];omega
  have sz:∀ i j,j≤17→(X.extract i j).size≤1048576:=fun i j hj=>by rw[ByteArray.size_extract];omega
  have HG1:=zh (HG.out.later HB.out);have HW1:=zh (mY (X.extract 2 6) (sz 2 6 (by omega)) wr HG1.out);have HXX:=zh hX;clear hr0;go_wp2_with fail;refine HW1.out.mono ?_;rintro e w1 ⟨⟨wa,ba,rfl,ha⟩,hb1⟩;have HA:=zh ha;have HG2:=zh (HG1.out.later hb1);have HB2:=zh (HB.out.trans (hb1.mono HB.out.size));have HO2:=zh (aCx HO.out hb1);have HW2:=zh (mY (X.extract 7 11) (sz 7 11 (by omega)) w1 HG2.out);clear ha hb1;go_wp2_with fail;refine HW2.out.mono ?_;rintro e w2 ⟨⟨wb,bb,rfl,hb⟩,hb2⟩;have HBb:=zh hb;have HG3:=zh (HG2.out.later hb2);have HB3:=zh (HB2.out.trans (hb2.mono HB2.out.size));have zR:=zh (aCx HO2.out hb2);have HW3:=zh (mY (X.extract 12 16) (sz 12 16 (by omega)) w2 HG3.out);clear hb hb2;go_wp2_with fail;refine HW3.out.mono ?_;rintro e w3 ⟨⟨wc,bc,rfl,hc⟩,hb3⟩;have HC:=zh hc;have dJ:=zh (HB3.out.trans (hb3.mono HB3.out.size));have HO4:=zh (aCx zR.out hb3);clear hc hb3;have x0:0<X.size:=by omega
  have x1:1<X.size:=by omega
  have x6:6<X.size:=by omega
  have x11:11<X.size:=by omega
  have x16:16<X.size:=by omega
  have HSZ:=zh sz;clear sz;cases f0:((X[0].toNat:Int) != 91) with
  | true =>
   go_wp2_with fail;go_ret2
   exact⟨.inr rfl,dJ.out⟩
  | false =>
  have hA:((X[1].toNat:Int) != 46)=false∨(((X[1].toNat:Int) != 46)=true∧((X[1].toNat:Int) != 42)=false)∨(((X[1].toNat:Int) != 46)=true∧((X[1].toNat:Int) != 42)=true):=by
   cases ((X[1].toNat:Int) != 46)<;>cases ((X[1].toNat:Int) != 42)<;>simp
  rcases hA with f1 | ⟨f1,f2⟩ | ⟨f1,f2⟩
  rotate_right
  · go_wp2_with fail;go_ret2
    exact⟨.inr rfl,dJ.out⟩
  all_goals
   cases f6:((X[6].toNat:Int) != 46) with
   | true =>
    go_wp2_with fail;go_ret2
    exact⟨.inr rfl,dJ.out⟩
   | false =>
   cases f11:((X[11].toNat:Int) != 46) with
   | true =>
    go_wp2_with fail;go_ret2
    exact⟨.inr rfl,dJ.out⟩
   | false =>
   cases f16:((X[16].toNat:Int) != 93) with
   | true =>
    go_wp2_with fail;go_ret2
    exact⟨.inr rfl,dJ.out⟩
   | false =>
   cases ba with
   | false =>
    go_wp2_with fail;go_ret2
    exact⟨.inr rfl,dJ.out⟩
   | true =>
   cases bb with
   | false =>
    go_wp2_with fail;go_ret2
    exact⟨.inr rfl,dJ.out⟩
   | true =>
   cases bc with
   | false =>
    go_wp2_with fail;go_ret2
    exact⟨.inr rfl,dJ.out⟩
   | true =>
   obtain⟨vb,hvb⟩:∃ vb,((X[1].toNat:Int)==42)=vb:=⟨_,rfl⟩
   have HCH:=zh (aZu x1 hvb (HA.out rfl) (HBb.out rfl) (HC.out rfl));have lM:=aV.lit w3 176 #[.bool vb,.int .i64 wa,.int .i64 wb,.int .i64 wc] 4 1 rfl;have hel:es.length≤16:=by have:=HX.out.2.1;omega
   have hs3:=dJ.out.size;go_wp2_with (at_builtin;refine aO rfl (.tmp 90) (.tmp 98) 170 rfl 176 (.agg #[.bool false,.int .i64 0,.int .i64 0,.int .i64 0]) 4 32 underlying170 bLs rfl (by decide) rfl (World.ownsRow.alloc HO4.out _) rfl lM (fun u hu=>by simp at hu;rcases hu with rfl | rfl | rfl | rfl<;>rfl) (by omega) (by decide) (by simp;omega) ?_;intro c7 kE w7 hO7 hg7 bDs);have hB7:Below w.heap.size w w7:=(dJ.out.alloc hs3 _).grown hg7 (by simp;omega) (fun k e=>(World.ownsRow.lt HO4.out k e).1);have HB7:=zh hB7;have HO7:=zh (show w7.ownsRow w.heap.size 176 4 (.slice c7 (es.length+1) kE) (es++[nT X]).length (ev (es++[nT X])) by
    rw[HCH.out,Ta.aGq,List.length_append,List.length_singleton];exact hO7)
   have HX7:=zh (aPa (X:=X) HX.out bSc HXX.out);have hrx:(r.extract 17 r.size).size+17=r.size:=by rw[ByteArray.size_extract];omega
   clear hO7 hg7 bDs hB7 lM;go_wp2_with fail;refine⟨⟨r.extract 17 r.size,es++[nT X],rfl,HX7,HO7,HB7⟩,?_⟩;show (r.extract 17 r.size).size<r.size
   omega
theorem aHw (s:ByteArray) (w:World) (hs:s.size≤1048576) (hg:GLd w):Calls prog 95 #[.string s] w (aHu s w):=by
 by_cases h:s.size=0∨s.size % 17≠0∨16<s.size / 17
 · exact aLk s w h hs
 · exact aHv s w (by omega) (by omega) (by omega) hg
end Lo
namespace Sc
open V (Same Pt VI aL bE PS lX flat cellsOf)
theorem sN {w w':World} {row:Option Nat} (h:w.grownBy w' row):Xv (fun k=>row=some k) w w':=⟨h.os,h.tape,h.output,h.size,fun k hk hp=>h.block k hk fun e=>hp e.symm⟩
theorem aCy {p:Pt} (h:aL p=true):V.Fit p:=by
 have h1:=bE h;obtain⟨hk,_,c2,c7,cn,c4,cr,ce⟩:=canon h1;have hk7:p.kind≤7:=hk;refine⟨by omega,?_,?_,?_⟩
 · by_cases h2:p.kind=2
   · rcases Nat.lt_or_ge 255 p.mag.toList.length with hl | hl
     · have:=cn h2;rw[wC hl] at this;cases this
     · rw[V.aD] at hl;omega
   · rw[(c2 h2).2];exact Nat.zero_le _
 · by_cases h4:p.kind=4
   · rw[c4 h4];decide
   · by_cases h3:p.kind=3∨p.kind=5∨p.kind=6
     · have:=cr h3;omega
     · rw[ce (by omega)];exact Nat.zero_le _
 · by_cases h7:p.kind=7
   · simp only [V.fB,h7,Bool.and_eq_true] at h1;have h2:=h1.2;simp at h2;omega
   · rw[c7 h7];exact Nat.zero_le _
section
variable {w wr w2 w3 w4 w5:World} {rb B0 a a2 pb lo n cap:Nat} {qP pv3 path rv rv2 tv u:Value} {b:ByteArray} {tn:Bool} {lp lp2:List Int} {ps:List (Pt×Value)} {q:Pt} {gc:Array Value} {it:Obj} {c:Option Addr} {x:Int} {o1:Obj}
theorem bLt (hr:gB wr rb tv b a tn qP) (ho0:aJ wr (rb+1) qP lp) (hg:((wr.alloc (.cells gc 79)).alloc it).grownBy w2 qP.ownBlock):gB w2 rb tv b a tn qP :=
 (sN hg).blk (fun e=>by have:=(ho0.lt e).1;omega) (aC.below hr ((zr.alloc lr (.cells gc 79)).alloc (by simp) it) hr.lt)
theorem bSd (hrb:rb<B0) (hB:B0≤wr.heap.size) (hr:gB wr rb tv b a tn qP) (ho0:aJ wr (rb+1) qP lp) (hrow:lX wr B0 qP rv ps) (hg:((wr.alloc (.cells gc 79)).alloc it).grownBy w2 qP.ownBlock) (ho:aJ w2 (rb+1) path lp2)
 (hpo:path.ownBlock=qP.ownBlock∨path.ownBlock=some ((wr.alloc (.cells gc 79)).alloc it).heap.size) :
 gB (w2.setCell ⟨rb,4,none⟩ path) rb tv b a tn path∧aJ (w2.setCell ⟨rb,4,none⟩ path) (rb+1) path lp2∧lX (w2.setCell ⟨rb,4,none⟩ path) B0 path rv ps∧aC (w2.setCell ⟨rb,4,none⟩ path) wr.heap.size 79 gc ∧
  Xv (fun k=>k=rb∨qP.ownBlock=some k) wr (w2.setCell ⟨rb,4,none⟩ path)∧(∀ k,path.ownBlock=some k→qP.ownBlock=some k∨wr.heap.size+2≤k):=by
 have hz:((wr.alloc (.cells gc 79)).alloc it).heap.size=wr.heap.size+2:=by simp
 have hpw:∀ k,qP.ownBlock=some k→rb+1≤k∧k<wr.heap.size:=fun k hk=>ho0.lt hk
 have h1:Below wr.heap.size wr ((wr.alloc (.cells gc 79)).alloc it):=(zr.alloc lr _).alloc (by simp) _;have hxg:=sN hg;have hown:∀ k,path.ownBlock=some k→qP.ownBlock=some k∨wr.heap.size+2≤k:=fun k hk=>by
  rcases hpo with e | e
  · exact .inl (e▸hk)
  · rw[e,hz] at hk;have:=Option.some.inj hk;omega
 have hx2:Xv (fun k=>k=rb∨qP.ownBlock=some k) wr w2:=(Xv.of_below h1).trans hxg fun k _ e=>.inr e
 have hx3:Xv (fun k=>k=rb∨qP.ownBlock=some k) wr (w2.setCell ⟨rb,4,none⟩ path):=hx2.aU (fun _=>.inl rfl) 4 path;have hr2:gB w2 rb tv b a tn qP:=hxg.blk (fun e=>by have:=(hpw _ e).1;omega) (aC.below hr h1 hr.lt);have hgb:aC ((wr.alloc (.cells gc 79)).alloc it) wr.heap.size 79 gc:=aC.below (aC.new _ _ _) (zr.alloc lr _) (by simp);refine⟨?_,?_,?_,?_,hx3,hown⟩
 · have:=aC.aU hr2 4 path;simpa[gB] using this
 · exact ho.xv ((Xv.refl (· = rb) w2).aU (fun _=>rfl) 4 path) fun k hk e=>by have:=(ho.lt hk).1;omega
 · have s1:=(hrow.below h1).xv (pv':=path) hxg (fun k e=>.inr e) fun k hk=>by
    rcases hpo with e | e
    · exact .inl (e▸hk)
    · exact .inr (by rw[e] at hk;exact Nat.le_of_eq (Option.some.inj hk))
   exact s1.xv ((Xv.refl (· = rb) w2).aU (fun _=>rfl) 4 path) (fun k e=>.inl (by omega)) fun k hk=>.inl hk
 · exact bH (hxg.blk (fun e=>by have:=(hpw _ e).2;omega) hgb) (by have:=hr.lt;omega) 4 path
theorem bSe (hrb:rb<B0) (hpb:pb<B0) (hne:pb≠rb) (hB:B0≤lo) (hr4:gB w4 rb tv b a2 tn (.slice c n cap)) (ho4:aJ w4 (rb+1) (.slice c n cap) (lp++[x])) (hrow4:lX w4 B0 (.slice c n cap) rv ps) (hlo:∀ k,rv.ownBlock=some k→k<lo)
 (hps:PS w4 (fun k=>lo≤k∧(Value.slice c n cap).ownBlock≠some k) q.items u) (hf:V.Fit q) (hap:∀ k,(Value.slice c n cap).ownBlock=some k→k≠pb)
 (hg:(w4.alloc (.cells (cellsOf q u) 57)).grownBy w5 rv.ownBlock) (hown:w5.ownsRow B0 57 6 rv2 (ps.length+1) (flat ps++(cellsOf q u).toList)) (hv:rv2.ownBlock=rv.ownBlock∨rv2.ownBlock=some (w4.alloc (.cells (cellsOf q u) 57)).heap.size)
 {v0 v1 v2 v3 v4:Value} (hP:aC w4 pb 57 #[v0,v1,v2,v3,v4,rv]) :
 gB ((w5.setCell ⟨pb,5,none⟩ rv2).setCell ⟨rb,4,none⟩ (.slice c (n-1) cap)) rb tv b a2 tn (.slice c (n-1) cap)∧aJ ((w5.setCell ⟨pb,5,none⟩ rv2).setCell ⟨rb,4,none⟩ (.slice c (n-1) cap)) (rb+1) (.slice c (n-1) cap) lp ∧
  lX ((w5.setCell ⟨pb,5,none⟩ rv2).setCell ⟨rb,4,none⟩ (.slice c (n-1) cap)) B0 (.slice c (n-1) cap) rv2 (ps++[(q,u)])∧aC ((w5.setCell ⟨pb,5,none⟩ rv2).setCell ⟨rb,4,none⟩ (.slice c (n-1) cap)) pb 57 #[v0,v1,v2,v3,v4,rv2] ∧
  Xv (fun k=>k=rb∨k=pb∨rv.ownBlock=some k) w4 ((w5.setCell ⟨pb,5,none⟩ rv2).setCell ⟨rb,4,none⟩ (.slice c (n-1) cap)):=by
 have hb:Below w4.heap.size w4 (w4.alloc (.cells (cellsOf q u) 57)):=zr.alloc lr _;have hxg:=sN hg;have hrv:∀ k,rv.ownBlock=some k→B0≤k∧k<w4.heap.size:=fun k hk=>V.jI hrow4.1 hk
 have hpa:∀ k,(Value.slice c n cap).ownBlock=some k→rb+1≤k∧k<w4.heap.size:=fun k hk=>ho4.lt hk
 have hsame:(Value.slice c (n-1) cap).ownBlock=(Value.slice c n cap).ownBlock:=by cases c<;>rfl
 have hx5:Xv (fun k=>k=rb∨k=pb∨rv.ownBlock=some k) w4 w5:=(Xv.of_below hb).trans hxg fun k _ e=>.inr (.inr e)
 have hx6:=(hx5.aU (b:=pb) (fun _=>.inr (.inl rfl)) 5 rv2)
 have hx7:=hx6.aU (b:=rb) (fun _=>.inl rfl) 4 (.slice c (n-1) cap);have hr5:gB w5 rb tv b a2 tn (.slice c n cap):=hxg.blk (fun e=>by have:=(hrv _ e).1;omega) (aC.below hr4 hb hr4.lt);have hP5:aC w5 pb 57 #[v0,v1,v2,v3,v4,rv]:=hxg.blk (fun e=>by have:=(hrv _ e).1;omega) (aC.below hP hb hP.lt);have ho5:aJ w5 (rb+1) (.slice c n cap) (lp++[x]):=(ho4.below hb).xv hxg fun k hk e=>hrow4.2.1 k e hk
 have bSf:lX w5 B0 (.slice c n cap) rv2 (ps++[(q,u)]):=(hrow4.below hb).snoc (fun k hk=>Nat.lt_of_lt_of_le (hpa k hk).2 hb.size)
  (hps.keep hb.size (fun k hk _=>hb.block k hk) fun k _ hS=>⟨by omega,hS.2,fun e=>by have:=hlo k e;omega⟩) hf hown hg hv
 refine⟨?_,?_,?_,?_,hx7⟩
 · have:=aC.aU (bH hr5 (Ne.symm hne) 5 rv2) 4 (.slice c (n-1) cap);simpa[gB] using this
 · exact(aJ.xv (P:=fun k=>k=pb∨k=rb) ho5.pop (((Xv.refl _ w5).aU (b:=pb) (fun _=>.inl rfl) 5 rv2).aU (b:=rb) (fun _=>.inr rfl) 4 _) fun k hk e=>by
    rw[hsame] at hk;rcases e with e | e
    · exact hap k hk e
    · have:=(hpa k hk).1;omega)
 · exact bSf.xv (P:=fun k=>k=pb∨k=rb) (((Xv.refl _ w5).aU (b:=pb) (fun _=>.inl rfl) 5 rv2).aU (b:=rb) (fun _=>.inr rfl) 4 _) (fun k e=>.inl (by omega)) fun k hk=>.inl (by rw[← hsame];exact hk)
 · have:=bH (hP5.aU 5 rv2) hne 4 (.slice c (n-1) cap);simpa using this
end
end Sc
namespace V
theorem aCz (V:Value) (w:World):(Instr.typeAssert (.iface 148 V) 34 148 true).run prog w=.ok (.tuple #[V,.bool true]) w:=by kernel_rfl
theorem aDa (V:Value) (w:World):(Instr.typeAssert (.iface 220 V) 34 148 true).run prog w=.ok (.tuple #[.agg #[.bool false],.bool false]) w:=by kernel_rfl
theorem aHx (V:Value) (w:World):(Instr.typeAssert (.iface 222 V) 34 148 true).run prog w=.ok (.tuple #[.agg #[.bool false],.bool false]) w:=by kernel_rfl
theorem aDb (V:Value) (w:World):(Instr.typeAssert (.iface 118 V) 34 148 true).run prog w=.ok (.tuple #[.agg #[.bool false],.bool false]) w:=by kernel_rfl
theorem aLl (x y:Bool) (w:World) :
 Calls prog 36 #[.iface 148 (.agg #[.bool x]),.iface 148 (.agg #[.bool y])] w fun e w'=>e=.returned (.bool (x==y))∧Below w.heap.size w w':=by
 have f1:=aCz;have m1:∀ w:World,(method 512 148 (.agg #[.bool x]) "Kind").run prog w=.ok (282,.agg #[.bool x]) w:=fun _=>by kernel_rfl
 have m2:∀ w:World,(method 512 148 (.agg #[.bool y]) "Kind").run prog w=.ok (282,.agg #[.bool y]) w:=fun _=>by kernel_rfl
 have m3:∀ w:World,(method 512 148 (.agg #[.bool y]) "Part").run prog w=.ok (283,.agg #[.bool y]) w:=fun _=>by kernel_rfl
 have fd:∀ w:World,(Instr.field 57 (.agg #[.int .u8 1,.bool y,.bool false,.string ⟨#[]⟩,.string ⟨#[]⟩,.slice none 0 0]) 1).run prog w=.ok (.bool y) w:=fun _=>by kernel_rfl
 go_enter func36,ntmps36;go_wp2_with fail;refine(vB _ _).mono ?_;rintro e w1 ⟨rfl,hb1⟩;go_wp2_with fail;refine(vB _ _).mono ?_;rintro e w2 ⟨rfl,hb2⟩;go_wp2_with fail;have hB:Below w.heap.size w w2:=two hb1 hb2;have hBa:=hB.alloc hB.size (.cells #[.bool x] 148);have hc:(w2.alloc (.cells #[.bool x] 148)).cell? ⟨w2.heap.size,0,none⟩=some (.bool x):=by simp
 obtain⟨W3,hW3⟩:∃ W3,W3=w2.alloc (.cells #[.bool x] 148):=⟨_,rfl⟩
 rw[← hW3] at hBa hc ⊢;have hBd:=hBa.drew;clear hW3;go_region_held3 (fun w'=>w'.cell? ⟨w2.heap.size,0,none⟩=some (.bool x)∧Below w.heap.size w w') (go_keep) (first
  | (go_at_call 283;refine(vM y _).mono ?_;rintro e w4 ⟨rfl,hb4⟩;have k1:=keeps hb4 (p:=⟨w2.heap.size,0,none⟩) (v:=.bool x) (by assumption);have k2:=two (by assumption) hb4))
 go_wp2_with fail;go_ret;exact⟨rfl,by assumption⟩
theorem aLm (x y:Bool) (a b:ByteArray) (w:World) (E:Bool) (hE:(x==y&&a.toList==b.toList)=E) :
 Calls prog 36 #[.iface 220 (.agg #[.bool x,.string a]),.iface 220 (.agg #[.bool y,.string b])] w fun e w'=>e=.returned (.bool E)∧Below w.heap.size w w':=by
 have f1:=aDa;have f2:=dX;have m1:∀ w:World,(method 512 220 (.agg #[.bool x,.string a]) "Kind").run prog w=.ok (300,.agg #[.bool x,.string a]) w:=fun _=>by kernel_rfl
 have m2:∀ w:World,(method 512 220 (.agg #[.bool y,.string b]) "Kind").run prog w=.ok (300,.agg #[.bool y,.string b]) w:=fun _=>by kernel_rfl
 have m3:∀ w:World,(method 512 220 (.agg #[.bool x,.string a]) "Num").run prog w=.ok (301,.agg #[.bool x,.string a]) w:=fun _=>by kernel_rfl
 have m4:∀ w:World,(method 512 220 (.agg #[.bool y,.string b]) "Num").run prog w=.ok (301,.agg #[.bool y,.string b]) w:=fun _=>by kernel_rfl
 have h24:=kN x y a b E hE;clear hE;go_enter func36,ntmps36;go_wp2_with fail;refine(vC _ _ _).mono ?_;rintro e w1 ⟨rfl,hb1⟩;go_wp2_with fail;refine(vC _ _ _).mono ?_;rintro e w2 ⟨rfl,hb2⟩;go_wp2_with fail;refine(jE _ _ _).mono ?_;rintro e w3 ⟨rfl,hb3⟩;go_wp2_with fail;refine(jE _ _ _).mono ?_;rintro e w4 ⟨rfl,hb4⟩;go_wp2_with fail;go_ret;exact⟨rfl,two (two (two hb1 hb2) hb3) hb4⟩
theorem aUq (k:Nat) (a b:ByteArray) (w:World) (E:Bool) (hE:(a.toList==b.toList)=E) :
 Calls prog 36 #[.iface 222 (.agg #[.int .u8 k,.string a]),.iface 222 (.agg #[.int .u8 k,.string b])] w fun e w'=>e=.returned (.bool E)∧Below w.heap.size w w':=by
 have f1:=aHx;have f2:=cK;have f3:=fE;have q0:((k:Int) != (k:Int))=false:=by simp
 have m1:∀ w:World,(method 512 222 (.agg #[.int .u8 k,.string a]) "Kind").run prog w=.ok (304,.agg #[.int .u8 k,.string a]) w:=fun _=>by kernel_rfl
 have m2:∀ w:World,(method 512 222 (.agg #[.int .u8 k,.string b]) "Kind").run prog w=.ok (304,.agg #[.int .u8 k,.string b]) w:=fun _=>by kernel_rfl
 have m3:∀ w:World,(method 512 222 (.agg #[.int .u8 k,.string a]) "Bytes").run prog w=.ok (303,.agg #[.int .u8 k,.string a]) w:=fun _=>by kernel_rfl
 have m4:∀ w:World,(method 512 222 (.agg #[.int .u8 k,.string b]) "Bytes").run prog w=.ok (303,.agg #[.int .u8 k,.string b]) w:=fun _=>by kernel_rfl
 go_enter func36,ntmps36;go_wp2_with fail;refine(aBj _ _ _).mono ?_;rintro e w1 ⟨rfl,hb1⟩;go_wp2_with fail;refine(aBj _ _ _).mono ?_;rintro e w2 ⟨rfl,hb2⟩;go_wp2_with fail;refine(fA _ _ _).mono ?_;rintro e w3 ⟨rfl,hb3⟩;go_wp2_with fail;refine(fA _ _ _).mono ?_;rintro e w4 ⟨rfl,hb4⟩;go_wp2_with fail;go_ret;exact⟨rfl,two (two (two hb1 hb2) hb3) hb4⟩
