import Derived.Test.YtcgnajeenflfaaaGreatDoorP33
import Derived.Test.YtcgnajeenflfaaaGreatDoorP35
set_option maxRecDepth 100000
set_option maxHeartbeats 4000000
set_option linter.all false
open Go.Proofs.Tryz Go.RowKit
namespace Go.Proofs.YtcgnajeenflfaaaGreatDoor
namespace Sc
open V (Pt)
open We (Co keyM)
open D (Dm)
open Ta (Tm emptyT ownT)
def own (n c:UInt8):Pt:=.mk 7 false false ⟨#[]⟩ ⟨#[]⟩ [.mk 2 false false ⟨#[n]⟩ ⟨#[]⟩ [],.mk 6 false false ⟨#[]⟩ ⟨#[c]⟩ []]
theorem ownO0:encS (keyM (fun _=>none) ownT) 200 [sNum,sTxt] (own 2 65)=some [34,126,253,22,33,16,0,0,0,65,0,1]:=by decide +kernel
theorem ownO1:encS (keyM (fun _=>none) ownT) 200 [sNum,sTxt] (own 2 97)=some [34,126,253,22,33,16,0,0,0,97,0,1]:=by decide +kernel
theorem ownO2:encS (keyM (fun _=>none) ownT) 200 [sNum,sTxt] (own 1 97)=some [34,126,254,22,33,16,0,0,0,97,0,1]:=by decide +kernel
theorem ownE0:encS (keyM (fun _=>none) emptyT) 200 [sNum,sTxt] (own 2 65)=some [34,126,253,22,33,251,192,128,65,0,0,65,0,1]:=by decide +kernel
theorem ownE1:encS (keyM (fun _=>none) emptyT) 200 [sNum,sTxt] (own 2 97)=some [34,126,253,22,33,251,192,128,97,0,0,97,0,1]:=by decide +kernel
theorem ownE2:encS (keyM (fun _=>none) emptyT) 200 [sNum,sTxt] (own 1 97)=some [34,126,254,22,33,251,192,128,97,0,0,97,0,1]:=by decide +kernel
end Sc
namespace V
def MadeIs (p:Pt) (w:World) (e:Ending) (w':World):Prop:=∃ u,e=.returned (.tuple #[u,.bool (makeE p==0)])∧(makeE p≠0→u=.nilIface)∧(makeE p=0→VI w' w.heap.size w'.heap.size p u)∧Below w.heap.size w w'
theorem topMade_any (p:Pt) (v:Value) (w:World) (hf:Fit p) (hp:PI w 0 w.heap.size p.items v) :
 Calls prog 12 #[.agg #[.int .u8 p.kind,.bool p.yes,.bool p.neg,.string p.mag,.string p.raw,v]] w (MadeIs p w):=by
 obtain⟨a,c,rfl,_,_⟩:=hp.open
 have HM:=zh (fun o=>make_any p (.slice a p.items.length c) (w.alloc o) hf ((hp.same (Same.of_below (zr.alloc lr o) lr)).wide lr (by simp)))
 obtain⟨m,hm⟩:∃ m,p.items.length=m:=⟨_,rfl⟩
 rw[hm] at HM ⊢
 clear hp hm hf
 obtain⟨E,hE⟩:∃ E,makeE p=E:=⟨_,rfl⟩
 have HE:=zh hE
 go_enter func12,ntmps12
 go_wp2_with fail
 refine(HM.out _).mono ?_
 rintro e w1 ⟨u,rfl,h1,h2,hb1⟩
 rw[hE] at h1 h2 ⊢
 have H1:=zh h1
 have H2:=zh h2
 have HB:=zh ((zr.alloc lr _).trans (hb1.mono (by simp)))
 have HS:=zh hb1.size
 clear h1 h2 hb1 hE
 go_wp2_with fail
 refine bodyPost_ret (v:=.tuple #[u,.bool (E==0)]) (by simp[results,Tryz.f12]) rfl ?_
 unfold MadeIs
 rw[HE.out]
 exact⟨u,rfl,H1.out,fun h=>(H2.out h).wide (by simp) lr,HB.out⟩
end V
namespace Sc
open We (TblAt WfT)
open D (Dm Wf)
open Ta (Tm)
def TblOk (Q:ByteArray→ByteArray→Dm→Tm→Prop) (a b:ByteArray) (w:World) (v:Value):Prop:=∃ (D:Dm) (T:Tm) (t:Addr),v=.pointer (some t)∧Wf D∧WfT T∧Q a b D T∧TblAt w 0 w.heap.size v D T
def LoadPost (Q:ByteArray→ByteArray→Dm→Tm→Prop) (a b:ByteArray) (w:World) (e:Ending) (w':World):Prop :=
 ∃ (v:Value) (c:Int) (x y:Int),e=.returned (.tuple #[v,.int .i64 c,.int .i64 x,.int .i64 y])∧(c=0→TblOk Q a b w' v)∧(a.size=0→b.size=0→c=0)∧Below w.heap.size w w'
def LoadAny (Q:ByteArray→ByteArray→Dm→Tm→Prop) (G:World→Prop):Prop:=∀ (a b:ByteArray) (w:World),G w→Calls prog 20 #[.string a,.string b] w (LoadPost Q a b w)
theorem tables_of {Q:ByteArray→ByteArray→Dm→Tm→Prop} {G:World→Prop} (hG:∀ w w',Below w.heap.size w w'→G w→G w') (HL:LoadAny Q G) (a b:ByteArray) (w:World) (hw:G w) :
 Calls prog 7 #[.agg #[.string a,.string b]] w fun e w'=>(∃ v,e=.returned v∧(TblOk Q a b w' v∨TblOk Q a ⟨#[]⟩ w' v∨TblOk Q ⟨#[]⟩ ⟨#[]⟩ w' v))∧Below w.heap.size w w':=by
 have hbox:Below w.heap.size w (w.alloc (.cells #[.string a,.string b] 23)):=zr.alloc lr _
 have H1:=zh (HL a b _ (hG _ _ hbox hw))
 have HB0:=zh hbox
 have HBX:=zh (Blk.new w 23 #[.string a,.string b])
 have HH:=zh (fun (x y:ByteArray) (w':World) (hb:Below w.heap.size w w')=>HL x y w' (hG _ _ hb hw))
 clear hbox hw hG HL
 go_enter func7,ntmps7
 go_wp2_with fail
 refine H1.out.mono ?_
 rintro e w1 ⟨v,c,x,y,rfl,h1,_,hb1⟩
 have HV:=zh h1
 have HB1:=zh (HB0.out.trans (hb1.mono HB0.out.size))
 have hx1:=Blk.below HBX.out hb1 (by simp)
 have c0:w1.cell? ⟨w.heap.size,0,none⟩=some (.string a):=hx1.cell 0
 clear h1 hb1 hx1
 by_cases hc:c=0
 · have q1:(c==0)=true:=by simp[hc]
   have HO:=zh (HV.out hc)
   clear hc
   go_wp2_with fail
   refine bodyPost_ret (v:=v) (by simp[results,Tryz.f7]) rfl ?_
   exact⟨⟨v,rfl,.inl HO.out⟩,HB1.out⟩
 · have q1:(c==0)=false:=by simp[hc]
   clear hc
   go_wp2_with fail
   refine(HH.out a ⟨#[]⟩ w1 HB1.out).mono ?_
   rintro e w2 ⟨v2,c2,x2,y2,rfl,h2,_,hb2⟩
   have HV2:=zh h2
   have HB2:=zh (HB1.out.trans (hb2.mono HB1.out.size))
   clear h2 hb2
   by_cases hc2:c2=0
   · have q2:(c2==0)=true:=by simp[hc2]
     have HO:=zh (HV2.out hc2)
     clear hc2
     go_wp2_with fail
     refine bodyPost_ret (v:=v2) (by simp[results,Tryz.f7]) rfl ?_
     exact⟨⟨v2,rfl,.inr (.inl HO.out)⟩,HB2.out⟩
   · have q2:(c2==0)=false:=by simp[hc2]
     clear hc2
     go_wp2_with fail
     refine(HH.out ⟨#[]⟩ ⟨#[]⟩ w2 HB2.out).mono ?_
     rintro e w3 ⟨v3,c3,x3,y3,rfl,h3,h4,hb3⟩
     have HO:=zh (h3 (h4 rfl rfl))
     have HB3:=zh (HB2.out.trans (hb3.mono HB2.out.size))
     clear h3 h4 hb3
     go_wp2_with fail
     refine bodyPost_ret (v:=v3) (by simp[results,Tryz.f7]) rfl ?_
     exact⟨⟨v3,rfl,.inr (.inr HO.out)⟩,HB3.out⟩
open D (Dm Wf DataAt)
open Ta (Tm TabAt)
def PartPost (Ok:ByteArray→World→Value→Prop) (a:ByteArray) (w:World) (e:Ending) (w':World):Prop :=
 ∃ (v:Value) (c:Int) (x:Int),e=.returned (.tuple #[v,.int .i64 c,.int .i64 x])∧(c=0→Ok a w' v)∧(a.size=0→c=0)∧Below w.heap.size w w'
def DataOk (Q:ByteArray→Dm→Prop) (a:ByteArray) (w:World) (v:Value):Prop:=∃ D:Dm,Wf D∧Q a D∧DataAt w 0 w.heap.size v D
def TabOk (Q:ByteArray→Tm→Prop) (a:ByteArray) (w:World) (v:Value):Prop:=∃ T:Tm,WfT T∧Q a T∧TabAt w 0 w.heap.size v T
def UcdAny (Q:ByteArray→Dm→Prop) (G:World→Prop):Prop:=∀ (a:ByteArray) (w:World),G w→Calls prog 37 #[.string a] w (PartPost (DataOk Q) a w)
def TabAny (Q:ByteArray→Tm→Prop) (G:World→Prop):Prop:=∀ (a:ByteArray) (w:World),G w→Calls prog 38 #[.string a] w (PartPost (TabOk Q) a w)
theorem load_of {Qd:ByteArray→Dm→Prop} {Qt:ByteArray→Tm→Prop} {G:World→Prop} (hG:∀ w w',Below w.heap.size w w'→G w→G w') (HD:UcdAny Qd G) (HT:TabAny Qt G):LoadAny (fun a b D T=>Qd a D∧Qt b T) G:=by
 intro a b w hw
 have H1:=zh (HD a w hw)
 have H2:=zh (fun (w':World) (hb:Below w.heap.size w w')=>HT b w' (hG _ _ hb hw))
 clear hw hG HD HT
 go_enter func20,ntmps20
 go_wp2_with fail
 refine H1.out.mono ?_
 rintro e w1 ⟨v,c,x,rfl,h1,h1z,hb1⟩
 have HV:=zh h1
 have HZ:=zh h1z
 have HB1:=zh hb1
 clear h1 h1z hb1
 by_cases hc:c=0
 case neg =>
  have q1:(c != 0)=true:=by simp[hc]
  have HC:=zh hc
  clear hc
  go_wp2_with fail
  refine bodyPost_ret (v:=.tuple #[.pointer none,.int .i64 c,.int .i64 1,.int .i64 x]) (by simp[results,Tryz.f20]) rfl ?_
  exact⟨_,_,_,_,rfl,fun h=>absurd h HC.out,fun h _=>HZ.out h,HB1.out⟩
 subst hc
 obtain⟨D,wf,hq,hd⟩:=HV.out rfl
 obtain⟨pd,hpd⟩:∃ pd,v=.pointer (some ⟨pd,0,none⟩):=by obtain⟨pd,_,_,_,h,_⟩:=hd;exact⟨pd,h⟩
 subst hpd
 have HQ:=zh hq
 have HDA:=zh hd
 clear hq hd
 go_wp2_with fail
 refine(H2.out w1 HB1.out).mono ?_
 rintro e w2 ⟨v2,c2,x2,rfl,h2,h2z,hb2⟩
 have HV2:=zh h2
 have HZ2:=zh h2z
 have HB12:=zh hb2
 have HB2:=zh (HB1.out.trans (hb2.mono HB1.out.size))
 clear h2 h2z hb2
 by_cases hc2:c2=0
 case neg =>
  have q2:(c2 != 0)=true:=by simp[hc2]
  have HC:=zh hc2
  clear hc2
  go_wp2_with fail
  refine bodyPost_ret (v:=.tuple #[.pointer none,.int .i64 c2,.int .i64 2,.int .i64 x2]) (by simp[results,Tryz.f20]) rfl ?_
  exact⟨_,_,_,_,rfl,fun h=>absurd h HC.out,fun _ h=>HZ2.out h,HB2.out⟩
 subst hc2
 obtain⟨T,wt,hq2,ht⟩:=HV2.out rfl
 obtain⟨pt,hpt⟩:∃ pt,v2=.pointer (some ⟨pt,0,none⟩):=by obtain⟨pt,_,_,_,_,_,_,h,_⟩:=ht;exact⟨pt,h⟩
 subst hpt
 have HQ2:=zh hq2
 have HTA:=zh ht
 clear hq2 ht
 go_wp2_with fail
 refine bodyPost_ret (v:=.tuple #[.pointer (some ⟨w2.heap.size,0,none⟩),.int .i64 0,.int .i64 0,.int .i64 0]) (by simp[results,Tryz.f20]) rfl ?_
 have hb3:Below w2.heap.size w2 (w2.alloc (.cells #[.pointer (some ⟨pd,0,none⟩),.pointer (some ⟨pt,0,none⟩)] 107)):=zr.alloc lr _
 have hbk:=Blk.new w2 107 #[.pointer (some ⟨pd,0,none⟩),.pointer (some ⟨pt,0,none⟩)]
 refine⟨_,_,_,_,rfl,fun _=>⟨D,T,_,rfl,wf,wt,⟨HQ.out,HQ2.out⟩,w2.heap.size,_,_,rfl,⟨Nat.zero_le _,hbk.lt⟩,hbk.cell 0,hbk.cell 1,?_,?_⟩,fun _ _=>rfl,HB2.out.trans (hb3.mono HB2.out.size)⟩
 · exact((HDA.out.later HB12.out lr).later hb3 HB12.out.size).wide lr (Nat.le_trans HB12.out.size hb3.size)
 · exact(HTA.out.later hb3 lr).wide lr hb3.size
end Sc
namespace Lo
open D (isI64)
open Ta (El ev elemsV elemsV_len chunkE)
def WPost (s:ByteArray) (e:Ending):Prop:=∃ (n:Int) (b:Bool),e=.returned (.tuple #[.int .i64 n,.bool b])∧(b=true→n=hexV s.data.toList)
theorem weight_any (s:ByteArray) (hs:s.size≤1048576) (w:World) (hg:GLd w):Calls prog 123 #[.string s] w fun e w'=>WPost s e∧Below w.heap.size w w':=by
 have HG:=zh hg
 have HP:=zh (ParseUint_any s hs w hg.errs)
 clear hg
 go_enter func123,ntmps123
 go_wp2_with fail
 refine HP.out.mono ?_
 rintro e w1 ⟨h | h,hb⟩
 · obtain⟨a,rfl,h1,h0,h2,h3⟩:=h
   have HB:=zh hb
   have HD:=zh (hex_any a w1 h1 (HG.out.bru.later hb))
   have H3:=zh h3
   clear h1 hb HP h3
   have hneq:∀ w:World,(binOp BinOp.eql 36 .nilIface .nilIface).run prog w=.ok (.bool true) w:=fun _=>by kernel_rfl
   go_wp2_with fail
   refine HD.out.mono ?_
   rintro e w2 ⟨p,rfl,_,hb2⟩
   have HB2:=zh (HB.out.trans (hb2.mono HB.out.size))
   clear hb2
   go_wp2_with fail
   go_ret2
   exact⟨⟨a,_,rfl,fun _=>H3.out⟩,HB2.out⟩
 · obtain⟨a,T,V,rfl,h1⟩:=h
   have hneq:∀ w:World,(binOp BinOp.eql 36 (.iface T V) .nilIface).run prog w=.ok (.bool false) w:=fun _=>by kernel_rfl
   have h2:-9223372036854775808≤a:=h1.1
   have h3:a≤9223372036854775807:=h1.2
   have HB:=zh hb
   clear hb HP h1
   go_wp2_with fail
   go_ret2
   exact⟨⟨_,false,rfl,fun h=>by cases h⟩,HB.out⟩
theorem infoE:(prog.info? 176).map (fun i=>(i.zero,i.size,i.bytes))=some (some (.agg #[.bool false,.int .i64 0,.int .i64 0,.int .i64 0]),4,32):=by kernel_rfl
theorem row_keep {w w':World} {base:Nat} {e:TypeId} {size n:Nat} {v:Value} {xs:List Value} (h:w.ownsRow base e size v n xs) (hb:Below w.heap.size w w'):w'.ownsRow base e size v n xs:=by
 refine⟨h.1,?_⟩
 rcases h.2 with hn | ⟨g,cap,cur,rfl,hg,hgg,rest⟩
 · exact .inl hn
 · exact .inr ⟨g,cap,cur,rfl,hg,(hb.block g (Array.getElem?_eq_some_iff.1 hgg).1).trans hgg,rest⟩
theorem chunk_is {X:ByteArray} {vb:Bool} {a b c:Int} (h1:1<X.size) (hv:((X[1].toNat:Int)==42)=vb) (ha:a=hexV (X.extract 2 6).data.toList) (hb:b=hexV (X.extract 7 11).data.toList) (hc:c=hexV (X.extract 12 16).data.toList):chunkE X=⟨vb,a,b,c⟩:=by
 have e1:X.data.toList.getD 1 0=X[1]:=by
  rw[List.getD,List.getElem?_eq_getElem (show 1<X.data.toList.length by rw[← Lib.size_eq];exact h1)]
  rfl
 have e2:(X[1]==42)=((X[1].toNat:Int)==42):=by
  by_cases h:X[1]=42
  · rw[h];rfl
  · rw[beq_eq_false_iff_ne.2 h]
    symm
    simp only [beq_eq_false_iff_ne,ne_eq]
    intro e
    exact h (UInt8.toNat_inj.1 (by show X[1].toNat=42;omega))
 unfold chunkE
 rw[e1,e2,hv,ha,hb,hc]
theorem elems_step {r s X:ByteArray} {es:List El} {N:Nat} (h:r.size % 17=0∧es.length+r.size / 17=N∧es++elemsV (r.size / 17) r=elemsV N s) (hr:17≤r.size) (hX:r.extract 0 17=X) :
 (r.extract 17 r.size).size % 17=0∧(es++[chunkE X]).length+(r.extract 17 r.size).size / 17=N∧(es++[chunkE X])++elemsV ((r.extract 17 r.size).size / 17) (r.extract 17 r.size)=elemsV N s:=by
 obtain⟨h1,h2,h3⟩:=h
 have hz:(r.extract 17 r.size).size=r.size-17:=by rw[ByteArray.size_extract];omega
 obtain⟨k,hk⟩:∃ k,r.size / 17=k+1:=⟨r.size / 17-1,by omega⟩
 have hk2:(r.extract 17 r.size).size / 17=k:=by omega
 refine⟨by omega,by rw[List.length_append,List.length_singleton,hk2];omega,?_⟩
 rw[hk2,← h3,hk,elemsV,hX,List.append_assoc]
 rfl
def ElsPost (s:ByteArray) (w:World) (e:Ending) (w':World):Prop :=
 ((∃ v es,e=.returned (.tuple #[v,.bool true])∧es=elemsV (s.size / 17) s∧es.length≤16∧w'.ownsRow w.heap.size 176 4 v es.length (ev es))∨e=.returned (.tuple #[.slice none 0 0,.bool false]))∧Below w.heap.size w w'
theorem elements_no (s:ByteArray) (w:World) (h:s.size=0∨s.size % 17≠0∨16<s.size / 17) (hs:s.size≤1048576):Calls prog 95 #[.string s] w (ElsPost s w):=by
 by_cases h0:s.size=0
 · have hce:s.toList.isEmpty=true:=by
    obtain⟨⟨l⟩⟩:=s
    cases l with
    | nil=>rw[← decide_eq_emptyBytes];rfl
    | cons _ _=>simp[ByteArray.size] at h0
   clear h
   go_enter func95,ntmps95
   go_wp2_with fail
   go_ret2
   exact⟨.inr rfl,zr⟩
 have hce:s.toList.isEmpty=false:=by
  rw[← decide_eq_emptyBytes]
  exact decide_eq_false (fun e=>h0 (by rw[e];rfl))
 have t1:(s.size:Int).tmod 17=((s.size % 17:Nat):Int):=by rw[Int.tmod_eq_emod_of_nonneg (by omega)];omega
 have t2:(s.size:Int).tdiv 17=((s.size / 17:Nat):Int):=by rw[Int.tdiv_eq_ediv_of_nonneg (by omega)];omega
 obtain⟨m,hm⟩:∃ m,s.size % 17=m:=⟨_,rfl⟩
 obtain⟨d,hd⟩:∃ d,s.size / 17=d:=⟨_,rfl⟩
 rw[hm] at t1
 rw[hd] at t2
 have hdl:d≤1048576:=by omega
 by_cases h1:m=0
 · have e1:((m:Int) != 0)=false:=by simp;omega
   have e2:decide ((16:Int)<(d:Int))=true:=decide_eq_true (by omega)
   clear h h0 hm hd h1
   go_enter func95,ntmps95
   go_wp2_with fail
   go_ret2
   exact⟨.inr rfl,zr⟩
 · have e1:((m:Int) != 0)=true:=by simp;omega
   clear h h0 hm hd h1
   go_enter func95,ntmps95
   go_wp2_with fail
   go_ret2
   exact⟨.inr rfl,zr⟩
theorem elements_yes (s:ByteArray) (w:World) (h0:s.size≠0) (h1:s.size % 17=0) (h2:s.size / 17≤16) (hg:GLd w):Calls prog 95 #[.string s] w (ElsPost s w):=by
 have hce:s.toList.isEmpty=false:=by
  rw[← decide_eq_emptyBytes]
  exact decide_eq_false (fun e=>h0 (by rw[e];rfl))
 have t1:(s.size:Int).tmod 17=0:=by rw[Int.tmod_eq_emod_of_nonneg (by omega)];omega
 obtain⟨N,hN⟩:∃ N,s.size / 17=N:=⟨_,rfl⟩
 have t2:(s.size:Int).tdiv 17=(N:Int):=by rw[Int.tdiv_eq_ediv_of_nonneg (by omega)];omega
 have hN16:N≤16:=by omega
 have e2:decide ((16:Int)<(N:Int))=false:=decide_eq_false (by omega)
 have HN:=zh (And.intro hN h1)
 have HG:=zh hg
 clear h0 h1 h2 hg hN
 go_enter func95,ntmps95
 go_wp2_with fail
 go_loopw [0,4] (fun rv ov wr=>∃ (r:ByteArray) (es:List El),rv=.string r∧RowKit.Hid (r.size % 17=0∧es.length+r.size / 17=N∧es++elemsV (r.size / 17) r=elemsV N s)∧RowKit.Hid (wr.ownsRow w.heap.size 176 4 ov es.length (ev es))∧RowKit.Hid (Below w.heap.size w wr)) (fun rv _ _=>strLen rv)
 case atStart=>exact⟨s,[],rfl,zh ⟨HN.out.2,by have:=HN.out.1;simp;omega,by rw[HN.out.1];rfl⟩,zh (World.ownsRow_nil _ _ _ _),zh zr⟩
 case round =>
  obtain⟨r,es,rfl,HX,HO,HB⟩:=hrel
  obtain⟨oa,oc,rfl⟩:=row_slice HO.out
  by_cases hr0:r.size=0
  · have hre:r.toList.isEmpty=true:=by
     obtain⟨⟨l⟩⟩:=r
     cases l with
     | nil=>rw[← decide_eq_emptyBytes];rfl
     | cons _ _=>simp[ByteArray.size] at hr0
    have HE:=zh (show es=elemsV N s∧es.length≤16 by
     have h:=HX.out
     rw[hr0] at h
     simp only [Nat.zero_div,elemsV,List.append_nil] at h
     exact⟨h.2.2,by omega⟩)
    clear hr0
    go_wp2_with fail
    go_ret2
    exact⟨.inl ⟨_,es,rfl,by rw[HN.out.1];exact HE.out.1,HE.out.2,HO.out⟩,HB.out⟩
  have hre:r.toList.isEmpty=false:=by
   rw[← decide_eq_emptyBytes]
   exact decide_eq_false (fun e=>hr0 (by rw[e];rfl))
  have hr17:17≤r.size:=by have:=HX.out.1;omega
  have hrs:r.size≤1048576:=by have:=HX.out.2.1;omega
  obtain⟨X,hX⟩:∃ X,r.extract 0 17=X:=⟨_,rfl⟩
  have hX17:X.size=17:=by rw[← hX,ByteArray.size_extract];omega
  have sz:∀ i j,j≤17→(X.extract i j).size≤1048576:=fun i j hj=>by rw[ByteArray.size_extract];omega
  have HG1:=zh (HG.out.later HB.out)
  have HW1:=zh (weight_any (X.extract 2 6) (sz 2 6 (by omega)) wr HG1.out)
  have HXX:=zh hX
  clear hr0
  go_wp2_with fail
  refine HW1.out.mono ?_
  rintro e w1 ⟨⟨wa,ba,rfl,ha⟩,hb1⟩
  have HA:=zh ha
  have HG2:=zh (HG1.out.later hb1)
  have HB2:=zh (HB.out.trans (hb1.mono HB.out.size))
  have HO2:=zh (row_keep HO.out hb1)
  have HW2:=zh (weight_any (X.extract 7 11) (sz 7 11 (by omega)) w1 HG2.out)
  clear ha hb1
  go_wp2_with fail
  refine HW2.out.mono ?_
  rintro e w2 ⟨⟨wb,bb,rfl,hb⟩,hb2⟩
  have HBb:=zh hb
  have HG3:=zh (HG2.out.later hb2)
  have HB3:=zh (HB2.out.trans (hb2.mono HB2.out.size))
  have HO3:=zh (row_keep HO2.out hb2)
  have HW3:=zh (weight_any (X.extract 12 16) (sz 12 16 (by omega)) w2 HG3.out)
  clear hb hb2
  go_wp2_with fail
  refine HW3.out.mono ?_
  rintro e w3 ⟨⟨wc,bc,rfl,hc⟩,hb3⟩
  have HC:=zh hc
  have HB4:=zh (HB3.out.trans (hb3.mono HB3.out.size))
  have HO4:=zh (row_keep HO3.out hb3)
  clear hc hb3
  have x0:0<X.size:=by omega
  have x1:1<X.size:=by omega
  have x6:6<X.size:=by omega
  have x11:11<X.size:=by omega
  have x16:16<X.size:=by omega
  have HSZ:=zh sz
  clear sz
  cases f0:((X[0].toNat:Int) != 91) with
  | true =>
   go_wp2_with fail
   go_ret2
   exact⟨.inr rfl,HB4.out⟩
  | false =>
  have hA:((X[1].toNat:Int) != 46)=false∨(((X[1].toNat:Int) != 46)=true∧((X[1].toNat:Int) != 42)=false)∨(((X[1].toNat:Int) != 46)=true∧((X[1].toNat:Int) != 42)=true):=by
   cases ((X[1].toNat:Int) != 46)<;>cases ((X[1].toNat:Int) != 42)<;>simp
  rcases hA with f1 | ⟨f1,f2⟩ | ⟨f1,f2⟩
  rotate_right
  · go_wp2_with fail
    go_ret2
    exact⟨.inr rfl,HB4.out⟩
  all_goals
   cases f6:((X[6].toNat:Int) != 46) with
   | true =>
    go_wp2_with fail
    go_ret2
    exact⟨.inr rfl,HB4.out⟩
   | false =>
   cases f11:((X[11].toNat:Int) != 46) with
   | true =>
    go_wp2_with fail
    go_ret2
    exact⟨.inr rfl,HB4.out⟩
   | false =>
   cases f16:((X[16].toNat:Int) != 93) with
   | true =>
    go_wp2_with fail
    go_ret2
    exact⟨.inr rfl,HB4.out⟩
   | false =>
   cases ba with
   | false =>
    go_wp2_with fail
    go_ret2
    exact⟨.inr rfl,HB4.out⟩
   | true =>
   cases bb with
   | false =>
    go_wp2_with fail
    go_ret2
    exact⟨.inr rfl,HB4.out⟩
   | true =>
   cases bc with
   | false =>
    go_wp2_with fail
    go_ret2
    exact⟨.inr rfl,HB4.out⟩
   | true =>
   obtain⟨vb,hvb⟩:∃ vb,((X[1].toNat:Int)==42)=vb:=⟨_,rfl⟩
   have HCH:=zh (chunk_is x1 hvb (HA.out rfl) (HBb.out rfl) (HC.out rfl))
   have HLIT:=RowIn.lit w3 176 #[.bool vb,.int .i64 wa,.int .i64 wb,.int .i64 wc] 4 1 rfl
   have hel:es.length≤16:=by have:=HX.out.2.1;omega
   have hs3:=HB4.out.size
   go_wp2_with (at_builtin;refine wpList_append_at rfl (.tmp 90) (.tmp 98) 170 rfl 176 (.agg #[.bool false,.int .i64 0,.int .i64 0,.int .i64 0]) 4 32 underlying170 infoE rfl (by decide) rfl (World.ownsRow.alloc HO4.out _) rfl HLIT (fun u hu=>by simp at hu;rcases hu with rfl | rfl | rfl | rfl<;>rfl) (by omega) (by decide) (by simp;omega) ?_;intro c7 cap7 w7 hO7 hg7 hat7)
   have hB7:Below w.heap.size w w7:=(HB4.out.alloc hs3 _).grown hg7 (by simp;omega) (fun k e=>(World.ownsRow.lt HO4.out k e).1)
   have HB7:=zh hB7
   have HO7:=zh (show w7.ownsRow w.heap.size 176 4 (.slice c7 (es.length+1) cap7) (es++[chunkE X]).length (ev (es++[chunkE X])) by
    rw[HCH.out,Ta.ev_app,List.length_append,List.length_singleton]
    exact hO7)
   have HX7:=zh (elems_step (X:=X) HX.out hr17 HXX.out)
   have hrx:(r.extract 17 r.size).size+17=r.size:=by rw[ByteArray.size_extract];omega
   clear hO7 hg7 hat7 hB7 HLIT
   go_wp2_with fail
   refine⟨⟨r.extract 17 r.size,es++[chunkE X],rfl,HX7,HO7,HB7⟩,?_⟩
   show (r.extract 17 r.size).size<r.size
   omega
theorem elements_any (s:ByteArray) (w:World) (hs:s.size≤1048576) (hg:GLd w):Calls prog 95 #[.string s] w (ElsPost s w):=by
 by_cases h:s.size=0∨s.size % 17≠0∨16<s.size / 17
 · exact elements_no s w h hs
 · exact elements_yes s w (by omega) (by omega) (by omega) hg
open D (isI64 sylB)
open Ta (isPtB)
def Pnt (n:Int):Prop:=isPtB n=true∧sylB n=false
def ugives (c:Int):Ending:=.panicked [{ v:=.iface 153 (.agg #[.int .i64 c]),recovered:=false }]
def ReadPost (e:Ending):Prop:=(∃ n,e=.returned (.int .i64 n)∧Pnt n)∨e=ugives 40
theorem read_any (s:ByteArray) (hs:s.size≤1048576) (w:World) (hg:GLd w):Calls prog 87 #[.string s] w fun e w'=>ReadPost e∧Below w.heap.size w w':=by
 have HG:=zh hg
 have HP:=zh (ParseInt_any s hs w hg.errs)
 clear hg
 go_enter func87,ntmps87
 go_wp2_with fail
 refine HP.out.mono ?_
 rintro e w1 ⟨h | h,hb⟩
 · obtain⟨a,rfl,h1,h2⟩:=h
   have HB:=zh hb
   have HD:=zh (digits_any a w1 h1 (HG.out.bru.later hb))
   clear h1 h2 hb HP
   go_wp2_with fail
   refine HD.out.mono ?_
   rintro e w2 ⟨p,rfl,_,hb2⟩
   have HB2:=zh (HB.out.trans (hb2.mono HB.out.size))
   clear hb2
   by_cases hps:p.toList=s.toList
   · go_wp2_with fail
     refine(Ta.isPointU_any a w2).mono ?_
     rintro e w3 ⟨rfl,rfl⟩
     cases hip:isPtB a with
     | false =>
      go_wp2_with fail
      exact⟨rfl,.inr rfl,HB2.out⟩
     | true =>
      go_wp2_with fail
      refine(YtcgnajeenflfaaaGreatDoor.D.syllable_any a w3).mono ?_
      rintro e w4 ⟨rfl,rfl⟩
      cases hsy:sylB a with
      | true =>
       go_wp2_with fail
       exact⟨rfl,.inr rfl,HB2.out⟩
      | false =>
       have HPt:=zh (show Pnt a from⟨hip,hsy⟩)
       clear hip hsy
       go_wp2_with fail
       go_ret
       exact⟨.inl ⟨a,rfl,HPt.out⟩,HB2.out⟩
   · go_wp2_with fail
     exact⟨rfl,.inr rfl,HB2.out⟩
 · obtain⟨a,T,V,rfl,h1⟩:=h
   have HB:=zh hb
   clear hb HP h1
   go_wp2_with fail
   exact⟨rfl,.inr rfl,HB.out⟩
end Lo
namespace D
inductive Lead (D:Dm) (x:Int):Int→Prop
 | one {q:Int}:q∈partsOf D x→Lead D x q
 | more {q z:Int}:Lead D x q→z∈partsOf D q→Lead D x z
theorem Lead.head {D:Dm} {x q z:Int} (h:q∈partsOf D x) (h2:Lead D q z):Lead D x z:=by
 induction h2 with
 | one h3=>exact .more (.one h) h3
 | more _ h3 ih=>exact .more ih h3
theorem countP_lt {p q:Int→Bool} {l:List Int} (h:∀ a∈l,p a=true→q a=true) {a:Int} (ha:a∈l) (hp:p a=false) (hq:q a=true):l.countP p<l.countP q:=by
 induction l with
 | nil=>cases ha
 | cons b r ih =>
  have hr:=fun a ha=>h a (List.mem_cons_of_mem _ ha)
  have hle:r.countP p≤r.countP q:=List.countP_mono_left hr
  rw[List.countP_cons,List.countP_cons]
  rcases List.mem_cons.1 ha with rfl | ha
  · rw[hp,hq];simp;omega
  · have h1:=ih hr ha
    have h2:=h b (List.mem_cons_self ..)
    cases hb:p b with
    | false=>simp;split<;>omega
    | true=>rw[h2 hb];simp;omega
open Classical in
noncomputable def rankK (D:Dm) (K:List Int) (x:Int):Nat:=if partsOf D x=[] then 0 else K.countP (fun k=>decide (Lead D x k))+1
theorem rankK_le (D:Dm) (K:List Int) (x:Int):rankK D K x≤K.length+1:=by
 unfold rankK
 split
 · omega
 · have:=List.countP_le_length (p:=fun k=>@decide (Lead D x k) (Classical.propDecidable _)) (l:=K);omega
open Classical in
theorem rankK_lt {D:Dm} {K:List Int} (hk:∀ x,partsOf D x≠[]→x∈K) (hn:∀ x∈K,¬ Lead D x x) {x q:Int} (h:q∈partsOf D x):rankK D K q<rankK D K x:=by
 have hx:partsOf D x≠[]:=fun e=>by rw[e] at h;cases h
 unfold rankK
 rw[if_neg hx]
 by_cases hq:partsOf D q=[]
 · rw[if_pos hq];omega
 · rw[if_neg hq]
   refine Nat.add_lt_add_right (countP_lt (a:=q) (fun a _ ha=>?_) (hk q hq) ?_ ?_) 1
   · exact decide_eq_true (Lead.head h (of_decide_eq_true ha))
   · exact decide_eq_false (hn q (hk q hq))
   · exact decide_eq_true (.one h)
structure Wp (D:Dm):Prop where
 plain:∀ x c l,D x=some (c,l)→sylB x=false∧∀ q∈l,sylB q=false∧0≤q∧q≤1114111
 cls:∀ x c l,D x=some (c,l)→0≤c∧c≤254
theorem Wp.at {D:Dm} (h:Wp D) {x q:Int} (hq:q∈partsOf D x):sylB x=false∧sylB q=false∧0≤q∧q≤1114111:=by
 obtain⟨c,hc⟩:=parts_mem (D:=D) (x:=x) (fun e=>by rw[e] at hq;cases hq)
 have:=h.plain x c _ hc
 exact⟨this.1,this.2 q hq⟩
theorem partsF_eq {D:Dm} (wp:Wp D) {r:Int→Nat} (hr:∀ x,∀ q∈partsOf D x,r q<r x):∀ (n:Nat) (x:Int),r x<n→∀ f g,sylB x=false→r x<f→r x<g→partsF D f x=partsF D g x:=by
 intro n
 induction n with
 | zero=>intro x h;omega
 | succ n ih =>
  intro x hx f g hs hf hg
  obtain⟨f,rfl⟩:∃ k,f=k+1:=⟨f-1,by omega⟩
  obtain⟨g,rfl⟩:∃ k,g=k+1:=⟨g-1,by omega⟩
  unfold partsF
  rw[hs]
  simp only [Bool.false_eq_true,if_false]
  by_cases hp:partsOf D x=[]
  · simp[hp]
  · rw[if_neg (by simpa using hp),if_neg (by simpa using hp)]
    refine flat_congr fun q hq=>?_
    have h1:=hr x q hq
    exact ih q (by omega) f g (wp.at hq).2.1 (by omega) (by omega)
theorem partsM_nil {D:Dm} {x:Int} (hs:sylB x=false) (h:partsOf D x=[]):partsM D x=[x]:=by
 unfold partsM
 rw[show 5000=4999+1 from rfl,partsF,hs,h]
 rfl
theorem partsM_step {D:Dm} (wp:Wp D) {r:Int→Nat} (hr:∀ x,∀ q∈partsOf D x,r q<r x) (hb:∀ x,r x≤4500) {x:Int} (hs:sylB x=false) (h:partsOf D x≠[]):partsM D x=(partsOf D x).flatMap (partsM D):=by
 unfold partsM
 rw[show 5000=4999+1 from rfl,partsF,hs]
 simp only [Bool.false_eq_true,if_false]
 rw[if_neg (by simpa using h)]
 refine flat_congr fun q hq=>?_
 have h1:=hb q
 exact partsF_eq wp hr (r q+1) q (by omega) 4999 5000 (wp.at hq).2.1 (by omega) (by omega)
theorem partsM_pos {D:Dm} (wp:Wp D) {r:Int→Nat} (hr:∀ x,∀ q∈partsOf D x,r q<r x) (hb:∀ x,r x≤4500):∀ (n:Nat) (x:Int),r x<n→sylB x=false→0<(partsM D x).length:=by
 intro n
 induction n with
 | zero=>intro x h;omega
 | succ n ih =>
  intro x hx hs
  by_cases hp:partsOf D x=[]
  · rw[partsM_nil hs hp];simp
  · rw[partsM_step wp hr hb hs hp]
    cases hl:partsOf D x with
    | nil=>exact absurd hl hp
    | cons q t =>
     have hq:q∈partsOf D x:=by rw[hl];exact List.mem_cons_self ..
     have h1:=ih q (by have:=hr x q hq;omega) (wp.at hq).2.1
     rw[List.flatMap_cons,List.length_append]
     omega
def capM (D:Dm) (x:Int):Nat:=min (partsM D x).length 19
def capL (D:Dm) (l:List Int):Nat:=min (l.flatMap (partsM D)).length 19
theorem capL_snoc (D:Dm) (l:List Int) (q:Int):capL D (l++[q])=min (capL D l+capM D q) 19:=by
 unfold capL capM
 rw[List.flatMap_append,List.length_append,List.flatMap_cons,List.flatMap_nil,List.append_nil]
 omega
theorem wf_of {D:Dm} {K:List Int} (wp:Wp D) (hlen:K.length≤4096) (hk:∀ x,partsOf D x≠[]→x∈K) (hn:∀ x∈K,¬ Lead D x x) (hc:∀ x∈K,capM D x≤18):Wf D where
 plain:=wp.plain
 cls:=wp.cls
 rank:=⟨rankK D K,fun x=>by have:=rankK_le D K x;omega,fun x c l hx q hq=>rankK_lt hk hn (by unfold partsOf;rw[hx];exact hq)⟩
 size:=fun x hs=>by
  by_cases hp:partsOf D x=[]
  · rw[partsM_nil hs hp];simp
  · have:=hc x (hk x hp)
    unfold capM at this
    omega
def rest (D:Dm) (K:List Int) (M:Int→Bool):Nat:=((K.filter fun k=>!M k).map fun k=>(partsOf D k).length).sum
theorem rest_cons (D:Dm) (k:Int) (r:List Int) (M:Int→Bool):rest D (k::r) M=(if M k then 0 else (partsOf D k).length)+rest D r M:=by
 unfold rest
 rw[List.filter_cons]
 cases M k<;>simp
theorem rest_put {D:Dm} {K:List Int} {M:Int→Bool} {p:Int} (h:M p=false) (hk:partsOf D p≠[]→p∈K):rest D K (fun x=>decide (x=p) || M x)+(partsOf D p).length≤rest D K M:=by
 have mono:∀ K:List Int,rest D K (fun x=>decide (x=p) || M x)≤rest D K M:=by
  intro K
  induction K with
  | nil=>exact Nat.le_refl _
  | cons k r ih =>
   rw[rest_cons,rest_cons]
   by_cases hkp:k=p
   · subst hkp;simp[h];omega
   · simp only [hkp,decide_false,Bool.false_or];omega
 by_cases hp:partsOf D p=[]
 · rw[hp];exact mono K
 · have hmem:=hk hp
   clear hk
   induction K with
   | nil=>cases hmem
   | cons k r ih =>
    rw[rest_cons,rest_cons]
    by_cases hkp:k=p
    · subst hkp
      have:=mono r
      simp[h];omega
    · have:=ih ((List.mem_cons.1 hmem).resolve_left fun e=>hkp e.symm)
      simp only [hkp,decide_false,Bool.false_or];omega
theorem rest_le {D:Dm} {n:Nat}:∀ (K:List Int),(∀ x,(partsOf D x).length≤n)→rest D K (fun _=>false)≤K.length*n:=by
 intro K h
 induction K with
 | nil=>exact Nat.zero_le _
 | cons k r ih =>
  have:=h k
  rw[rest_cons,List.length_cons,Nat.add_mul]
  simp only [Bool.false_eq_true,if_false]
  omega
structure Met (D:Dm) (x:Int) (M:Int→Bool) (L:List Int):Prop where
 self:M x=false
 start:∀ q∈partsOf D x,M q=true∨q∈L
 step:∀ k,M k=true→∀ q∈partsOf D k,M q=true∨q∈L
theorem Met.first (D:Dm) (x:Int):Met D x (fun _=>false) (partsOf D x):=⟨rfl,fun _ h=>.inr h,fun k h=>by cases h⟩
theorem Met.skip {D:Dm} {x p:Int} {M:Int→Bool} {L:List Int} (h:Met D x M (L++[p])) (hp:M p=true):Met D x M L:=by
 have key:∀ q,M q=true∨q∈L++[p]→M q=true∨q∈L:=by
  rintro q (h | h)
  · exact .inl h
  · rcases List.mem_append.1 h with h | h
    · exact .inr h
    · rw[List.mem_singleton.1 h];exact .inl hp
 exact⟨h.self,fun q hq=>key q (h.start q hq),fun k hk q hq=>key q (h.step k hk q hq)⟩
theorem Met.take {D:Dm} {x p:Int} {M:Int→Bool} {L:List Int} (h:Met D x M (L++[p])) (hp:p≠x):Met D x (fun y=>decide (y=p) || M y) (L++partsOf D p):=by
 have key:∀ q,M q=true∨q∈L++[p]→(decide (q=p) || M q)=true∨q∈L++partsOf D p:=by
  rintro q (h | h)
  · exact .inl (by rw[h];simp)
  · rcases List.mem_append.1 h with h | h
    · exact .inr (List.mem_append_left _ h)
    · rw[List.mem_singleton.1 h];exact .inl (by simp)
 refine⟨by simp[h.self,Ne.symm hp],fun q hq=>key q (h.start q hq),fun k hk q hq=>?_⟩
 by_cases hkp:k=p
 · subst hkp;exact .inr (List.mem_append_right _ hq)
 · exact key q (h.step k (by simpa[hkp] using hk) q hq)
theorem Met.done {D:Dm} {x:Int} {M:Int→Bool} (h:Met D x M []):¬ Lead D x x:=by
 have key:∀ q,Lead D x q→M q=true:=by
  intro q hq
  induction hq with
  | one h1=>exact(h.start _ h1).resolve_right (fun e=>by cases e)
  | more _ h1 ih=>exact(h.step _ ih _ h1).resolve_right (fun e=>by cases e)
 intro hx
 have:=key x hx
 rw[h.self] at this
 cases this
end D
namespace Sc
open V (Same Pt VI mayB mayB_ok PS RowS flat cellsOf)
theorem grown_xv {w w':World} {row:Option Nat} (h:w.grownBy w' row):Xv (fun k=>row=some k) w w':=⟨h.os,h.tape,h.output,h.size,fun k hk hp=>h.block k hk fun e=>hp e.symm⟩
theorem fit_of_may {p:Pt} (h:mayB p=true):V.Fit p:=by
 have h1:=mayB_ok h
 obtain⟨hk,_,c2,c7,cn,c4,cr,ce⟩:=canon h1
 have hk7:p.kind≤7:=hk
 refine⟨by omega,?_,?_,?_⟩
 · by_cases h2:p.kind=2
   · rcases Nat.lt_or_ge 255 p.mag.toList.length with hl | hl
     · have:=cn h2
       rw[chk_long hl] at this
       cases this
     · rw[V.size_of] at hl
       omega
   · rw[(c2 h2).2];exact Nat.zero_le _
 · by_cases h4:p.kind=4
   · rw[c4 h4];decide
   · by_cases h3:p.kind=3∨p.kind=5∨p.kind=6
     · have:=cr h3;omega
     · rw[ce (by omega)];exact Nat.zero_le _
 · by_cases h7:p.kind=7
   · simp only [V.okOne,h7,Bool.and_eq_true] at h1
     have h2:=h1.2
     simp at h2
     omega
   · rw[c7 h7];exact Nat.zero_le _
section
variable {w wr w2 w3 w4 w5:World} {rb B0 a a2 pb lo n cap:Nat} {pv2 pv3 path rv rv2 tv u:Value} {b:ByteArray} {tn:Bool} {lp lp2:List Int} {ps:List (Pt×Value)} {q:Pt} {gc:Array Value} {it:Obj} {c:Option Addr} {x:Int} {o1:Obj}
theorem tupA0 (hr:Rdr wr rb tv b a tn pv2) (ho0:OwnN wr (rb+1) pv2 lp) (hg:((wr.alloc (.cells gc 79)).alloc it).grownBy w2 pv2.ownBlock):Rdr w2 rb tv b a tn pv2 :=
 (grown_xv hg).blk (fun e=>by have:=(ho0.lt e).1;omega) (Blk.below hr ((zr.alloc lr (.cells gc 79)).alloc (by simp) it) hr.lt)
theorem tupA (hrb:rb<B0) (hB:B0≤wr.heap.size) (hr:Rdr wr rb tv b a tn pv2) (ho0:OwnN wr (rb+1) pv2 lp) (hrow:RowS wr B0 pv2 rv ps) (hg:((wr.alloc (.cells gc 79)).alloc it).grownBy w2 pv2.ownBlock) (ho:OwnN w2 (rb+1) path lp2)
 (hpo:path.ownBlock=pv2.ownBlock∨path.ownBlock=some ((wr.alloc (.cells gc 79)).alloc it).heap.size) :
 Rdr (w2.setCell ⟨rb,4,none⟩ path) rb tv b a tn path∧OwnN (w2.setCell ⟨rb,4,none⟩ path) (rb+1) path lp2∧RowS (w2.setCell ⟨rb,4,none⟩ path) B0 path rv ps∧Blk (w2.setCell ⟨rb,4,none⟩ path) wr.heap.size 79 gc ∧
  Xv (fun k=>k=rb∨pv2.ownBlock=some k) wr (w2.setCell ⟨rb,4,none⟩ path)∧(∀ k,path.ownBlock=some k→pv2.ownBlock=some k∨wr.heap.size+2≤k):=by
 have hz:((wr.alloc (.cells gc 79)).alloc it).heap.size=wr.heap.size+2:=by simp
 have hpw:∀ k,pv2.ownBlock=some k→rb+1≤k∧k<wr.heap.size:=fun k hk=>ho0.lt hk
 have h1:Below wr.heap.size wr ((wr.alloc (.cells gc 79)).alloc it):=(zr.alloc lr _).alloc (by simp) _
 have hxg:=grown_xv hg
 have hown:∀ k,path.ownBlock=some k→pv2.ownBlock=some k∨wr.heap.size+2≤k:=fun k hk=>by
  rcases hpo with e | e
  · exact .inl (e▸hk)
  · rw[e,hz] at hk
    have:=Option.some.inj hk
    omega
 have hx2:Xv (fun k=>k=rb∨pv2.ownBlock=some k) wr w2:=(Xv.of_below h1).trans hxg fun k _ e=>.inr e
 have hx3:Xv (fun k=>k=rb∨pv2.ownBlock=some k) wr (w2.setCell ⟨rb,4,none⟩ path):=hx2.set_ (fun _=>.inl rfl) 4 path
 have hr2:Rdr w2 rb tv b a tn pv2:=hxg.blk (fun e=>by have:=(hpw _ e).1;omega) (Blk.below hr h1 hr.lt)
 have hgb:Blk ((wr.alloc (.cells gc 79)).alloc it) wr.heap.size 79 gc:=Blk.below (Blk.new _ _ _) (zr.alloc lr _) (by simp)
 refine⟨?_,?_,?_,?_,hx3,hown⟩
 · have:=Blk.set_ hr2 4 path
   simpa[Rdr] using this
 · exact ho.xv ((Xv.refl (· = rb) w2).set_ (fun _=>rfl) 4 path) fun k hk e=>by have:=(ho.lt hk).1;omega
 · have s1:=(hrow.below h1).xv (pv':=path) hxg (fun k e=>.inr e) fun k hk=>by
    rcases hpo with e | e
    · exact .inl (e▸hk)
    · exact .inr (by rw[e] at hk;exact Nat.le_of_eq (Option.some.inj hk))
   exact s1.xv ((Xv.refl (· = rb) w2).set_ (fun _=>rfl) 4 path) (fun k e=>.inl (by omega)) fun k hk=>.inl hk
 · exact blk_set (hxg.blk (fun e=>by have:=(hpw _ e).2;omega) hgb) (by have:=hr.lt;omega) 4 path
theorem tupB (hrb:rb<B0) (hpb:pb<B0) (hne:pb≠rb) (hB:B0≤lo) (hr4:Rdr w4 rb tv b a2 tn (.slice c n cap)) (ho4:OwnN w4 (rb+1) (.slice c n cap) (lp++[x])) (hrow4:RowS w4 B0 (.slice c n cap) rv ps) (hlo:∀ k,rv.ownBlock=some k→k<lo)
 (hps:PS w4 (fun k=>lo≤k∧(Value.slice c n cap).ownBlock≠some k) q.items u) (hf:V.Fit q) (hap:∀ k,(Value.slice c n cap).ownBlock=some k→k≠pb)
 (hg:(w4.alloc (.cells (cellsOf q u) 57)).grownBy w5 rv.ownBlock) (hown:w5.ownsRow B0 57 6 rv2 (ps.length+1) (flat ps++(cellsOf q u).toList)) (hv:rv2.ownBlock=rv.ownBlock∨rv2.ownBlock=some (w4.alloc (.cells (cellsOf q u) 57)).heap.size)
 {v0 v1 v2 v3 v4:Value} (hP:Blk w4 pb 57 #[v0,v1,v2,v3,v4,rv]) :
 Rdr ((w5.setCell ⟨pb,5,none⟩ rv2).setCell ⟨rb,4,none⟩ (.slice c (n-1) cap)) rb tv b a2 tn (.slice c (n-1) cap)∧OwnN ((w5.setCell ⟨pb,5,none⟩ rv2).setCell ⟨rb,4,none⟩ (.slice c (n-1) cap)) (rb+1) (.slice c (n-1) cap) lp ∧
  RowS ((w5.setCell ⟨pb,5,none⟩ rv2).setCell ⟨rb,4,none⟩ (.slice c (n-1) cap)) B0 (.slice c (n-1) cap) rv2 (ps++[(q,u)])∧Blk ((w5.setCell ⟨pb,5,none⟩ rv2).setCell ⟨rb,4,none⟩ (.slice c (n-1) cap)) pb 57 #[v0,v1,v2,v3,v4,rv2] ∧
  Xv (fun k=>k=rb∨k=pb∨rv.ownBlock=some k) w4 ((w5.setCell ⟨pb,5,none⟩ rv2).setCell ⟨rb,4,none⟩ (.slice c (n-1) cap)):=by
 have hb:Below w4.heap.size w4 (w4.alloc (.cells (cellsOf q u) 57)):=zr.alloc lr _
 have hxg:=grown_xv hg
 have hrv:∀ k,rv.ownBlock=some k→B0≤k∧k<w4.heap.size:=fun k hk=>V.ownRow_lt hrow4.1 hk
 have hpa:∀ k,(Value.slice c n cap).ownBlock=some k→rb+1≤k∧k<w4.heap.size:=fun k hk=>ho4.lt hk
 have hsame:(Value.slice c (n-1) cap).ownBlock=(Value.slice c n cap).ownBlock:=by cases c<;>rfl
 have hx5:Xv (fun k=>k=rb∨k=pb∨rv.ownBlock=some k) w4 w5:=(Xv.of_below hb).trans hxg fun k _ e=>.inr (.inr e)
 have hx6:=(hx5.set_ (b:=pb) (fun _=>.inr (.inl rfl)) 5 rv2)
 have hx7:=hx6.set_ (b:=rb) (fun _=>.inl rfl) 4 (.slice c (n-1) cap)
 have hr5:Rdr w5 rb tv b a2 tn (.slice c n cap):=hxg.blk (fun e=>by have:=(hrv _ e).1;omega) (Blk.below hr4 hb hr4.lt)
 have hP5:Blk w5 pb 57 #[v0,v1,v2,v3,v4,rv]:=hxg.blk (fun e=>by have:=(hrv _ e).1;omega) (Blk.below hP hb hP.lt)
 have ho5:OwnN w5 (rb+1) (.slice c n cap) (lp++[x]):=(ho4.below hb).xv hxg fun k hk e=>hrow4.2.1 k e hk
 have hro5:RowS w5 B0 (.slice c n cap) rv2 (ps++[(q,u)]):=(hrow4.below hb).snoc (fun k hk=>Nat.lt_of_lt_of_le (hpa k hk).2 hb.size)
  (hps.keep hb.size (fun k hk _=>hb.block k hk) fun k _ hS=>⟨by omega,hS.2,fun e=>by have:=hlo k e;omega⟩) hf hown hg hv
 refine⟨?_,?_,?_,?_,hx7⟩
 · have:=Blk.set_ (blk_set hr5 (Ne.symm hne) 5 rv2) 4 (.slice c (n-1) cap)
   simpa[Rdr] using this
 · exact(OwnN.xv (P:=fun k=>k=pb∨k=rb) ho5.pop (((Xv.refl _ w5).set_ (b:=pb) (fun _=>.inl rfl) 5 rv2).set_ (b:=rb) (fun _=>.inr rfl) 4 _) fun k hk e=>by
    rw[hsame] at hk
    rcases e with e | e
    · exact hap k hk e
    · have:=(hpa k hk).1;omega)
 · exact hro5.xv (P:=fun k=>k=pb∨k=rb) (((Xv.refl _ w5).set_ (b:=pb) (fun _=>.inl rfl) 5 rv2).set_ (b:=rb) (fun _=>.inr rfl) 4 _) (fun k e=>.inl (by omega)) fun k hk=>.inl (by rw[← hsame];exact hk)
 · have:=blk_set (hP5.set_ 5 rv2) hne 4 (.slice c (n-1) cap)
   simpa using this
end
end Sc
section
open Go.Extern.Stop Go.Stop Go.Extern
theorem Isf.typeOf (v:Value) (w:World):(Extern.ReflectliteType.typeOf #[.iface 41 v]).run prog w=.ok (.iface 197 (.agg #[.pointer (some ⟨11,41,none⟩)])) w:=by kernel_rfl
theorem Isf.comparable (w:World):((Extern.ReflectliteType.method fun t=>do Rtype.noPackHeld "Comparable" t;(fun a=>Value.bool a.comparable) <$> typeInfo t) #[.agg #[.pointer (some ⟨11,41,none⟩)]]).run prog w=.ok (.bool true) w:=by kernel_rfl
theorem Isf.method (v:Value) (w:World):(Go.method 512 197 v "Comparable").run prog w=.ok (290,v) w:=by kernel_rfl
theorem Isf.same0 (w:World):(binOp .eql 36 (.iface 41 (.int .i64 0)) (.iface 41 (.int .i64 0))).run prog w=.ok (.bool true) w:=by kernel_rfl
theorem is_same (w:World):Calls prog 46 #[.iface 41 (.int .i64 0),.iface 41 (.int .i64 0),.bool true] w fun e w'=>e=.returned (.bool true)∧Below w.heap.size w w':=by
 have hO:=Isf.same0
 go_enter func46,ntmps46
 go_wp2_with fail
 refine wp_loop_rounds 1 ?_
 rw[rounds_succ]
 go_wp2_with fail
 go_ret
 exact⟨rfl,zr⟩
theorem is_zero (w:World):Calls prog 25 #[.iface 41 (.int .i64 0),.iface 41 (.int .i64 0)] w fun e w'=>e=.returned (.bool true)∧Below w.heap.size w w':=by
 have h8:=@run_callFunc_extern prog 45 _ Extern.ReflectliteType.typeOf func45 (by kernel_rfl) (by kernel_rfl) (by kernel_rfl) (by kernel_rfl)
 have h32:=@run_callFunc_extern prog 290 _ (Extern.ReflectliteType.method fun t=>do Rtype.noPackHeld "Comparable" t;pure (.bool (← typeInfo t).comparable)) func290 (by kernel_rfl) (by kernel_rfl) (by kernel_rfl) (by kernel_rfl)
 have tT:=Isf.typeOf
 have cT:=Isf.comparable
 have mR:=Isf.method
 go_enter func25,ntmps25
 go_wp2_with fail
 refine(is_same _).mono ?_
 rintro e w1 ⟨rfl,hb1⟩
 go_wp2_with fail
 go_ret
 exact⟨rfl,hb1⟩
end
