import Derived.Test.YtcgnajeenflfaaaGreatDoorP33
import Derived.Test.YtcgnajeenflfaaaGreatDoorP36
set_option maxRecDepth 100000
set_option maxHeartbeats 4000000
set_option linter.all false
open Go.Proofs.Tryz Go.RowKit
namespace Go.Proofs.YtcgnajeenflfaaaGreatDoor
namespace Rk
open V
theorem pF {p:Pt} (h:bW p=0):dH 16 p=false∧aL p=true:=by
 unfold bW at h;cases hd:dH 16 p with
 | true=>rw[hd] at h;simp at h
 | false =>
  rw[hd] at h;cases hm:aL p with
  | true=>exact⟨rfl,rfl⟩
  | false=>rw[hm] at h;simp at h
theorem sH {p:Pt} (h:bW p=0):aW p≤16:=by
 have h1:=(pF h).1;have h2:=sV 16 p;rcases Nat.lt_or_ge 16 (aW p) with h3 | h3
 · rw[h2.2 h3] at h1;cases h1
 · exact h3
theorem aAa (p:Pt):bW p=0∨bW p=90∨bW p=91:=by
 unfold bW;split
 · exact .inr (.inr rfl)
 · split
   · exact .inl rfl
   · exact .inr (.inl rfl)
def nA (p:Pt) (f:Int) (q:Pt):Option Pt :=
 if 0≤f then p.items[f.toNat]? else if bW q=0∧aW q<16 then some q else none
def gJ (p:Pt):List (Int×Pt)→Option (List Pt)
 | []=>some []
 | s::r=>(nA p s.1 s.2).bind fun q=>(gJ p r).map (q::·)
def mapM (L:List (Int×Pt)) (p:Pt):Option Pt:=if L.length≤1024 then (gJ p L).map (.mk 7 false false .empty .empty ·) else none
theorem aFt {p q r:Pt} {f:Int} (hm:aL p=true) (hd:aW p≤16) (h7:p.kind=7) (h:nA p f q=some r):aL r=true∧aW r≤15:=by
 unfold nA at h;split at h
 · have hr:=List.mem_of_getElem? h;have h1:=qI hr;rw[fO,if_pos h7] at hd;exact⟨dW hm hr,by omega⟩
 · split at h
   · next h1=>injection h with h;subst h;exact⟨(pF h1.1).2,by omega⟩
   · cases h
theorem aCw {p:Pt}:∀ {L:List (Int×Pt)} {l:List Pt},gJ p L=some l→l.length=L.length
 | [],l,h=>by injection h with h;subst h;rfl
 | s::r,l,h=>by
  unfold gJ at h;cases h1:nA p s.1 s.2 with
  | none=>rw[h1] at h;cases h
  | some q =>
   rw[h1] at h;cases h2:gJ p r with
   | none=>rw[h2] at h;cases h
   | some m=>rw[h2] at h;injection h with h;subst h;simp[aCw h2]
theorem aLj {p:Pt} {L:List (Int×Pt)} {i:Nat} {ps:List Pt} (hi:i<L.length) (h:gJ p L=(gJ p (L.drop i)).map (ps++·)) :
 (nA p L[i].1 L[i].2=none→gJ p L=none)∧∀ q,nA p L[i].1 L[i].2=some q→gJ p L=(gJ p (L.drop (i+1))).map ((ps++[q])++·):=by
 rw[h,List.drop_eq_getElem_cons hi,gJ];refine⟨fun h1=>by rw[h1];rfl,fun q h1=>?_⟩;rw[h1,Option.bind_some,Option.map_map];congr 1
 funext m
 simp
def nC (w:World) (lo hi:Nat) (L:List (Int×Pt)) (v:Value):Prop:=∃ (a:Option Addr) (cap:Nat),v=.slice a L.length cap∧L.length≤cap ∧
 ∀ j (h:j<L.length),∃ b off u,a=some ⟨b,off,none⟩∧lo≤b∧b<hi∧w.cell? ⟨b,off+j*7,none⟩=some (.int .i64 L[j].1)∧bY w b (off+j*7+1) L[j].2 u∧Fit L[j].2∧PI w lo hi L[j].2.items u
theorem nC.same {lo hi:Nat} {w w':World} {L:List (Int×Pt)} {v:Value} (h:nC w lo hi L v) (hs:Same lo hi w w'):nC w' lo hi L v:=by
 obtain⟨a,cap,e,hc,hat⟩:=h;refine⟨a,cap,e,hc,fun j hj=>?_⟩;obtain⟨b,off,u,h1,h2,h3,h4,h5,h6,h7⟩:=hat j hj;exact⟨b,off,u,h1,h2,h3,(World.cell?_of_block (hs b h2 h3)).trans h4,h5.same hs h2 h3,h6,h7.same hs⟩
theorem nC.wide {lo hi lo' hi':Nat} {w:World} {L:List (Int×Pt)} {v:Value} (h:nC w lo hi L v) (h1:lo'≤lo) (h2:hi≤hi'):nC w lo' hi' L v:=by
 obtain⟨a,cap,e,hc,hat⟩:=h;refine⟨a,cap,e,hc,fun j hj=>?_⟩;obtain⟨b,off,u,k1,k2,k3,k4,k5,k6,k7⟩:=hat j hj;exact⟨b,off,u,k1,by omega,by omega,k4,k5,k6,k7.wide h1 h2⟩
theorem nC.later {w w1:World} {L:List (Int×Pt)} {v:Value} (h:nC w 0 w.heap.size L v) (hb:Below w.heap.size w w1):nC w1 0 w1.heap.size L v :=
 (h.same (Same.of_below hb lr)).wide lr hb.size
end Rk
namespace Sc
open V (Pt)
open We (Co bT)
open D (Dm)
open Ta (Tm eY aJn)
def own (n c:UInt8):Pt:=.mk 7 false false ⟨#[]⟩ ⟨#[]⟩ [.mk 2 false false ⟨#[n]⟩ ⟨#[]⟩ [],.mk 6 false false ⟨#[]⟩ ⟨#[c]⟩ []]
theorem bLl:encS (bT (fun _=>none) aJn) 200 [nV,nW] (own 2 65)=some [34,126,253,22,33,16,0,0,0,65,0,1]:=by decide +kernel
theorem bLm:encS (bT (fun _=>none) aJn) 200 [nV,nW] (own 2 97)=some [34,126,253,22,33,16,0,0,0,97,0,1]:=by decide +kernel
theorem bLn:encS (bT (fun _=>none) aJn) 200 [nV,nW] (own 1 97)=some [34,126,254,22,33,16,0,0,0,97,0,1]:=by decide +kernel
theorem bLo:encS (bT (fun _=>none) eY) 200 [nV,nW] (own 2 65)=some [34,126,253,22,33,251,192,128,65,0,0,65,0,1]:=by decide +kernel
theorem bLp:encS (bT (fun _=>none) eY) 200 [nV,nW] (own 2 97)=some [34,126,253,22,33,251,192,128,97,0,0,97,0,1]:=by decide +kernel
theorem bLq:encS (bT (fun _=>none) eY) 200 [nV,nW] (own 1 97)=some [34,126,254,22,33,251,192,128,97,0,0,97,0,1]:=by decide +kernel
open V (Same Pt VI aL bE PS)
open We (Co gL lF bT)
open D (Dm Wf)
open Ta (Tm)
theorem aOx {f:Fd} {L l:List UInt8} {p:Pt} (h:rdNum f L=some (p,l)):p=.mk 2 false p.neg p.mag .empty []:=by
 unfold rdNum at h;split at h
 · cases h
 · split at h
   · cases h
   · split at h
     · cases h
     · split at h
       · injection h with h
         injection h with h1 h2
         subst h1;rfl
       · cases h
theorem aZs (K:Co→ByteArray→List UInt8) (f:Fd) (L:List UInt8):gZ K f L=(iG K f L).map fun x=>(.mk 6 false false .empty ⟨x.1.toArray⟩ [],x.2):=by
 unfold iG;cases L with
 | nil=>rfl
 | cons c r =>
  by_cases h:c=kU f.co
  · cases h2:dF r f.co.str.toNat with
    | none=>simp[gZ,h,h2]
    | some y =>
     obtain⟨k,r1⟩:=y;cases h3:dQ r1 with
     | none=>simp[gZ,h,h2,h3]
     | some z =>
      obtain⟨s,r2⟩:=z;simp only [gZ,h,h2,h3,ne_eq,not_true_eq_false,if_false];split
      · simp only [Option.map_some];rw[show (Pt.mk 6 false false ByteArray.empty ⟨s.toArray⟩ []).raw.toList=s from toList_mk s]
      · rfl
  · simp[gZ,h]
theorem aUn {K:Co→ByteArray→List UInt8} {D:Dm} {T:Tm} (t:Addr) (f:Fd) (d:Nat) (hok:xL d f) (hk:f.kind=1):mZ 70 (bU K f) D T t f d:=by
 intro hi a0 k0 rb b at_ tn pv lp w hb hat hhi hlp hr hpv ht hfi;have iO:lp.length≤17:=by have:=hok.lt;omega
 obtain⟨m,hm⟩:∃ m,f.fields.length=m:=⟨_,rfl⟩
 have hrl:=hr.lt;obtain⟨_,_,_,_,ho,_,_,_⟩:=hok;rw[hm];obtain⟨L,hL⟩:∃ L,aK b at_ tn=L:=⟨_,rfl⟩
 rw[hL];have HLL:=zh hL;have xO:=zh hpv;have HI:=zh (fZ hpv);rw[aT,hk];generalize hW:((w.alloc (.cells #[.string f.name,.int .u8 1,.bool f.down,.int .u8 f.aI,.bool f.bnd,.bool f.eX,.string f.eG,.bool f.hib,.string f.him,.int .i64 f.most,.int .i64 f.co.str,.bool f.co.sh,.bool f.co.back,.slice a0 m k0] 79)).alloc (.cells #[.int .u8 0,.bool false,.bool false,.string ⟨#[]⟩,.string ⟨#[]⟩,.slice none 0 0] 57)).alloc (.cells #[.int .u8 1,.bool false,.bool false,.string ⟨#[]⟩,.string ⟨#[]⟩,.slice none 0 0] 57)=w1;have HB1:=zh (show Below w.heap.size w w1 by rw[← hW];exact((zr.alloc lr _).alloc (by simp) _).alloc (by simp;omega) _);obtain⟨W0,hW0⟩:∃ W0,W0=(w.alloc (.cells #[.string f.name,.int .u8 1,.bool f.down,.int .u8 f.aI,.bool f.bnd,.bool f.eX,.string f.eG,.bool f.hib,.string f.him,.int .i64 f.most,.int .i64 f.co.str,.bool f.co.sh,.bool f.co.back,.slice a0 m k0] 79)).alloc (.cells #[.int .u8 0,.bool false,.bool false,.string ⟨#[]⟩,.string ⟨#[]⟩,.slice none 0 0] 57):=⟨_,rfl⟩
 have hz0:W0.heap.size=w.heap.size+1+1:=by rw[hW0];simp
 have xC:=zh (show aC w1 w.heap.size 79 #[.string f.name,.int .u8 1,.bool f.down,.int .u8 f.aI,.bool f.bnd,.bool f.eX,.string f.eG,.bool f.hib,.string f.him,.int .i64 f.most,.int .i64 f.co.str,.bool f.co.sh,.bool f.co.back,.slice a0 m k0] by
  rw[← hW];exact aC.below (aC.new _ _ _) ((zr.alloc lr _).alloc (by simp) _) (by simp))
 have HZB:=zh (show aC w1 (w.heap.size+1) 57 #[.int .u8 0,.bool false,.bool false,.string ⟨#[]⟩,.string ⟨#[]⟩,.slice none 0 0] by
  rw[← hW];have:=aC.new (w.alloc (.cells #[.string f.name,.int .u8 1,.bool f.down,.int .u8 f.aI,.bool f.bnd,.bool f.eX,.string f.eG,.bool f.hib,.string f.him,.int .i64 f.most,.int .i64 f.co.str,.bool f.co.sh,.bool f.co.back,.slice a0 m k0] 79)) 57 #[.int .u8 0,.bool false,.bool false,.string ⟨#[]⟩,.string ⟨#[]⟩,.slice none 0 0];exact aC.below (by simpa using this) (zr.alloc lr _) (by simp))
 have HPB:=zh (show aC w1 (w.heap.size+1+1) 57 #[.int .u8 1,.bool false,.bool false,.string ⟨#[]⟩,.string ⟨#[]⟩,.slice none 0 0] by
  rw[← hW,← hW0];have:=aC.new W0 57 #[.int .u8 1,.bool false,.bool false,.string ⟨#[]⟩,.string ⟨#[]⟩,.slice none 0 0];rwa [hz0] at this)
 have HR1:=zh (show gB w1 rb (.pointer (some t)) b at_ tn pv from aC.below hr HB1.out hrl);have lW:=zh (Xv.of_below (P:=(· = rb)) HB1.out);have HI1:=zh (HI.out.keep HB1.out.size (fun k hk _=>HB1.out.block k hk) (fun _ _ e=>e));have hne0:w.heap.size≠rb:=by omega
 have hne1:w.heap.size+1≠rb:=by omega
 have hne2:w.heap.size+1+1≠rb:=by omega
 have c2:w1.cell? ⟨rb,2,none⟩=some (.int .i64 (at_:Int)):=HR1.out.cell 2;have f1:w1.cell? ⟨w.heap.size,1,none⟩=some (.int .u8 1):=xC.out.cell 1;have xK:bU K f L=rdP K f L:=by unfold bU;rw[if_neg (by omega)]
 by_cases hlt:at_<b.size
 case neg =>
  have kZ:=zh (show bU K f L=none by rw[xK,← hL,jJ tn (by omega)];unfold rdP;rw[if_pos hk]);have HF:=zh (kY rb (.pointer (some t)) b at_ tn pv lp w1 hb HR1.out HI1.out iO hat hlt);clear hW0 hz0 hr hpv ht hfi hL xK;subst hW;go_enter func70,ntmps70;go_wp2_with fail;refine HF.out.mono ?_;rintro e w9 ⟨hf,aB⟩;obtain⟨ch,rfl⟩:=hf.form;go_wp2_with fail;exact⟨rfl,.no1 kZ.out (hf.low lW.out.size) (lW.out.then aB)⟩
 obtain⟨c,hc⟩:∃ c,fl tn b[at_]=c:=⟨_,rfl⟩
 have H1:=zh (iY rb (.pointer (some t)) b at_ tn pv w1 hb HR1.out hlt);rw[hc] at H1;have HRC:=zh (show bU K f L=if c≤1 then some (.mk 1 (c==1) false .empty .empty [],aK b (at_+1) tn) else none by rw[xK,← hL,dP tn hlt,hc];unfold rdP;rw[if_pos hk]);clear hW0 hz0 hr hpv ht hfi hL xK hc;subst hW;go_enter func70,ntmps70;go_wp2_with fail;refine H1.out.mono ?_;rintro e w2 ⟨p,rfl,⟨hp1,hpc⟩,hpl,hr2,hx⟩;have qK:=zh (lW.out.trans hx (fun _ _ e=>e));have HR2:=zh hr2;have nG:=zh (hx.blk hne1 HZB.out);have nX:=zh (hx.blk hne2 HPB.out);have aOy:=zh (hx.blk hne0 xC.out);have HI2:=zh (HI1.out.keep hx.size (fun k hk hp=>hx.block k hk hp) (fun _ _ e=>e));obtain⟨⟨y0,y1,y2,y3,y4,y5⟩,z0,z1,z2,z3,z4,z5⟩:=f6 nG.out;obtain⟨⟨a0',a1',a2',a3',a4',a5'⟩,b0',b1',b2',b3',b4',b5'⟩:=f6 nX.out;have l1:w.heap.size+1<w2.heap.size:=nG.out.lt;have l2:w.heap.size+1+1<w2.heap.size:=nX.out.lt;clear hx hr2;have c2:w2.cell? ⟨rb,2,none⟩=some (.int .i64 ((at_+1:Nat):Int)):=HR2.out.cell 2;by_cases hc1:c≤1
 case neg =>
  have q1:decide ((1:Int)<(c.toNat:Int))=true:=decide_eq_true (by
   have:¬ c.toNat≤1:=fun e=>hc1 (UInt8.le_iff_toNat_le.2 e)
   omega)
  have kZ:=zh (show bU K f L=none by rw[HRC.out,if_neg hc1]);have HF:=zh (eO rb (.pointer (some t)) b (at_+1) tn pv lp 143 at_ .nilIface w2 HR2.out HI2.out iO (.inl rfl));clear hc1;go_wp2_with fail;refine HF.out.mono ?_;rintro e w9 ⟨hf,aB⟩;obtain⟨ch,rfl⟩:=hf.form;go_wp2_with fail;exact⟨rfl,.no1 kZ.out ((hf.low qK.out.size).to (by omega)) (qK.out.then aB)⟩
 have q1:decide ((1:Int)<(c.toNat:Int))=false:=decide_eq_false (by
  have:=UInt8.le_iff_toNat_le.1 hc1;have:c.toNat≤1:=this;omega)
 obtain⟨X,hX⟩:∃ X,(c==1)=X:=⟨_,rfl⟩
 have q2:((c.toNat:Int)==1)=X:=by
  rw[← hX];cases h:(c==1) with
  | true=>rw[beq_iff_eq.1 h];rfl
  | false =>
   have:c.toNat≠1:=fun e=>by rw[beq_eq_false_iff_ne] at h;exact h (UInt8.toNat_inj.1 e)
   simp;omega
 have HYE:=zh (show bU K f L=some (.mk 1 X false .empty .empty [],aK b (at_+1) tn) by rw[HRC.out,if_pos hc1,hX]);clear hc1 hX HRC;go_wp2_with fail;refine bodyPost_ret (v:=.agg (V.cellsOf (.mk 1 X false .empty .empty []) (.slice none 0 0))) (by simp[results,Tryz.f70,go_sem,y0,y1,y2,y3,y4,y5,V.cellsOf,V.Pt.kind,V.Pt.yes,V.Pt.neg,V.Pt.mag,V.Pt.raw];try rfl) rfl ?_;exact .flat HYE.out rfl (by omega) rfl (fI (bH HR2.out (Ne.symm hne2) 1 (.bool X)) (Ne.symm hne1) _ _ _ _ _ _) xO.out (kP (qK.out.aU (fun h=>by omega) 1 (.bool X)) (fun h=>by omega) _ _ _ _ _ _)
theorem aZt {K:Co→ByteArray→List UInt8} {D:Dm} {T:Tm} (t:Addr) (f:Fd) (d:Nat) (hok:xL d f) (hk:f.kind=2):mZ 70 (bU K f) D T t f d:=by
 intro hi a0 k0 rb b at_ tn pv lp w hb hat hhi hlp hr hpv ht hfi;have iO:lp.length≤17:=by have:=hok.lt;omega
 obtain⟨m,hm⟩:∃ m,f.fields.length=m:=⟨_,rfl⟩
 have hrl:=hr.lt;obtain⟨_,_,_,_,ho,_,_,_⟩:=hok;rw[hm];obtain⟨L,hL⟩:∃ L,aK b at_ tn=L:=⟨_,rfl⟩
 rw[hL];have HLL:=zh hL;have xO:=zh hpv;have HI:=zh (fZ hpv);rw[aT,hk];generalize hW:((w.alloc (.cells #[.string f.name,.int .u8 2,.bool f.down,.int .u8 f.aI,.bool f.bnd,.bool f.eX,.string f.eG,.bool f.hib,.string f.him,.int .i64 f.most,.int .i64 f.co.str,.bool f.co.sh,.bool f.co.back,.slice a0 m k0] 79)).alloc (.cells #[.int .u8 0,.bool false,.bool false,.string ⟨#[]⟩,.string ⟨#[]⟩,.slice none 0 0] 57)).alloc (.cells #[.int .u8 2,.bool false,.bool false,.string ⟨#[]⟩,.string ⟨#[]⟩,.slice none 0 0] 57)=w1;have HB1:=zh (show Below w.heap.size w w1 by rw[← hW];exact((zr.alloc lr _).alloc (by simp) _).alloc (by simp;omega) _);obtain⟨W0,hW0⟩:∃ W0,W0=(w.alloc (.cells #[.string f.name,.int .u8 2,.bool f.down,.int .u8 f.aI,.bool f.bnd,.bool f.eX,.string f.eG,.bool f.hib,.string f.him,.int .i64 f.most,.int .i64 f.co.str,.bool f.co.sh,.bool f.co.back,.slice a0 m k0] 79)).alloc (.cells #[.int .u8 0,.bool false,.bool false,.string ⟨#[]⟩,.string ⟨#[]⟩,.slice none 0 0] 57):=⟨_,rfl⟩
 have hz0:W0.heap.size=w.heap.size+1+1:=by rw[hW0];simp
 have xC:=zh (show aC w1 w.heap.size 79 #[.string f.name,.int .u8 2,.bool f.down,.int .u8 f.aI,.bool f.bnd,.bool f.eX,.string f.eG,.bool f.hib,.string f.him,.int .i64 f.most,.int .i64 f.co.str,.bool f.co.sh,.bool f.co.back,.slice a0 m k0] by
  rw[← hW];exact aC.below (aC.new _ _ _) ((zr.alloc lr _).alloc (by simp) _) (by simp))
 have HZB:=zh (show aC w1 (w.heap.size+1) 57 #[.int .u8 0,.bool false,.bool false,.string ⟨#[]⟩,.string ⟨#[]⟩,.slice none 0 0] by
  rw[← hW];have:=aC.new (w.alloc (.cells #[.string f.name,.int .u8 2,.bool f.down,.int .u8 f.aI,.bool f.bnd,.bool f.eX,.string f.eG,.bool f.hib,.string f.him,.int .i64 f.most,.int .i64 f.co.str,.bool f.co.sh,.bool f.co.back,.slice a0 m k0] 79)) 57 #[.int .u8 0,.bool false,.bool false,.string ⟨#[]⟩,.string ⟨#[]⟩,.slice none 0 0];exact aC.below (by simpa using this) (zr.alloc lr _) (by simp))
 have HPB:=zh (show aC w1 (w.heap.size+1+1) 57 #[.int .u8 2,.bool false,.bool false,.string ⟨#[]⟩,.string ⟨#[]⟩,.slice none 0 0] by
  rw[← hW,← hW0];have:=aC.new W0 57 #[.int .u8 2,.bool false,.bool false,.string ⟨#[]⟩,.string ⟨#[]⟩,.slice none 0 0];rwa [hz0] at this)
 have HR1:=zh (show gB w1 rb (.pointer (some t)) b at_ tn pv from aC.below hr HB1.out hrl);have lW:=zh (Xv.of_below (P:=(· = rb)) HB1.out);have HI1:=zh (HI.out.keep HB1.out.size (fun k hk _=>HB1.out.block k hk) (fun _ _ e=>e));have hne0:w.heap.size≠rb:=by omega
 have hne1:w.heap.size+1≠rb:=by omega
 have hne2:w.heap.size+1+1≠rb:=by omega
 have c2:w1.cell? ⟨rb,2,none⟩=some (.int .i64 (at_:Int)):=HR1.out.cell 2;have f1:w1.cell? ⟨w.heap.size,1,none⟩=some (.int .u8 2):=xC.out.cell 1;have xK:bU K f L=rdNum f L:=by unfold bU;rw[if_neg (by omega)];unfold rdP;rw[if_neg (by omega),if_pos hk]
 have HNM:=zh (aOs f a0 m k0 rb (.pointer (some t)) b at_ tn pv lp w1 hk ho hb hat HR1.out HI1.out iO);rw[hL,aT,hk] at HNM;obtain⟨Z,hZ⟩:∃ Z,rdNum f L=Z:=⟨_,rfl⟩
 have HRZ:=zh (xK.trans hZ);have HZF:=zh (fun q l (e:rdNum f L=some (q,l))=>aOx e);unfold sJ at HNM;rw[hZ] at HNM HZF;obtain⟨c0,c1,c2',c3,c4,c5,c6,c7,c8,c9,c10,c11,c12,c13⟩:=f14 xC.out;clear hW0 hz0 hr hpv ht hfi hL xK hZ;subst hW;go_enter func70,ntmps70;go_wp2_with fail;refine HNM.out.mono ?_;intro e w2 hg;cases Z with
 | none =>
  obtain⟨hf,hx⟩:=hg;obtain⟨ch,rfl⟩:=hf.form;go_wp2_with fail;exact⟨rfl,.no1 HRZ.out (hf.low lW.out.size) (lW.out.trans hx (fun _ _ e=>e))⟩
 | some x =>
  obtain⟨q,l⟩:=x;obtain⟨⟨rfl,a,ha,rfl,hr2⟩,hx⟩:=hg;have HQF:=zh (HZF.out q _ rfl);have qK:=zh (lW.out.trans hx (fun _ _ e=>e));have HR2:=zh hr2;have nG:=zh (hx.blk hne1 HZB.out);have nX:=zh (hx.blk hne2 HPB.out);have aOy:=zh (hx.blk hne0 xC.out);have HI2:=zh (HI1.out.keep hx.size (fun k hk hp=>hx.block k hk hp) (fun _ _ e=>e));obtain⟨⟨y0,y1,y2,y3,y4,y5⟩,z0,z1,z2,z3,z4,z5⟩:=f6 nG.out;obtain⟨⟨a0',a1',a2',a3',a4',a5'⟩,b0',b1',b2',b3',b4',b5'⟩:=f6 nX.out;have l1:w.heap.size+1<w2.heap.size:=nG.out.lt;have l2:w.heap.size+1+1<w2.heap.size:=nX.out.lt;clear hx hr2;clear c2 HNM;go_wp2_with fail;refine bodyPost_ret (v:=.agg (V.cellsOf (.mk 2 false q.neg q.mag .empty []) (.slice none 0 0))) (by simp[results,Tryz.f70,go_sem,y0,y1,y2,y3,y4,y5,V.cellsOf,V.Pt.kind,V.Pt.yes,V.Pt.neg,V.Pt.mag,V.Pt.raw];try rfl) rfl ?_;exact .flat (HRZ.out.trans (by rw[← HQF.out])) rfl ha rfl (fI (bH (bH HR2.out (Ne.symm hne2) 2 (.bool q.neg)) (Ne.symm hne2) 3 (.string q.mag)) (Ne.symm hne1) _ _ _ _ _ _) xO.out (kP ((qK.out.aU (fun h=>by omega) 2 (.bool q.neg)).aU (fun h=>by omega) 3 (.string q.mag)) (fun h=>by omega) _ _ _ _ _ _)
theorem bDr {K:Co→ByteArray→List UInt8} {D:Dm} {T:Tm} (t:Addr) (f:Fd) (d:Nat) (hok:xL d f) (hk:f.kind=4):mZ 70 (bU K f) D T t f d:=by
 intro hi a0 k0 rb b at_ tn pv lp w hb hat hhi hlp hr hpv ht hfi;have iO:lp.length≤17:=by have:=hok.lt;omega
 obtain⟨m,hm⟩:∃ m,f.fields.length=m:=⟨_,rfl⟩
 have hrl:=hr.lt;obtain⟨_,_,_,_,ho,_,_,_⟩:=hok;rw[hm];obtain⟨L,hL⟩:∃ L,aK b at_ tn=L:=⟨_,rfl⟩
 rw[hL];have HLL:=zh hL;have xO:=zh hpv;have HI:=zh (fZ hpv);rw[aT,hk];generalize hW:((w.alloc (.cells #[.string f.name,.int .u8 4,.bool f.down,.int .u8 f.aI,.bool f.bnd,.bool f.eX,.string f.eG,.bool f.hib,.string f.him,.int .i64 f.most,.int .i64 f.co.str,.bool f.co.sh,.bool f.co.back,.slice a0 m k0] 79)).alloc (.cells #[.int .u8 0,.bool false,.bool false,.string ⟨#[]⟩,.string ⟨#[]⟩,.slice none 0 0] 57)).alloc (.cells #[.int .u8 4,.bool false,.bool false,.string ⟨#[]⟩,.string ⟨#[]⟩,.slice none 0 0] 57)=w1;have HB1:=zh (show Below w.heap.size w w1 by rw[← hW];exact((zr.alloc lr _).alloc (by simp) _).alloc (by simp;omega) _);obtain⟨W0,hW0⟩:∃ W0,W0=(w.alloc (.cells #[.string f.name,.int .u8 4,.bool f.down,.int .u8 f.aI,.bool f.bnd,.bool f.eX,.string f.eG,.bool f.hib,.string f.him,.int .i64 f.most,.int .i64 f.co.str,.bool f.co.sh,.bool f.co.back,.slice a0 m k0] 79)).alloc (.cells #[.int .u8 0,.bool false,.bool false,.string ⟨#[]⟩,.string ⟨#[]⟩,.slice none 0 0] 57):=⟨_,rfl⟩
 have hz0:W0.heap.size=w.heap.size+1+1:=by rw[hW0];simp
 have xC:=zh (show aC w1 w.heap.size 79 #[.string f.name,.int .u8 4,.bool f.down,.int .u8 f.aI,.bool f.bnd,.bool f.eX,.string f.eG,.bool f.hib,.string f.him,.int .i64 f.most,.int .i64 f.co.str,.bool f.co.sh,.bool f.co.back,.slice a0 m k0] by
  rw[← hW];exact aC.below (aC.new _ _ _) ((zr.alloc lr _).alloc (by simp) _) (by simp))
 have HZB:=zh (show aC w1 (w.heap.size+1) 57 #[.int .u8 0,.bool false,.bool false,.string ⟨#[]⟩,.string ⟨#[]⟩,.slice none 0 0] by
  rw[← hW];have:=aC.new (w.alloc (.cells #[.string f.name,.int .u8 4,.bool f.down,.int .u8 f.aI,.bool f.bnd,.bool f.eX,.string f.eG,.bool f.hib,.string f.him,.int .i64 f.most,.int .i64 f.co.str,.bool f.co.sh,.bool f.co.back,.slice a0 m k0] 79)) 57 #[.int .u8 0,.bool false,.bool false,.string ⟨#[]⟩,.string ⟨#[]⟩,.slice none 0 0];exact aC.below (by simpa using this) (zr.alloc lr _) (by simp))
 have HPB:=zh (show aC w1 (w.heap.size+1+1) 57 #[.int .u8 4,.bool false,.bool false,.string ⟨#[]⟩,.string ⟨#[]⟩,.slice none 0 0] by
  rw[← hW,← hW0];have:=aC.new W0 57 #[.int .u8 4,.bool false,.bool false,.string ⟨#[]⟩,.string ⟨#[]⟩,.slice none 0 0];rwa [hz0] at this)
 have HR1:=zh (show gB w1 rb (.pointer (some t)) b at_ tn pv from aC.below hr HB1.out hrl);have lW:=zh (Xv.of_below (P:=(· = rb)) HB1.out);have HI1:=zh (HI.out.keep HB1.out.size (fun k hk _=>HB1.out.block k hk) (fun _ _ e=>e));have hne0:w.heap.size≠rb:=by omega
 have hne1:w.heap.size+1≠rb:=by omega
 have hne2:w.heap.size+1+1≠rb:=by omega
 have c2:w1.cell? ⟨rb,2,none⟩=some (.int .i64 (at_:Int)):=HR1.out.cell 2;have f1:w1.cell? ⟨w.heap.size,1,none⟩=some (.int .u8 4):=xC.out.cell 1;have xK:bU K f L=if 16≤L.length then some (.mk 4 false false .empty ⟨(L.take 16).toArray⟩ [],L.drop 16) else none:=by unfold bU;rw[if_neg (by omega)];unfold rdP;rw[if_neg (by omega),if_neg (by omega),if_pos hk]
 have HTK:=zh (kL rb (.pointer (some t)) b at_ 16 tn pv lp w1 hb hat (by omega) HR1.out HI1.out iO);rw[show ((16:Nat):Int)=16 from rfl] at HTK;have hLn:L.length=b.size-at_:=by rw[← hL,zD]
 have HDR:=zh (show L.drop 16=aK b (at_+16) tn by rw[← hL,vP]);unfold bZ at HTK;rw[hL] at HTK;obtain⟨S,hS⟩:∃ S,(⟨(L.take 16).toArray⟩:ByteArray)=S:=⟨_,rfl⟩
 rw[hS] at HTK xK;have HRP:=zh xK;clear hW0 hz0 hr hpv ht hfi hL xK hS;subst hW;go_enter func70,ntmps70;go_wp2_with fail;refine HTK.out.mono ?_;intro e w2 hg;by_cases h16:at_+16≤b.size
 · rw[if_pos h16] at hg;obtain⟨rfl,hr2,hx⟩:=hg;have qK:=zh (lW.out.trans hx (fun _ _ e=>e));have HR2:=zh hr2;have nG:=zh (hx.blk hne1 HZB.out);have nX:=zh (hx.blk hne2 HPB.out);have aOy:=zh (hx.blk hne0 xC.out);have HI2:=zh (HI1.out.keep hx.size (fun k hk hp=>hx.block k hk hp) (fun _ _ e=>e));obtain⟨⟨y0,y1,y2,y3,y4,y5⟩,z0,z1,z2,z3,z4,z5⟩:=f6 nG.out;obtain⟨⟨a0',a1',a2',a3',a4',a5'⟩,b0',b1',b2',b3',b4',b5'⟩:=f6 nX.out;have l1:w.heap.size+1<w2.heap.size:=nG.out.lt;have l2:w.heap.size+1+1<w2.heap.size:=nX.out.lt;clear hx hr2;have HYE:=zh (show bU K f L=some (.mk 4 false false .empty S [],aK b (at_+16) tn) by rw[HRP.out,if_pos (by omega),HDR.out]);clear c2 HTK;go_wp2_with fail;refine bodyPost_ret (v:=.agg (V.cellsOf (.mk 4 false false .empty S []) (.slice none 0 0))) (by simp[results,Tryz.f70,go_sem,y0,y1,y2,y3,y4,y5,V.cellsOf,V.Pt.kind,V.Pt.yes,V.Pt.neg,V.Pt.mag,V.Pt.raw];try rfl) rfl ?_;exact .flat HYE.out rfl h16 rfl (fI (bH HR2.out (Ne.symm hne2) 4 (.string S)) (Ne.symm hne1) _ _ _ _ _ _) xO.out (kP (qK.out.aU (fun h=>by omega) 4 (.string S)) (fun h=>by omega) _ _ _ _ _ _)
 · rw[if_neg h16] at hg;obtain⟨hf,aB⟩:=hg;obtain⟨ch,rfl⟩:=hf.form;go_wp2_with fail;exact⟨rfl,.no1 (by rw[HRP.out,if_neg (by omega)]) (hf.low lW.out.size) (lW.out.then aB)⟩
theorem aUo {D:Dm} (wf:Wf D) {T:Tm} (wt:lF T) (t:Addr) (f:Fd) (d:Nat) (hok:xL d f) (hk:f.kind=6):mZ 70 (bU (bT D T) f) D T t f d:=by
 intro hi a0 k0 rb b at_ tn pv lp w hb hat hhi hlp hr hpv ht hfi;have iO:lp.length≤17:=by have:=hok.lt;omega
 obtain⟨m,hm⟩:∃ m,f.fields.length=m:=⟨_,rfl⟩
 have hrl:=hr.lt;obtain⟨_,_,_,_,ho,_,_,_⟩:=hok;rw[hm];obtain⟨L,hL⟩:∃ L,aK b at_ tn=L:=⟨_,rfl⟩
 rw[hL];have HLL:=zh hL;have xO:=zh hpv;have HI:=zh (fZ hpv);rw[aT,hk];generalize hW:((w.alloc (.cells #[.string f.name,.int .u8 6,.bool f.down,.int .u8 f.aI,.bool f.bnd,.bool f.eX,.string f.eG,.bool f.hib,.string f.him,.int .i64 f.most,.int .i64 f.co.str,.bool f.co.sh,.bool f.co.back,.slice a0 m k0] 79)).alloc (.cells #[.int .u8 0,.bool false,.bool false,.string ⟨#[]⟩,.string ⟨#[]⟩,.slice none 0 0] 57)).alloc (.cells #[.int .u8 6,.bool false,.bool false,.string ⟨#[]⟩,.string ⟨#[]⟩,.slice none 0 0] 57)=w1;have HB1:=zh (show Below w.heap.size w w1 by rw[← hW];exact((zr.alloc lr _).alloc (by simp) _).alloc (by simp;omega) _);obtain⟨W0,hW0⟩:∃ W0,W0=(w.alloc (.cells #[.string f.name,.int .u8 6,.bool f.down,.int .u8 f.aI,.bool f.bnd,.bool f.eX,.string f.eG,.bool f.hib,.string f.him,.int .i64 f.most,.int .i64 f.co.str,.bool f.co.sh,.bool f.co.back,.slice a0 m k0] 79)).alloc (.cells #[.int .u8 0,.bool false,.bool false,.string ⟨#[]⟩,.string ⟨#[]⟩,.slice none 0 0] 57):=⟨_,rfl⟩
 have hz0:W0.heap.size=w.heap.size+1+1:=by rw[hW0];simp
 have xC:=zh (show aC w1 w.heap.size 79 #[.string f.name,.int .u8 6,.bool f.down,.int .u8 f.aI,.bool f.bnd,.bool f.eX,.string f.eG,.bool f.hib,.string f.him,.int .i64 f.most,.int .i64 f.co.str,.bool f.co.sh,.bool f.co.back,.slice a0 m k0] by
  rw[← hW];exact aC.below (aC.new _ _ _) ((zr.alloc lr _).alloc (by simp) _) (by simp))
 have HZB:=zh (show aC w1 (w.heap.size+1) 57 #[.int .u8 0,.bool false,.bool false,.string ⟨#[]⟩,.string ⟨#[]⟩,.slice none 0 0] by
  rw[← hW];have:=aC.new (w.alloc (.cells #[.string f.name,.int .u8 6,.bool f.down,.int .u8 f.aI,.bool f.bnd,.bool f.eX,.string f.eG,.bool f.hib,.string f.him,.int .i64 f.most,.int .i64 f.co.str,.bool f.co.sh,.bool f.co.back,.slice a0 m k0] 79)) 57 #[.int .u8 0,.bool false,.bool false,.string ⟨#[]⟩,.string ⟨#[]⟩,.slice none 0 0];exact aC.below (by simpa using this) (zr.alloc lr _) (by simp))
 have HPB:=zh (show aC w1 (w.heap.size+1+1) 57 #[.int .u8 6,.bool false,.bool false,.string ⟨#[]⟩,.string ⟨#[]⟩,.slice none 0 0] by
  rw[← hW,← hW0];have:=aC.new W0 57 #[.int .u8 6,.bool false,.bool false,.string ⟨#[]⟩,.string ⟨#[]⟩,.slice none 0 0];rwa [hz0] at this)
 have HR1:=zh (show gB w1 rb (.pointer (some t)) b at_ tn pv from aC.below hr HB1.out hrl);have lW:=zh (Xv.of_below (P:=(· = rb)) HB1.out);have HI1:=zh (HI.out.keep HB1.out.size (fun k hk _=>HB1.out.block k hk) (fun _ _ e=>e));have hne0:w.heap.size≠rb:=by omega
 have hne1:w.heap.size+1≠rb:=by omega
 have hne2:w.heap.size+1+1≠rb:=by omega
 have c2:w1.cell? ⟨rb,2,none⟩=some (.int .i64 (at_:Int)):=HR1.out.cell 2;have f1:w1.cell? ⟨w.heap.size,1,none⟩=some (.int .u8 6):=xC.out.cell 1;have hTX:=aZp wf wt t hi f a0 m k0 rb b at_ tn pv lp w1 ((iT ho).2.2.1 hk) hb hat HR1.out HI1.out iO hhi (ht.later HB1.out (by omega));obtain⟨K,hK⟩:∃ K,bT D T=K:=⟨_,rfl⟩
 rw[hK] at hTX ⊢;have xK:bU K f L=gZ K f L:=by unfold bU;rw[if_neg (by omega)];unfold rdP;rw[if_neg (by omega),if_neg (by omega),if_neg (by omega),if_pos hk]
 have HNM:=zh hTX;rw[hL,aT,hk] at HNM;obtain⟨Z,hZ⟩:∃ Z,iG K f L=Z:=⟨_,rfl⟩
 have HRZ:=zh (show bU K f L=Z.map fun x=>(.mk 6 false false .empty ⟨x.1.toArray⟩ [],x.2) by rw[xK,← hZ];exact aZs K f L);unfold jV at HNM;rw[hZ] at HNM;obtain⟨c0,c1,c2',c3,c4,c5,c6,c7,c8,c9,c10,c11,c12,c13⟩:=f14 xC.out;clear hW0 hz0 hr hpv ht hfi hL xK hZ hTX;subst hW;go_enter func70,ntmps70;go_wp2_with fail;refine HNM.out.mono ?_;intro e w2 hg;cases Z with
 | none =>
  obtain⟨hf,hx⟩:=hg;obtain⟨ch,rfl⟩:=hf.form;go_wp2_with fail;exact⟨rfl,.no1 HRZ.out (hf.low lW.out.size) (lW.out.trans hx (fun _ _ e=>e))⟩
 | some x =>
  obtain⟨s,l⟩:=x;obtain⟨⟨rfl,a,ha,rfl,hr2⟩,hx⟩:=hg;obtain⟨S,hS⟩:∃ S,(⟨s.toArray⟩:ByteArray)=S:=⟨_,rfl⟩
  have HSS:=zh hS;rw[hS];have qK:=zh (lW.out.trans hx (fun _ _ e=>e));have HR2:=zh hr2;have nG:=zh (hx.blk hne1 HZB.out);have nX:=zh (hx.blk hne2 HPB.out);have aOy:=zh (hx.blk hne0 xC.out);have HI2:=zh (HI1.out.keep hx.size (fun k hk hp=>hx.block k hk hp) (fun _ _ e=>e));obtain⟨⟨y0,y1,y2,y3,y4,y5⟩,z0,z1,z2,z3,z4,z5⟩:=f6 nG.out;obtain⟨⟨a0',a1',a2',a3',a4',a5'⟩,b0',b1',b2',b3',b4',b5'⟩:=f6 nX.out;have l1:w.heap.size+1<w2.heap.size:=nG.out.lt;have l2:w.heap.size+1+1<w2.heap.size:=nX.out.lt;clear hx hr2;clear c2 HNM hS;go_wp2_with fail;refine bodyPost_ret (v:=.agg (V.cellsOf (.mk 6 false false .empty S []) (.slice none 0 0))) (by simp[results,Tryz.f70,go_sem,y0,y1,y2,y3,y4,y5,V.cellsOf,V.Pt.kind,V.Pt.yes,V.Pt.neg,V.Pt.mag,V.Pt.raw];try rfl) rfl ?_;exact .flat (HRZ.out.trans (by rw[← HSS.out];rfl)) rfl ha rfl (fI (bH HR2.out (Ne.symm hne2) 4 (.string S)) (Ne.symm hne1) _ _ _ _ _ _) xO.out (kP (qK.out.aU (fun h=>by omega) 4 (.string S)) (fun h=>by omega) _ _ _ _ _ _)
theorem aOz {K:Co→ByteArray→List UInt8} {D:Dm} {T:Tm} (t:Addr) (f:Fd) (d:Nat) (hok:xL d f) (hk:f.kind=3):mZ 70 (bU K f) D T t f d:=by
 intro hi a0 k0 rb b at_ tn pv lp w hb hat hhi hlp hr hpv ht hfi;have iO:lp.length≤17:=by have:=hok.lt;omega
 obtain⟨m,hm⟩:∃ m,f.fields.length=m:=⟨_,rfl⟩
 have hrl:=hr.lt;obtain⟨_,_,_,_,ho,_,_,_⟩:=hok;rw[hm];obtain⟨L,hL⟩:∃ L,aK b at_ tn=L:=⟨_,rfl⟩
 rw[hL];have HLL:=zh hL;have xO:=zh hpv;have HI:=zh (fZ hpv);rw[aT,hk];generalize hW:((w.alloc (.cells #[.string f.name,.int .u8 3,.bool f.down,.int .u8 f.aI,.bool f.bnd,.bool f.eX,.string f.eG,.bool f.hib,.string f.him,.int .i64 f.most,.int .i64 f.co.str,.bool f.co.sh,.bool f.co.back,.slice a0 m k0] 79)).alloc (.cells #[.int .u8 0,.bool false,.bool false,.string ⟨#[]⟩,.string ⟨#[]⟩,.slice none 0 0] 57)).alloc (.cells #[.int .u8 3,.bool false,.bool false,.string ⟨#[]⟩,.string ⟨#[]⟩,.slice none 0 0] 57)=w1;have HB1:=zh (show Below w.heap.size w w1 by rw[← hW];exact((zr.alloc lr _).alloc (by simp) _).alloc (by simp;omega) _);obtain⟨W0,hW0⟩:∃ W0,W0=(w.alloc (.cells #[.string f.name,.int .u8 3,.bool f.down,.int .u8 f.aI,.bool f.bnd,.bool f.eX,.string f.eG,.bool f.hib,.string f.him,.int .i64 f.most,.int .i64 f.co.str,.bool f.co.sh,.bool f.co.back,.slice a0 m k0] 79)).alloc (.cells #[.int .u8 0,.bool false,.bool false,.string ⟨#[]⟩,.string ⟨#[]⟩,.slice none 0 0] 57):=⟨_,rfl⟩
 have hz0:W0.heap.size=w.heap.size+1+1:=by rw[hW0];simp
 have xC:=zh (show aC w1 w.heap.size 79 #[.string f.name,.int .u8 3,.bool f.down,.int .u8 f.aI,.bool f.bnd,.bool f.eX,.string f.eG,.bool f.hib,.string f.him,.int .i64 f.most,.int .i64 f.co.str,.bool f.co.sh,.bool f.co.back,.slice a0 m k0] by
  rw[← hW];exact aC.below (aC.new _ _ _) ((zr.alloc lr _).alloc (by simp) _) (by simp))
 have HZB:=zh (show aC w1 (w.heap.size+1) 57 #[.int .u8 0,.bool false,.bool false,.string ⟨#[]⟩,.string ⟨#[]⟩,.slice none 0 0] by
  rw[← hW];have:=aC.new (w.alloc (.cells #[.string f.name,.int .u8 3,.bool f.down,.int .u8 f.aI,.bool f.bnd,.bool f.eX,.string f.eG,.bool f.hib,.string f.him,.int .i64 f.most,.int .i64 f.co.str,.bool f.co.sh,.bool f.co.back,.slice a0 m k0] 79)) 57 #[.int .u8 0,.bool false,.bool false,.string ⟨#[]⟩,.string ⟨#[]⟩,.slice none 0 0];exact aC.below (by simpa using this) (zr.alloc lr _) (by simp))
 have HPB:=zh (show aC w1 (w.heap.size+1+1) 57 #[.int .u8 3,.bool false,.bool false,.string ⟨#[]⟩,.string ⟨#[]⟩,.slice none 0 0] by
  rw[← hW,← hW0];have:=aC.new W0 57 #[.int .u8 3,.bool false,.bool false,.string ⟨#[]⟩,.string ⟨#[]⟩,.slice none 0 0];rwa [hz0] at this)
 have HR1:=zh (show gB w1 rb (.pointer (some t)) b at_ tn pv from aC.below hr HB1.out hrl);have lW:=zh (Xv.of_below (P:=(· = rb)) HB1.out);have HI1:=zh (HI.out.keep HB1.out.size (fun k hk _=>HB1.out.block k hk) (fun _ _ e=>e));have hne0:w.heap.size≠rb:=by omega
 have hne1:w.heap.size+1≠rb:=by omega
 have hne2:w.heap.size+1+1≠rb:=by omega
 have c2:w1.cell? ⟨rb,2,none⟩=some (.int .i64 (at_:Int)):=HR1.out.cell 2;have f1:w1.cell? ⟨w.heap.size,1,none⟩=some (.int .u8 3):=xC.out.cell 1;have xK:bU K f L=match dQ L with
  | none=>none
  | some (s,r)=>if (s.length:Int)≤f.most∧(f.kind=5→U.bK ⟨s.toArray⟩<0) then some (.mk f.kind false false .empty ⟨s.toArray⟩ [],r) else none:=by
  unfold bU;rw[if_neg (by omega)];unfold rdP;rw[if_neg (by omega),if_neg (by omega),if_neg (by omega),if_neg (by omega)];rfl
 rw[hk] at xK;have hmo:=(iT ho).2.1 (by omega);have HNM:=zh (sI rb (.pointer (some t)) b at_ tn pv lp w1 hb hat HR1.out HI1.out iO);rw[hL] at HNM;obtain⟨Z,hZ⟩:∃ Z,dQ L=Z:=⟨_,rfl⟩
 rw[hZ] at HNM xK;have HRP:=zh xK;unfold jV at HNM;clear hW0 hz0 hr hpv ht hfi hL xK hZ;subst hW;go_enter func70,ntmps70;go_wp2_with fail;refine HNM.out.mono ?_;intro e w2 hg;cases Z with
 | none =>
  obtain⟨hf,hx⟩:=hg;obtain⟨ch,rfl⟩:=hf.form;go_wp2_with fail;exact⟨rfl,.no1 HRP.out (hf.low lW.out.size) (lW.out.trans hx (fun _ _ e=>e))⟩
 | some x =>
  obtain⟨s,l⟩:=x;obtain⟨⟨rfl,a,ha,rfl,hr2⟩,hx⟩:=hg;obtain⟨S,hS⟩:∃ S,(⟨s.toArray⟩:ByteArray)=S:=⟨_,rfl⟩
  obtain⟨M,hM⟩:∃ M,S.size=M:=⟨_,rfl⟩
  have hsl:s.length=M:=by rw[← hM,← hS];rfl
  have HRQ:=zh (show bU K f L=if (M:Int)≤f.most∧((3:Nat)=5→U.bK S<0) then some (.mk 3 false false .empty S [],aK b a tn) else none by rw[HRP.out,← hsl,← hS]);rw[hS];have qK:=zh (lW.out.trans hx (fun _ _ e=>e));have HR2:=zh hr2;have nG:=zh (hx.blk hne1 HZB.out);have nX:=zh (hx.blk hne2 HPB.out);have aOy:=zh (hx.blk hne0 xC.out);have HI2:=zh (HI1.out.keep hx.size (fun k hk hp=>hx.block k hk hp) (fun _ _ e=>e));obtain⟨⟨y0,y1,y2,y3,y4,y5⟩,z0,z1,z2,z3,z4,z5⟩:=f6 nG.out;obtain⟨⟨a0',a1',a2',a3',a4',a5'⟩,b0',b1',b2',b3',b4',b5'⟩:=f6 nX.out;have l1:w.heap.size+1<w2.heap.size:=nG.out.lt;have l2:w.heap.size+1+1<w2.heap.size:=nX.out.lt;clear hx hr2;obtain⟨c0,c1,c2',c3,c4,c5,c6,c7,c8,c9,c10,c11,c12,c13⟩:=f14 aOy.out;have HXS:=zh (show Xv (· = rb) w (w2.setCell ⟨w.heap.size+1+1,4,none⟩ (.string S)) from qK.out.aU (fun h=>by omega) 4 (.string S));have HRS:=zh (show gB (w2.setCell ⟨w.heap.size+1+1,4,none⟩ (.string S)) rb (.pointer (some t)) b a tn pv from bH HR2.out (Ne.symm hne2) 4 (.string S));have HIS:=zh (fZ (sM xO.out HXS.out));have hM4:M≤4194304∨True:=.inr trivial;have HMM:=zh hM;clear c2 HNM hS hsl;by_cases hm:(M:Int)≤f.most
  case neg =>
   have q1:decide (f.most<(M:Int))=true:=decide_eq_true (by omega);have kZ:=zh (show bU K f L=none by rw[HRQ.out,if_neg (fun e=>hm e.1)]);have HF:=zh (eO rb (.pointer (some t)) b a tn pv lp 124 at_ .nilIface _ HRS.out HIS.out iO (.inl rfl));clear hm;go_wp2_with fail;refine HF.out.mono ?_;rintro e w9 ⟨hf,aB⟩;obtain⟨ch,rfl⟩:=hf.form;go_wp2_with fail;exact⟨rfl,.no1 kZ.out ((hf.low HXS.out.size).to (by omega)) (HXS.out.then aB)⟩
  have q1:decide (f.most<(M:Int))=false:=decide_eq_false (by omega);have HYE:=zh (show bU K f L=some (.mk 3 false false .empty S [],aK b a tn) by rw[HRQ.out,if_pos ⟨hm,fun e=>by cases e⟩]);clear hm;go_wp2_with fail;refine bodyPost_ret (v:=.agg (V.cellsOf (.mk 3 false false .empty S []) (.slice none 0 0))) (by simp[results,Tryz.f70,go_sem,y0,y1,y2,y3,y4,y5,V.cellsOf,V.Pt.kind,V.Pt.yes,V.Pt.neg,V.Pt.mag,V.Pt.raw];try rfl) rfl ?_;exact .flat HYE.out rfl ha rfl (fI HRS.out (Ne.symm hne1) _ _ _ _ _ _) xO.out (kP HXS.out (fun h=>by omega) _ _ _ _ _ _)
theorem aUp {K:Co→ByteArray→List UInt8} {D:Dm} {T:Tm} (t:Addr) (f:Fd) (d:Nat) (hok:xL d f) (hk:f.kind=5):mZ 70 (bU K f) D T t f d:=by
 intro hi a0 k0 rb b at_ tn pv lp w hb hat hhi hlp hr hpv ht hfi;have iO:lp.length≤17:=by have:=hok.lt;omega
 obtain⟨m,hm⟩:∃ m,f.fields.length=m:=⟨_,rfl⟩
 have hrl:=hr.lt;obtain⟨_,_,_,_,ho,_,_,_⟩:=hok;rw[hm];obtain⟨L,hL⟩:∃ L,aK b at_ tn=L:=⟨_,rfl⟩
 rw[hL];have HLL:=zh hL;have xO:=zh hpv;have HI:=zh (fZ hpv);rw[aT,hk];generalize hW:((w.alloc (.cells #[.string f.name,.int .u8 5,.bool f.down,.int .u8 f.aI,.bool f.bnd,.bool f.eX,.string f.eG,.bool f.hib,.string f.him,.int .i64 f.most,.int .i64 f.co.str,.bool f.co.sh,.bool f.co.back,.slice a0 m k0] 79)).alloc (.cells #[.int .u8 0,.bool false,.bool false,.string ⟨#[]⟩,.string ⟨#[]⟩,.slice none 0 0] 57)).alloc (.cells #[.int .u8 5,.bool false,.bool false,.string ⟨#[]⟩,.string ⟨#[]⟩,.slice none 0 0] 57)=w1;have HB1:=zh (show Below w.heap.size w w1 by rw[← hW];exact((zr.alloc lr _).alloc (by simp) _).alloc (by simp;omega) _);obtain⟨W0,hW0⟩:∃ W0,W0=(w.alloc (.cells #[.string f.name,.int .u8 5,.bool f.down,.int .u8 f.aI,.bool f.bnd,.bool f.eX,.string f.eG,.bool f.hib,.string f.him,.int .i64 f.most,.int .i64 f.co.str,.bool f.co.sh,.bool f.co.back,.slice a0 m k0] 79)).alloc (.cells #[.int .u8 0,.bool false,.bool false,.string ⟨#[]⟩,.string ⟨#[]⟩,.slice none 0 0] 57):=⟨_,rfl⟩
 have hz0:W0.heap.size=w.heap.size+1+1:=by rw[hW0];simp
 have xC:=zh (show aC w1 w.heap.size 79 #[.string f.name,.int .u8 5,.bool f.down,.int .u8 f.aI,.bool f.bnd,.bool f.eX,.string f.eG,.bool f.hib,.string f.him,.int .i64 f.most,.int .i64 f.co.str,.bool f.co.sh,.bool f.co.back,.slice a0 m k0] by
  rw[← hW];exact aC.below (aC.new _ _ _) ((zr.alloc lr _).alloc (by simp) _) (by simp))
 have HZB:=zh (show aC w1 (w.heap.size+1) 57 #[.int .u8 0,.bool false,.bool false,.string ⟨#[]⟩,.string ⟨#[]⟩,.slice none 0 0] by
  rw[← hW];have:=aC.new (w.alloc (.cells #[.string f.name,.int .u8 5,.bool f.down,.int .u8 f.aI,.bool f.bnd,.bool f.eX,.string f.eG,.bool f.hib,.string f.him,.int .i64 f.most,.int .i64 f.co.str,.bool f.co.sh,.bool f.co.back,.slice a0 m k0] 79)) 57 #[.int .u8 0,.bool false,.bool false,.string ⟨#[]⟩,.string ⟨#[]⟩,.slice none 0 0];exact aC.below (by simpa using this) (zr.alloc lr _) (by simp))
 have HPB:=zh (show aC w1 (w.heap.size+1+1) 57 #[.int .u8 5,.bool false,.bool false,.string ⟨#[]⟩,.string ⟨#[]⟩,.slice none 0 0] by
  rw[← hW,← hW0];have:=aC.new W0 57 #[.int .u8 5,.bool false,.bool false,.string ⟨#[]⟩,.string ⟨#[]⟩,.slice none 0 0];rwa [hz0] at this)
 have HR1:=zh (show gB w1 rb (.pointer (some t)) b at_ tn pv from aC.below hr HB1.out hrl);have lW:=zh (Xv.of_below (P:=(· = rb)) HB1.out);have HI1:=zh (HI.out.keep HB1.out.size (fun k hk _=>HB1.out.block k hk) (fun _ _ e=>e));have hne0:w.heap.size≠rb:=by omega
 have hne1:w.heap.size+1≠rb:=by omega
 have hne2:w.heap.size+1+1≠rb:=by omega
 have c2:w1.cell? ⟨rb,2,none⟩=some (.int .i64 (at_:Int)):=HR1.out.cell 2;have f1:w1.cell? ⟨w.heap.size,1,none⟩=some (.int .u8 5):=xC.out.cell 1;have xK:bU K f L=match dQ L with
  | none=>none
  | some (s,r)=>if (s.length:Int)≤f.most∧(f.kind=5→U.bK ⟨s.toArray⟩<0) then some (.mk f.kind false false .empty ⟨s.toArray⟩ [],r) else none:=by
  unfold bU;rw[if_neg (by omega)];unfold rdP;rw[if_neg (by omega),if_neg (by omega),if_neg (by omega),if_neg (by omega)];rfl
 rw[hk] at xK;have hmo:=(iT ho).2.1 (by omega);have HNM:=zh (sI rb (.pointer (some t)) b at_ tn pv lp w1 hb hat HR1.out HI1.out iO);rw[hL] at HNM;obtain⟨Z,hZ⟩:∃ Z,dQ L=Z:=⟨_,rfl⟩
 rw[hZ] at HNM xK;have HRP:=zh xK;unfold jV at HNM;clear hW0 hz0 hr hpv ht hfi hL xK hZ;subst hW;go_enter func70,ntmps70;go_wp2_with fail;refine HNM.out.mono ?_;intro e w2 hg;cases Z with
 | none =>
  obtain⟨hf,hx⟩:=hg;obtain⟨ch,rfl⟩:=hf.form;go_wp2_with fail;exact⟨rfl,.no1 HRP.out (hf.low lW.out.size) (lW.out.trans hx (fun _ _ e=>e))⟩
 | some x =>
  obtain⟨s,l⟩:=x;obtain⟨⟨rfl,a,ha,rfl,hr2⟩,hx⟩:=hg;obtain⟨S,hS⟩:∃ S,(⟨s.toArray⟩:ByteArray)=S:=⟨_,rfl⟩
  obtain⟨M,hM⟩:∃ M,S.size=M:=⟨_,rfl⟩
  have hsl:s.length=M:=by rw[← hM,← hS];rfl
  have HRQ:=zh (show bU K f L=if (M:Int)≤f.most∧(True→U.bK S<0) then some (.mk 5 false false .empty S [],aK b a tn) else none by rw[HRP.out,← hsl,← hS]);rw[hS];have qK:=zh (lW.out.trans hx (fun _ _ e=>e));have HR2:=zh hr2;have nG:=zh (hx.blk hne1 HZB.out);have nX:=zh (hx.blk hne2 HPB.out);have aOy:=zh (hx.blk hne0 xC.out);have HI2:=zh (HI1.out.keep hx.size (fun k hk hp=>hx.block k hk hp) (fun _ _ e=>e));obtain⟨⟨y0,y1,y2,y3,y4,y5⟩,z0,z1,z2,z3,z4,z5⟩:=f6 nG.out;obtain⟨⟨a0',a1',a2',a3',a4',a5'⟩,b0',b1',b2',b3',b4',b5'⟩:=f6 nX.out;have l1:w.heap.size+1<w2.heap.size:=nG.out.lt;have l2:w.heap.size+1+1<w2.heap.size:=nX.out.lt;clear hx hr2;obtain⟨c0,c1,c2',c3,c4,c5,c6,c7,c8,c9,c10,c11,c12,c13⟩:=f14 aOy.out;have HXS:=zh (show Xv (· = rb) w (w2.setCell ⟨w.heap.size+1+1,4,none⟩ (.string S)) from qK.out.aU (fun h=>by omega) 4 (.string S));have HRS:=zh (show gB (w2.setCell ⟨w.heap.size+1+1,4,none⟩ (.string S)) rb (.pointer (some t)) b a tn pv from bH HR2.out (Ne.symm hne2) 4 (.string S));have HIS:=zh (fZ (sM xO.out HXS.out));have hM4:M≤4194304∨True:=.inr trivial;have HMM:=zh hM;clear c2 HNM hS hsl;by_cases hm:(M:Int)≤f.most
  case neg =>
   have q1:decide (f.most<(M:Int))=true:=decide_eq_true (by omega);have kZ:=zh (show bU K f L=none by rw[HRQ.out,if_neg (fun e=>hm e.1)]);have HF:=zh (eO rb (.pointer (some t)) b a tn pv lp 124 at_ .nilIface _ HRS.out HIS.out iO (.inl rfl));clear hm;go_wp2_with fail;refine HF.out.mono ?_;rintro e w9 ⟨hf,aB⟩;obtain⟨ch,rfl⟩:=hf.form;go_wp2_with fail;exact⟨rfl,.no1 kZ.out ((hf.low HXS.out.size).to (by omega)) (HXS.out.then aB)⟩
  have q1:decide (f.most<(M:Int))=false:=decide_eq_false (by omega);have HCK:=zh (fun w=>U.tV S (by omega) w);obtain⟨C,hC⟩:∃ C,U.bK S=C:=⟨_,rfl⟩
  rw[hC] at HCK HRQ;clear hC;go_wp2_with fail;refine(HCK.out _).mono ?_;rintro e w3 ⟨rfl,hb3⟩;have uD:=zh (HXS.out.then hb3);have HR3:=zh (show gB w3 rb (.pointer (some t)) b a tn pv from aC.below HRS.out hb3 HRS.out.lt);have HI3:=zh (fZ (sM xO.out uD.out));have hZ3:=aC.below (bH nG.out (show w.heap.size+1≠w.heap.size+1+1 by omega) 4 (.string S)) hb3 (bH nG.out (show w.heap.size+1≠w.heap.size+1+1 by omega) 4 (.string S)).lt;have hP3:=aC.below (nX.out.aU 4 (.string S)) hb3 (nX.out.aU 4 (.string S)).lt;simp at hP3;obtain⟨⟨t0,t1,t2,t3,t4,t5⟩,u0,u1,u2,u3,u4,u5⟩:=f6 hZ3;obtain⟨⟨v0,v1,v2,v3,v4,v5⟩,_⟩:=f6 hP3;have l3:w.heap.size+1<w3.heap.size:=hZ3.lt;clear hZ3 hP3 hb3;by_cases hck:C<0
  case neg =>
   have q4:decide ((0:Int)≤C)=true:=decide_eq_true (by omega);have kZ:=zh (show bU K f L=none by rw[HRQ.out,if_neg (fun e=>hck (e.2 trivial))]);have HF:=zh (eO rb (.pointer (some t)) b a tn pv lp 125 at_ (.iface 41 (.int .i64 30)) w3 HR3.out HI3.out iO (.inr ⟨_,_,rfl⟩));clear hck;go_wp2_with fail;refine HF.out.mono ?_;rintro e w9 ⟨hf,aB⟩;obtain⟨ch,rfl⟩:=hf.form;go_wp2_with fail;exact⟨rfl,.no1 kZ.out ((hf.low uD.out.size).to (by omega)) (uD.out.then aB)⟩
  have q4:decide ((0:Int)≤C)=false:=decide_eq_false (by omega);have HYE:=zh (show bU K f L=some (.mk 5 false false .empty S [],aK b a tn) by rw[HRQ.out,if_pos ⟨hm,fun _=>hck⟩]);clear hm hck;go_wp2_with fail;refine bodyPost_ret (v:=.agg (V.cellsOf (.mk 5 false false .empty S []) (.slice none 0 0))) (by simp[results,Tryz.f70,go_sem,t0,t1,t2,t3,t4,t5,V.cellsOf,V.Pt.kind,V.Pt.yes,V.Pt.neg,V.Pt.mag,V.Pt.raw];try rfl) rfl ?_;exact .flat HYE.out rfl ha rfl (fI HR3.out (Ne.symm hne1) _ _ _ _ _ _) xO.out (kP uD.out (fun h=>by omega) _ _ _ _ _ _)
