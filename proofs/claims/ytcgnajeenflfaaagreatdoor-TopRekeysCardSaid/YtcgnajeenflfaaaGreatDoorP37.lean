import Derived.Test.YtcgnajeenflfaaaGreatDoorP36
set_option maxRecDepth 100000
set_option maxHeartbeats 4000000
set_option linter.all false
open Go.Proofs.Tryz Go.RowKit
namespace Go.Proofs.YtcgnajeenflfaaaGreatDoor
namespace Sc
open V (Same Pt VI aL bE PS)
open We (Co gL lF bT)
open D (Dm Wf)
open Ta (Tm)
theorem aZr (tn:Bool):bits .xor .u8 (if tn then 255 else 0) 255=(if xor tn true then 255 else 0):=by cases tn<;>rfl
theorem bDq {K:Co→ByteArray→List UInt8} {D:Dm} {T:Tm} (t:Addr) (f:Fd) (d:Nat) (hok:xL d f) (HP:mZ 70 (bU K f) D T t f d):mZ 41 (rdF K f) D T t f d:=by
 intro hi a0 k0 rb b at_ tn pv lp w hb hat hhi hlp hr hpv ht hfi;have iO:lp.length≤17:=by have:=hok.lt;omega
 obtain⟨m,hm⟩:∃ m,f.fields.length=m:=⟨_,rfl⟩
 have hrl:=hr.lt;have HN:=zh (fun w=>aKo f a0 m k0 w);obtain⟨_,_,_,_,ho,_,_,_⟩:=hok;obtain⟨bGz,_⟩:=iT ho;have HT:=zh (fun w=>aRh f bGz.2.1 a0 m k0 w);have HTN:=zh (aJs bGz);have HPY:=zh (fun (w':World) (at2:Nat) (tn2:Bool) (bSb:at2≤b.size) (hr2:gB w' rb (.pointer (some t)) b at2 tn2 pv) (hx:Xv (· = rb) w w')=>HP hi a0 k0 rb b at2 tn2 pv lp w' hb bSb hhi hlp hr2 (sM hpv hx) (ht.later (hx.below (B:=hi) (fun k hk e=>by omega) (by omega)) lr) (hfi.xv hx (fun k _ hk e=>by omega) (by omega)));rw[hm] at HPY ⊢;obtain⟨L,hL⟩:∃ L,aK b at_ tn=L:=⟨_,rfl⟩
 rw[hL];have xO:=zh hpv;have HI:=zh (fZ hpv);rw[aT] at HN HT HPY ⊢;obtain⟨dn,hdn⟩:∃ dn,f.down=dn:=⟨_,rfl⟩
 rw[hdn] at HN HT HPY ⊢;have HW:=zh (Xv.refl (· = rb) w);generalize hW:(w.alloc (.cells #[.string f.name,.int .u8 f.kind,.bool dn,.int .u8 f.aI,.bool f.bnd,.bool f.eX,.string f.eG,.bool f.hib,.string f.him,.int .i64 f.most,.int .i64 f.co.str,.bool f.co.sh,.bool f.co.back,.slice a0 m k0] 79)).alloc (.cells #[.int .u8 0,.bool false,.bool false,.string ⟨#[]⟩,.string ⟨#[]⟩,.slice none 0 0] 57)=w1;have HB1:=zh (show Below w.heap.size w w1 by rw[← hW];exact(zr.alloc lr _).alloc (by simp) _);have xC:=zh (show aC w1 w.heap.size 79 #[.string f.name,.int .u8 f.kind,.bool dn,.int .u8 f.aI,.bool f.bnd,.bool f.eX,.string f.eG,.bool f.hib,.string f.him,.int .i64 f.most,.int .i64 f.co.str,.bool f.co.sh,.bool f.co.back,.slice a0 m k0] by
  rw[← hW];exact aC.below (aC.new _ _ _) (zr.alloc lr _) (by simp))
 have HRB:=zh (show aC w1 (w.heap.size+1) 57 #[.int .u8 0,.bool false,.bool false,.string ⟨#[]⟩,.string ⟨#[]⟩,.slice none 0 0] by
  rw[← hW];have:=aC.new (w.alloc (.cells #[.string f.name,.int .u8 f.kind,.bool dn,.int .u8 f.aI,.bool f.bnd,.bool f.eX,.string f.eG,.bool f.hib,.string f.him,.int .i64 f.most,.int .i64 f.co.str,.bool f.co.sh,.bool f.co.back,.slice a0 m k0] 79)) 57 #[.int .u8 0,.bool false,.bool false,.string ⟨#[]⟩,.string ⟨#[]⟩,.slice none 0 0];simpa using this)
 have HR1:=zh (show gB w1 rb (.pointer (some t)) b at_ tn pv from aC.below hr HB1.out hrl);have lW:=zh (Xv.of_below (P:=(· = rb)) HB1.out);have HI1:=zh (HI.out.keep HB1.out.size (fun k hk _=>HB1.out.block k hk) (fun _ _ e=>e));have hne0:w.heap.size≠rb:=by omega
 have hne1:w.heap.size+1≠rb:=by omega
 have c2:w1.cell? ⟨rb,2,none⟩=some (.int .i64 (at_:Int)):=HR1.out.cell 2;subst hW;clear hr hpv ht hfi ho bGz HP;go_enter func41,ntmps41;by_cases hlt:at_<b.size
 case neg =>
  have HF:=zh (kY rb (.pointer (some t)) b at_ tn pv lp _ hb HR1.out HI1.out iO hat hlt);have kZ:=zh (show rdF K f L=none by rw[← hL,jJ tn (by omega),aQr]);go_wp2_with fail;refine HF.out.mono ?_;rintro e w3 ⟨hf,hb3⟩;obtain⟨ch,rfl⟩:=hf.form;go_wp2_with fail;exact⟨rfl,.no1 kZ.out (hf.low lW.out.size) (lW.out.then hb3)⟩
 have H1:=zh (iY rb (.pointer (some t)) b at_ tn pv _ hb HR1.out hlt);obtain⟨c,hc⟩:∃ c,fl tn b[at_]=c:=⟨_,rfl⟩
 rw[hc] at H1;have HLC:=zh (show L=c::aK b (at_+1) tn by rw[← hL,dP tn hlt,hc]);clear hc hL;obtain⟨nb,hnb⟩:∃ nb,rV f=nb:=⟨_,rfl⟩
 obtain⟨tb,htb⟩:∃ tb,aAp f=tb:=⟨_,rfl⟩
 rw[hnb] at HN HTN;rw[htb] at HT HTN;have HRD:=zh (show rdF K f L=if c=nb∧f.aI≠0 then some (qU,aK b (at_+1) tn) else if c≠tb then none else (bU K f (flips dn (aK b (at_+1) tn))).map fun x=>(x.1,flips dn x.2) by rw[HLC.out,wL,hnb,htb,hdn]);clear hnb htb hdn;go_wp2_with fail;refine H1.out.mono ?_;rintro e w2 ⟨p,rfl,⟨hp1,hpc⟩,hpl,hr2,hx2⟩;have qK:=zh (lW.out.trans hx2 (fun _ _ e=>e));have HR2:=zh hr2;have pV:=zh (hx2.blk hne0 xC.out);have aUm:=zh (hx2.blk hne1 HRB.out);have HI2:=zh (HI1.out.keep hx2.size (fun k hk hp=>hx2.block k hk hp) (fun _ _ e=>e));clear hr2 hx2 hpl;obtain⟨c0,c1,c2,c3,c4,c5,c6,c7,c8,c9,c10,c11,c12,c13⟩:=f14 pV.out;have HFA:=zh (fun w4 (hb4:Below w2.heap.size w2 w4)=>eO rb (.pointer (some t)) b (at_+1) tn pv lp 141 at_ .nilIface w4 (aC.below HR2.out hb4 HR2.out.lt) (HI2.out.keep hb4.size (fun k hk _=>hb4.block k hk) (fun _ _ e=>e)) iO (.inl rfl));have hrl2:rb<w2.heap.size:=HR2.out.lt;by_cases hcn:c=nb
 · subst hcn;have q1:((c.toNat:Int)==(c.toNat:Int))=true:=by simp
   by_cases hnu:f.aI=0
   · have q2:((f.aI:Int) != 0)=false:=by simp[hnu]
     have kZ:=zh (show rdF K f L=none by rw[HRD.out,if_neg (fun e=>e.2 hnu),if_pos (fun e=>HTN.out e.symm)]);have q3:((c.toNat:Int) != (tb.toNat:Int))=true:=by
      have:c.toNat≠tb.toNat:=fun e=>HTN.out (UInt8.toNat_inj.1 e.symm)
      simp;omega
     clear hnu;go_wp2_with (first
      | (go_at_call 67;refine(HN.out _).mono ?_;rintro e w3 ⟨rfl,hb3⟩;have HB3:=zh hb3;obtain⟨d0,d1,d2,d3,d4,d5,d6,d7,d8,d9,lD,nZ,oC,oD⟩:=f14 (aC.below pV.out hb3 pV.out.lt);clear hb3)
      | (go_at_call 68;refine(HT.out _).mono ?_;rintro e w4 ⟨rfl,hb4⟩;have dJ:=zh (HB3.out.trans (hb4.mono HB3.out.size));obtain⟨e0,e1,e2,e3,e4,e5,e6,e7,e8,e9,e10,e11,e12,e13⟩:=f14 (aC.below pV.out dJ.out pV.out.lt);clear hb4))
     refine(HFA.out _ dJ.out).mono ?_;rintro e w5 ⟨hf,hb5⟩;obtain⟨ch,rfl⟩:=hf.form;have uE:=qK.out.then dJ.out;go_wp2_with fail;exact⟨rfl,.no1 kZ.out ((hf.low uE.size).to (by omega)) (uE.then hb5)⟩
   · have q2:((f.aI:Int) != 0)=true:=by simp;omega
     have HYE:=zh (show rdF K f L=some (qU,aK b (at_+1) tn) by rw[HRD.out,if_pos ⟨rfl,hnu⟩]);clear hnu;go_wp2_with (go_at_call 67;refine(HN.out _).mono ?_;rintro e w3 ⟨rfl,hb3⟩;have HB3:=zh hb3;obtain⟨d0,d1,d2,d3,d4,d5,d6,d7,d8,d9,lD,nZ,oC,oD⟩:=f14 (aC.below pV.out hb3 pV.out.lt);obtain⟨⟨y0,y1,y2,y3,y4,y5⟩,z0,z1,z2,z3,z4,z5⟩:=f6 (aC.below aUm.out hb3 aUm.out.lt);clear hb3);have uD:=qK.out.then HB3.out;have HR3:gB w3 rb (.pointer (some t)) b (at_+1) tn pv:=aC.below HR2.out HB3.out HR2.out.lt;refine bodyPost_ret (v:=.agg (V.cellsOf qU (.slice none 0 0))) (by simp[results,Tryz.f41,go_sem,y0,y1,y2,y3,y4,y5,V.cellsOf,qU,V.Pt.kind,V.Pt.yes,V.Pt.neg,V.Pt.mag,V.Pt.raw];try rfl) rfl ?_;exact .flat HYE.out rfl (by omega) rfl (fI HR3 (Ne.symm hne1) _ _ _ _ _ _) xO.out (kP uD (fun h=>by omega) _ _ _ _ _ _)
 have q1:((c.toNat:Int)==(nb.toNat:Int))=false:=by
  have:c.toNat≠nb.toNat:=fun e=>hcn (UInt8.toNat_inj.1 e)
  simp;omega
 by_cases hct:c=tb
 case neg =>
  have kZ:=zh (show rdF K f L=none by rw[HRD.out,if_neg (fun e=>hcn e.1),if_pos hct]);have q3:((c.toNat:Int) != (tb.toNat:Int))=true:=by
   have:c.toNat≠tb.toNat:=fun e=>hct (UInt8.toNat_inj.1 e)
   simp;omega
  clear hcn hct;go_wp2_with (first
   | (go_at_call 67;refine(HN.out _).mono ?_;rintro e w3 ⟨rfl,hb3⟩;have HB3:=zh hb3;obtain⟨d0,d1,d2,d3,d4,d5,d6,d7,d8,d9,lD,nZ,oC,oD⟩:=f14 (aC.below pV.out hb3 pV.out.lt);clear hb3)
   | (go_at_call 68;refine(HT.out _).mono ?_;rintro e w4 ⟨rfl,hb4⟩;have dJ:=zh (HB3.out.trans (hb4.mono HB3.out.size));obtain⟨e0,e1,e2,e3,e4,e5,e6,e7,e8,e9,e10,e11,e12,e13⟩:=f14 (aC.below pV.out dJ.out pV.out.lt);clear hb4))
  refine(HFA.out _ dJ.out).mono ?_;rintro e w5 ⟨hf,hb5⟩;obtain⟨ch,rfl⟩:=hf.form;have uE:=qK.out.then dJ.out;go_wp2_with fail;exact⟨rfl,.no1 kZ.out ((hf.low uE.size).to (by omega)) (uE.then hb5)⟩
 subst hct;have q3:((c.toNat:Int) != (c.toNat:Int))=false:=by simp
 have HRG:=zh (show rdF K f L=(bU K f (flips dn (aK b (at_+1) tn))).map fun x=>(x.1,flips dn x.2) by rw[HRD.out,if_neg (fun e=>hcn e.1),if_neg (by simp)]);clear hcn HTN;obtain⟨t3,ht3⟩:∃ x:Int,(if tn then 255 else 0)=x:=⟨_,rfl⟩
 obtain⟨t4,ht4⟩:∃ x:Int,(if xor tn dn then 255 else 0)=x:=⟨_,rfl⟩
 have HT3:=zh ht3;have HT4:=zh ht4;clear ht3 ht4;cases dn with
 | true =>
  have hxo:bits .xor .u8 t3 255=t4:=by rw[← HT3.out,← HT4.out];exact aZr tn
  go_wp2_with (first
   | (go_at_call 67;refine(HN.out _).mono ?_;rintro e w3 ⟨rfl,hb3⟩;have HB3:=zh hb3;obtain⟨d0,d1,d2,d3,d4,d5,d6,d7,d8,d9,lD,nZ,oC,oD⟩:=f14 (aC.below pV.out hb3 pV.out.lt);clear hb3)
   | (go_at_call 68;refine(HT.out _).mono ?_;rintro e w4 ⟨rfl,hb4⟩;have dJ:=zh (HB3.out.trans (hb4.mono HB3.out.size));obtain⟨e0,e1,e2,e3,e4,e5,e6,e7,e8,e9,e10,e11,e12,e13⟩:=f14 (aC.below pV.out dJ.out pV.out.lt);have r3:w4.cell? ⟨rb,3,none⟩=some (.int .u8 t3):=(by have:=(aC.below HR2.out dJ.out HR2.out.lt).cell 3;rw[← HT3.out];exact this);have s3:w4.frozen? ⟨rb,3,none⟩=false:=(aC.below HR2.out dJ.out HR2.out.lt).frozen 3;clear hb4))
  obtain⟨W5,hW5⟩:∃ W5,w4.setCell ⟨rb,3,none⟩ (.int .u8 t4)=W5:=⟨_,rfl⟩
  rw[hW5];have HR4:=zh (show gB w4 rb (.pointer (some t)) b (at_+1) tn pv from aC.below HR2.out dJ.out HR2.out.lt);have HR5:=zh (show gB W5 rb (.pointer (some t)) b (at_+1) (xor tn true) pv by rw[← hW5];exact HR4.out.turn HT4.out);have HX5:=zh (show Xv (· = rb) w W5 by rw[← hW5];exact(qK.out.then dJ.out).aU (fun _=>rfl) 3 _);have aLf:=zh (show aC W5 (w.heap.size+1) 57 #[.int .u8 0,.bool false,.bool false,.string ⟨#[]⟩,.string ⟨#[]⟩,.slice none 0 0] by rw[← hW5];exact bH (aC.below aUm.out dJ.out aUm.out.lt) hne1 _ _);have HPP:=zh (HPY.out W5 (at_+1) (xor tn true) (by omega) HR5.out HX5.out);rw[aAf] at HPP;obtain⟨Z,hZ⟩:∃ Z,bU K f (flips true (aK b (at_+1) tn))=Z:=⟨_,rfl⟩
  rw[hZ] at HPP HRG;clear hZ hW5 HR4;refine HPP.out.mono ?_;intro e w6 hpg;cases Z with
  | none =>
   obtain⟨hf,hx6⟩:=hpg;obtain⟨ch,rfl⟩:=hf.form;go_wp2_with fail;exact⟨rfl,.no HRG.out (hf.low HX5.out.size) ((HX5.out.mono fun _ _ e=>.inl e).trans hx6 (fun _ _ e=>e))⟩
  | some x =>
   obtain⟨q,l⟩:=x;obtain⟨⟨u,a,qP,rfl,ha,rfl,hr6,ho6,hpo,hps⟩,hx6⟩:=hpg;obtain⟨ua,uc,rfl⟩:=hps.form;obtain⟨un,hun⟩:∃ un,q.items.length=un:=⟨_,rfl⟩
   rw[hun] at hps ⊢;have HUN:=zh hun;have HR6:=zh hr6;have HO6:=zh ho6;have HPO:=zh hpo;have HPS:=zh hps;have HX6:=zh ((HX5.out.mono (Q:=fun k=>k=rb∨pv.ownBlock=some k) fun _ _ e=>.inl e).trans hx6 (fun _ _ e=>e));have aAs:=zh (hx6.blk (fun e=>by
    rcases e with e | e
    · exact hne1 e
    · have:=(xO.out.lt e).2;omega) aLf.out)
   have r3:w6.cell? ⟨rb,3,none⟩=some (.int .u8 (if xor tn true then 255 else 0)):=HR6.out.cell 3;have s3:w6.frozen? ⟨rb,3,none⟩=false:=HR6.out.frozen 3;obtain⟨⟨y0,y1,y2,y3,y4,y5⟩,z0,z1,z2,z3,z4,z5⟩:=f6 aAs.out;have l1:rb<w6.heap.size:=HR6.out.lt;have l2:w.heap.size+1<w6.heap.size:=aAs.out.lt;have n1:w6.heap.size≠rb:=by have:=HR6.out.lt;omega
   have n2:rb≠w6.heap.size:=n1.symm;have n3:w6.heap.size≠w.heap.size+1:=by have:=aAs.out.lt;omega
   have n4:w.heap.size+1≠w6.heap.size:=n3.symm;clear hr6 ho6 hpo hps hx6 hun;simp only [V.cellsOf];go_wp2_with fail;refine bodyPost_ret (v:=.agg (V.cellsOf q (.slice ua un uc))) (by simp[results,Tryz.f41,go_sem,y0,y1,y2,y3,y4,y5,l2,V.cellsOf]) rfl ?_;have XF:Xv (fun k=>k=rb∨k=w.heap.size+1) w6 ((aUl (w6.setCell ⟨rb,3,none⟩ (.int .u8 t3)) (w.heap.size+1) (.int .u8 q.kind) (.bool q.yes) (.bool q.neg) (.string q.mag) (.string q.raw) (.slice ua un uc)).alloc (.cells #[.int .u8 q.kind,.bool q.yes,.bool q.neg,.string q.mag,.string q.raw,.slice ua un uc] 57)) :=
    (kP ((Xv.refl _ w6).aU (fun _=>.inl rfl) 3 _) (fun _=>.inr rfl) _ _ _ _ _ _).alloc _
   have hw5:w.heap.size+1<W5.heap.size:=aLf.out.lt;have hrz:gB (aUl (w6.setCell ⟨rb,3,none⟩ (.int .u8 t3)) (w.heap.size+1) (.int .u8 q.kind) (.bool q.yes) (.bool q.neg) (.string q.mag) (.string q.raw) (.slice ua un uc)) rb (.pointer (some t)) b a tn qP:=fI (HR6.out.turn HT3.out) (Ne.symm hne1) _ _ _ _ _ _;unfold iU;rw[HRG.out];refine⟨⟨.slice ua un uc,a,qP,rfl,ha,vQ b a tn true,aC.below hrz (zr.alloc lr _) hrz.lt,HO6.out.xv XF fun k hk e=>?_,fun k hk=>(HPO.out k hk).imp id fun h=>by omega,?_⟩,HX6.out.trans XF fun i hi e=>?_⟩
   · have h1:=(HO6.out.lt hk).1;have h2:=HPO.out k hk;rcases e with e | e
     · omega
     · rcases h2 with h2 | h2
       · have:=(xO.out.lt h2).2;omega
       · omega
   · exact HPS.out.keep XF.size (fun k hk hS=>XF.block k hk fun e=>by have:=hS.1;omega) (fun k hk hS=>⟨by have:=hS.1;omega,hS.2⟩)
   · rcases e with e | e
     · exact .inl e
     · omega
 | false =>
  go_wp2_with (first
   | (go_at_call 67;refine(HN.out _).mono ?_;rintro e w3 ⟨rfl,hb3⟩;have HB3:=zh hb3;obtain⟨d0,d1,d2,d3,d4,d5,d6,d7,d8,d9,lD,nZ,oC,oD⟩:=f14 (aC.below pV.out hb3 pV.out.lt);clear hb3)
   | (go_at_call 68;refine(HT.out _).mono ?_;rintro e w4 ⟨rfl,hb4⟩;have dJ:=zh (HB3.out.trans (hb4.mono HB3.out.size));obtain⟨e0,e1,e2,e3,e4,e5,e6,e7,e8,e9,e10,e11,e12,e13⟩:=f14 (aC.below pV.out dJ.out pV.out.lt);have r3:w4.cell? ⟨rb,3,none⟩=some (.int .u8 t3):=(by have:=(aC.below HR2.out dJ.out HR2.out.lt).cell 3;rw[← HT3.out];exact this);have s3:w4.frozen? ⟨rb,3,none⟩=false:=(aC.below HR2.out dJ.out HR2.out.lt).frozen 3;clear hb4))
  obtain⟨W5,hW5⟩:∃ W5,w4=W5:=⟨_,rfl⟩
  rw[hW5];have HR4:=zh (show gB w4 rb (.pointer (some t)) b (at_+1) tn pv from aC.below HR2.out dJ.out HR2.out.lt);have HR5:=zh (show gB W5 rb (.pointer (some t)) b (at_+1) (xor tn false) pv by rw[← hW5,Bool.xor_false];exact HR4.out);have HX5:=zh (show Xv (· = rb) w W5 by rw[← hW5];exact qK.out.then dJ.out);have aLf:=zh (show aC W5 (w.heap.size+1) 57 #[.int .u8 0,.bool false,.bool false,.string ⟨#[]⟩,.string ⟨#[]⟩,.slice none 0 0] by rw[← hW5];exact aC.below aUm.out dJ.out aUm.out.lt);have HPP:=zh (HPY.out W5 (at_+1) (xor tn false) (by omega) HR5.out HX5.out);rw[aAf] at HPP;obtain⟨Z,hZ⟩:∃ Z,bU K f (flips false (aK b (at_+1) tn))=Z:=⟨_,rfl⟩
  rw[hZ] at HPP HRG;clear hZ hW5 HR4;refine HPP.out.mono ?_;intro e w6 hpg;cases Z with
  | none =>
   obtain⟨hf,hx6⟩:=hpg;obtain⟨ch,rfl⟩:=hf.form;go_wp2_with fail;exact⟨rfl,.no HRG.out (hf.low HX5.out.size) ((HX5.out.mono fun _ _ e=>.inl e).trans hx6 (fun _ _ e=>e))⟩
  | some x =>
   obtain⟨q,l⟩:=x;obtain⟨⟨u,a,qP,rfl,ha,rfl,hr6,ho6,hpo,hps⟩,hx6⟩:=hpg;obtain⟨ua,uc,rfl⟩:=hps.form;obtain⟨un,hun⟩:∃ un,q.items.length=un:=⟨_,rfl⟩
   rw[hun] at hps ⊢;have HUN:=zh hun;have HR6:=zh hr6;have HO6:=zh ho6;have HPO:=zh hpo;have HPS:=zh hps;have HX6:=zh ((HX5.out.mono (Q:=fun k=>k=rb∨pv.ownBlock=some k) fun _ _ e=>.inl e).trans hx6 (fun _ _ e=>e));have aAs:=zh (hx6.blk (fun e=>by
    rcases e with e | e
    · exact hne1 e
    · have:=(xO.out.lt e).2;omega) aLf.out)
   have r3:w6.cell? ⟨rb,3,none⟩=some (.int .u8 (if xor tn false then 255 else 0)):=HR6.out.cell 3;have s3:w6.frozen? ⟨rb,3,none⟩=false:=HR6.out.frozen 3;obtain⟨⟨y0,y1,y2,y3,y4,y5⟩,z0,z1,z2,z3,z4,z5⟩:=f6 aAs.out;have l1:rb<w6.heap.size:=HR6.out.lt;have l2:w.heap.size+1<w6.heap.size:=aAs.out.lt;have n1:w6.heap.size≠rb:=by have:=HR6.out.lt;omega
   have n2:rb≠w6.heap.size:=n1.symm;have n3:w6.heap.size≠w.heap.size+1:=by have:=aAs.out.lt;omega
   have n4:w.heap.size+1≠w6.heap.size:=n3.symm;clear hr6 ho6 hpo hps hx6 hun;simp only [V.cellsOf];go_wp2_with fail;refine bodyPost_ret (v:=.agg (V.cellsOf q (.slice ua un uc))) (by simp[results,Tryz.f41,go_sem,y0,y1,y2,y3,y4,y5,l2,V.cellsOf]) rfl ?_;have XF:Xv (fun k=>k=rb∨k=w.heap.size+1) w6 ((aUl (w6.setCell ⟨rb,3,none⟩ (.int .u8 t3)) (w.heap.size+1) (.int .u8 q.kind) (.bool q.yes) (.bool q.neg) (.string q.mag) (.string q.raw) (.slice ua un uc)).alloc (.cells #[.int .u8 q.kind,.bool q.yes,.bool q.neg,.string q.mag,.string q.raw,.slice ua un uc] 57)) :=
    (kP ((Xv.refl _ w6).aU (fun _=>.inl rfl) 3 _) (fun _=>.inr rfl) _ _ _ _ _ _).alloc _
   have hw5:w.heap.size+1<W5.heap.size:=aLf.out.lt;have hrz:gB (aUl (w6.setCell ⟨rb,3,none⟩ (.int .u8 t3)) (w.heap.size+1) (.int .u8 q.kind) (.bool q.yes) (.bool q.neg) (.string q.mag) (.string q.raw) (.slice ua un uc)) rb (.pointer (some t)) b a tn qP:=fI (HR6.out.turn HT3.out) (Ne.symm hne1) _ _ _ _ _ _;unfold iU;rw[HRG.out];refine⟨⟨.slice ua un uc,a,qP,rfl,ha,vQ b a tn false,aC.below hrz (zr.alloc lr _) hrz.lt,HO6.out.xv XF fun k hk e=>?_,fun k hk=>(HPO.out k hk).imp id fun h=>by omega,?_⟩,HX6.out.trans XF fun i hi e=>?_⟩
   · have h1:=(HO6.out.lt hk).1;have h2:=HPO.out k hk;rcases e with e | e
     · omega
     · rcases h2 with h2 | h2
       · have:=(xO.out.lt h2).2;omega
       · omega
   · exact HPS.out.keep XF.size (fun k hk hS=>XF.block k hk fun e=>by have:=hS.1;omega) (fun k hk hS=>⟨by have:=hS.1;omega,hS.2⟩)
   · rcases e with e | e
     · exact .inl e
     · omega
