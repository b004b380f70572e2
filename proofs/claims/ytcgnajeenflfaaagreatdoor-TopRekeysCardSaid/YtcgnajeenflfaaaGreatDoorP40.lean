import Derived.Test.YtcgnajeenflfaaaGreatDoorP38
import Derived.Test.YtcgnajeenflfaaaGreatDoorP39
set_option maxRecDepth 100000
set_option maxHeartbeats 4000000
set_option linter.all false
open Go.Proofs.Tryz Go.RowKit
namespace Go.Proofs.YtcgnajeenflfaaaGreatDoor
namespace Sc
open V (Same Pt VI aL bE PS)
open We (Co gL lF bT)
open D (Dm Wf)
open Ta (Tm)
theorem aPl {K:Co→ByteArray→List UInt8} {D:Dm} {T:Tm} (t:Addr) (f:Fd) (d:Nat) (hok:xL d f) (hk:f.kind=7) (IH:∀ g∈f.fields,mZ 41 (rdF K g) D T t g (d+1)):mZ 70 (bU K f) D T t f d:=by
 intro hi a0 k0 rb b at_ tn pv lp w hb hat hhi hlp hr hpv ht hfi;have iO:lp.length≤17:=by have:=hok.lt;omega
 obtain⟨m,hm⟩:∃ m,f.fields.length=m:=⟨_,rfl⟩
 have hrl:=hr.lt;have hok2:=hok;have bWq:lp.length≤15:=by have:=hok.lt;omega
 have bGp:f.fields.length≤64:=by cases hok;assumption
 obtain⟨_,_,_,_,ho,_,_,_⟩:=hok;obtain⟨_,_,_,_,_,_,_,hin⟩:=hok2;rw[hm];obtain⟨L,hL⟩:∃ L,aK b at_ tn=L:=⟨_,rfl⟩
 rw[hL];have HLL:=zh hL;have xO:=zh hpv;have HI:=zh (fZ hpv);rw[aT,hk,show ((7:Nat):Int)=7 from rfl];generalize hW:((w.alloc (.cells #[.string f.name,.int .u8 7,.bool f.down,.int .u8 f.aI,.bool f.bnd,.bool f.eX,.string f.eG,.bool f.hib,.string f.him,.int .i64 f.most,.int .i64 f.co.str,.bool f.co.sh,.bool f.co.back,.slice a0 m k0] 79)).alloc (.cells #[.int .u8 0,.bool false,.bool false,.string ⟨#[]⟩,.string ⟨#[]⟩,.slice none 0 0] 57)).alloc (.cells #[.int .u8 7,.bool false,.bool false,.string ⟨#[]⟩,.string ⟨#[]⟩,.slice none 0 0] 57)=w1;have HB1:=zh (show Below w.heap.size w w1 by rw[← hW];exact((zr.alloc lr _).alloc (by simp) _).alloc (by simp;omega) _);obtain⟨W0,hW0⟩:∃ W0,W0=(w.alloc (.cells #[.string f.name,.int .u8 7,.bool f.down,.int .u8 f.aI,.bool f.bnd,.bool f.eX,.string f.eG,.bool f.hib,.string f.him,.int .i64 f.most,.int .i64 f.co.str,.bool f.co.sh,.bool f.co.back,.slice a0 m k0] 79)).alloc (.cells #[.int .u8 0,.bool false,.bool false,.string ⟨#[]⟩,.string ⟨#[]⟩,.slice none 0 0] 57):=⟨_,rfl⟩
 have hz0:W0.heap.size=w.heap.size+1+1:=by rw[hW0];simp
 have xC:=zh (show aC w1 w.heap.size 79 #[.string f.name,.int .u8 7,.bool f.down,.int .u8 f.aI,.bool f.bnd,.bool f.eX,.string f.eG,.bool f.hib,.string f.him,.int .i64 f.most,.int .i64 f.co.str,.bool f.co.sh,.bool f.co.back,.slice a0 m k0] by
  rw[← hW];exact aC.below (aC.new _ _ _) ((zr.alloc lr _).alloc (by simp) _) (by simp))
 have HZB:=zh (show aC w1 (w.heap.size+1) 57 #[.int .u8 0,.bool false,.bool false,.string ⟨#[]⟩,.string ⟨#[]⟩,.slice none 0 0] by
  rw[← hW];have:=aC.new (w.alloc (.cells #[.string f.name,.int .u8 7,.bool f.down,.int .u8 f.aI,.bool f.bnd,.bool f.eX,.string f.eG,.bool f.hib,.string f.him,.int .i64 f.most,.int .i64 f.co.str,.bool f.co.sh,.bool f.co.back,.slice a0 m k0] 79)) 57 #[.int .u8 0,.bool false,.bool false,.string ⟨#[]⟩,.string ⟨#[]⟩,.slice none 0 0];exact aC.below (by simpa using this) (zr.alloc lr _) (by simp))
 have HPB:=zh (show aC w1 (w.heap.size+1+1) 57 #[.int .u8 7,.bool false,.bool false,.string ⟨#[]⟩,.string ⟨#[]⟩,.slice none 0 0] by
  rw[← hW,← hW0];have:=aC.new W0 57 #[.int .u8 7,.bool false,.bool false,.string ⟨#[]⟩,.string ⟨#[]⟩,.slice none 0 0];rwa [hz0] at this)
 have HR1:=zh (show gB w1 rb (.pointer (some t)) b at_ tn pv from aC.below hr HB1.out hrl);have lW:=zh (Xv.of_below (P:=(· = rb)) HB1.out);have HI1:=zh (HI.out.keep HB1.out.size (fun k hk _=>HB1.out.block k hk) (fun _ _ e=>e));have hne0:w.heap.size≠rb:=by omega
 have hne1:w.heap.size+1≠rb:=by omega
 have hne2:w.heap.size+1+1≠rb:=by omega
 have c2:w1.cell? ⟨rb,2,none⟩=some (.int .i64 (at_:Int)):=HR1.out.cell 2;have f1:w1.cell? ⟨w.heap.size,1,none⟩=some (.int .u8 7):=xC.out.cell 1;obtain⟨R,hR⟩:∃ R,bU K f L=R:=⟨_,rfl⟩
 rw[hR];have HRR:=zh (show R=(zV K f.fields L).bind fun x=>zU x.1 x.2 by rw[← hR];unfold bU;rw[if_pos hk]);have HIN:=zh hin;have HIH:=zh IH;have HM:=zh hm;have uK:=zh hfi;have HTB:=zh ht;have hpw:∀ k,pv.ownBlock=some k→rb+1≤k∧k<w.heap.size:=fun k hk=>hpv.lt hk
 have HPW:=zh hpw;have hz1:w.heap.size+1+1+1=w1.heap.size:=by rw[← hW];simp
 have HZ1:=zh hz1;obtain⟨c0,c1,c2',c3,c4,c5,c6,c7,c8,c9,c10,c11,c12,c13⟩:=f14 xC.out;clear hpw hR IH hin hz1;clear hW0 hz0 hr hpv ht hfi hL;subst hW;go_enter func70,ntmps70;go_wp2_with fail;go_loopw [79] (fun iv wr=>∃ (i a:Nat) (ps:List (Pt×Value)) (qP rv:Value),i≤m∧iv=.int .i64 (i:Int)∧a≤b.size∧ps.length=i∧Hid (gB wr rb (.pointer (some t)) b a tn qP)∧Hid (aJ wr (rb+1) qP lp)∧Hid (∀ k,qP.ownBlock=some k→pv.ownBlock=some k∨w.heap.size+1+1+1≤k) ∧
  Hid (V.lX wr (w.heap.size+1+1+1) qP rv ps)∧Hid (aC wr (w.heap.size+1+1) 57 #[.int .u8 7,.bool false,.bool false,.string ⟨#[]⟩,.string ⟨#[]⟩,rv])∧Hid (aC wr (w.heap.size+1) 57 #[.int .u8 0,.bool false,.bool false,.string ⟨#[]⟩,.string ⟨#[]⟩,.slice none 0 0]) ∧
  Hid (Xv (fun k=>k=rb∨pv.ownBlock=some k) w wr)∧Hid (w.heap.size+1+1+1≤wr.heap.size)∧Hid (R=(zV K (f.fields.drop i) (aK b a tn)).bind fun x=>zU (ps.map Prod.fst++x.1) x.2)) (fun iv _=>m-(intOf iv).toNat)
 case atStart=>exact⟨0,at_,[],pv,.slice none 0 0,Nat.zero_le _,rfl,hat,rfl,zh HR1.out,zh (sM xO.out lW.out),zh (fun _ h=>.inl h),zh (V.lX.nil _ _ _),zh HPB.out,zh HZB.out,zh (lW.out.mono fun _ _ e=>.inl e),zh (Nat.le_of_eq HZ1.out),zh (by rw[HRR.out,HLL.out];simp)⟩
 case round =>
  obtain⟨i,a,ps,qP,rv,hi2,rfl,ha,hpl,HRw,uY,HAp,aZy,HPw,HZw,HXw,HSw,bHf⟩:=hrel;by_cases hlt:i<m
  · have q1:decide ((i:Int)<(m:Int))=true:=decide_eq_true (by omega);have hfi:=uK.out.xv HXw.out (fun k _ hk e=>by
     rcases e with e | e
     · omega
     · have:=(HPW.out k e).1;omega) (by omega)
    obtain⟨a',c',he,hc,qO⟩:=hfi.open;injection he with e1 e2 e3
    subst e1 e3;obtain⟨bb,off,uu,rfl,_,hbh,hcl,fK,hsub⟩:=qO i (by rw[HM.out];exact hlt);obtain⟨k0',k1',k2',k3',k4',k5',k6',k7',k8',k9',aZz,bAa,bAb,bAc⟩:=hcl.all;have hdr:=List.drop_eq_getElem_cons (l:=f.fields) (i:=i) (by rw[HM.out];exact hlt);have hgm:=List.getElem_mem (l:=f.fields) (n:=i) (by rw[HM.out];exact hlt);obtain⟨g,hgq⟩:∃ g,f.fields[i]'(by rw[HM.out];exact hlt)=g:=⟨_,rfl⟩
    rw[hgq] at k0' k1' k2' k3' k4' k5' k6' k7' k8' k9' aZz bAa bAb fK hsub hdr hgm;obtain⟨au,cu,rfl,_,_⟩:=hsub.open;have qs:(i:Int)≤(k0:Int):=by rw[HM.out] at hc;omega
    obtain⟨gm,hgl⟩:∃ gm,g.fields.length=gm:=⟨_,rfl⟩
    rw[hgl] at bAc hsub;have yX:=zh hsub;have HGL:=zh hgl;have HGM:=zh hgm;have HDR:=zh hdr;have HFF:=zh fK;obtain⟨pa2,pc2,rfl⟩:=aP uY.out;have r4:wr.cell? ⟨rb,4,none⟩=some (.slice pa2 lp.length pc2):=HRw.out.cell 4;have rl:rb<wr.heap.size:=HRw.out.lt;have bl:bb<wr.heap.size:=World.block_lt_of_cell? wr _ k0';have bSg:=zh (show ∀ o,IntsIn ((wr.alloc o).alloc (.cells #[.int .i64 (i:Int)] 3)) (wr.heap.size+1) ((wr.alloc o).alloc (.cells #[.int .i64 (i:Int)] 3)).heap.size (.slice (some ⟨wr.heap.size+1,0,none⟩) 1 1) [(i:Int)] from fun o=>by
     have:=(aJ.one (wr.alloc o) (wr.heap.size+1) (i:Int) (by simp)).reads;simpa only [World.size_alloc] using this)
    clear hfi qO hcl fK hsub hgq hdr hgm hgl hc;go_wp2_with (at_builtin;refine aO rfl (.tmp 88) (.tmp 90) 42 rfl 3 (.int .i64 0) 1 8 underlying42 lK rfl (by decide) rfl ((uY.out.alloc _).alloc _) rfl (aV.ints (bSg.out _) rfl) (rG _) (by simp;omega) (by decide) (by simp;omega) ?_;intro pc9 nE w9 qY nD jM;have hr9:=bLt HRw.out uY.out nD;have s4:=hr9.cell 4;have z4:=hr9.frozen 4;simp at s4);have bLu:rb<w.heap.size+1+1+1:=by omega
    obtain⟨hr3,ho3,hrow3,bHg,hx3,bHh⟩:=bSd bLu HSw.out HRw.out uY.out aZy.out nD (show aJ w9 (rb+1) (.slice pc9 (lp.length+1) nE) (lp++[(i:Int)]) by
     unfold aJ;rw[List.length_append,← fP];exact qY) jM
    obtain⟨W3,hW3⟩:∃ W3,w9.setCell ⟨rb,4,none⟩ (.slice pc9 (lp.length+1) nE)=W3:=⟨_,rfl⟩
    rw[hW3] at hr3 ho3 hrow3 bHg hx3 ⊢;have bHi:∀ k,(Value.slice pa2 lp.length pc2).ownBlock=some k→k<w.heap.size∨w.heap.size+1+1+1≤k:=fun k hk=>(HAp.out k hk).imp (fun e=>(HPW.out k e).2) id
    have hBig:=HSw.out;have bHj:Xv (fun k=>k=rb∨pv.ownBlock=some k) w W3:=HXw.out.trans hx3 (fun k hk e=>by
     rcases e with e | e
     · exact .inl e
     · rcases HAp.out k e with e2 | e2
       · exact .inr e2
       · omega)
    have bDt:aC W3 (w.heap.size+1+1) 57 #[.int .u8 7,.bool false,.bool false,.string ⟨#[]⟩,.string ⟨#[]⟩,rv]:=hx3.blk (fun e=>by
     rcases e with e | e
     · omega
     · have:=bHi _ e;omega) HPw.out
    obtain⟨ra,rc,rfl⟩:=aZy.out.form;rw[hpl] at bDt hrow3;have p5:W3.cell? ⟨w.heap.size+1+1,5,none⟩=some (.slice ra i rc):=bDt.cell 5;obtain⟨d0,d1,d2,d3,d4,d5,d6,d7,d8,d9,lD,nZ,oC,oD⟩:=f14 bHg;have bLv:Below hi w W3:=bHj.below (fun k hk e=>by
     rcases e with e | e
     · omega
     · have:=(HPW.out k e).1;omega) (by omega)
    have bHk:FI W3 0 hi g.fields (.slice au gm cu):=yX.out.xv hx3 (fun k _ hk e=>by
     rcases e with e | e
     · omega
     · have:=(uY.out.lt e).1;omega) (by omega)
    rw[← HGL.out] at bHk;have bLw:gL W3 0 hi (.pointer (some t)) D T:=HTB.out.later bLv lr;have hcall:=HIH.out g HGM.out hi au cu rb b a tn (.slice pc9 (lp.length+1) nE) (lp++[(i:Int)]) W3.drew hb ha hhi (by simp;omega) hr3 ho3 bLw (bHk.same (fun _ _ _=>rfl));rw[HGL.out,aT] at hcall;obtain⟨Z,hZ⟩:∃ Z,rdF K g (aK b a tn)=Z:=⟨_,rfl⟩
    rw[hZ] at hcall;have HC:=zh hcall;have HZ:=zh hZ;have bHl:=zh bHj;have uD:=zh hx3;have HR3:=zh hr3;have zR:=zh ho3;have bEy:=zh hrow3;have bSh:=zh bDt;have bHm:=zh bHh;have bHn:=zh bHi;have bLx:=zh (show ∀ k,k<w.heap.size→(k=rb∨(Value.slice pc9 (lp.length+1) nE).ownBlock=some k)→k=rb∨pv.ownBlock=some k from fun k hk e=>by
     rcases e with e | e
     · exact .inl e
     · rcases bHh k e with e2 | e2
       · rcases HAp.out k e2 with e3 | e3
         · exact .inr e3
         · omega
       · omega)
    clear bLv bHk bLw hcall hZ bHj hx3 hr3 ho3 hrow3 bDt bHh bHi bHg hW3 nD qY jM hr9 s4 z4 r4 k0' k1' k2' k3' k4' k5' k6' k7' k8' k9' aZz bAa bAb bAc;cases Z with
    | none =>
     have kZ:=zh (show R=none by rw[bHf.out,HDR.out,oQ,HZ.out];rfl);refine wp_region_held_drew (S:=fun w'=>w'.cell? ⟨wr.heap.size,0,none⟩=some (.string g.name)∧w'.cell? ⟨wr.heap.size,1,none⟩=some (.int .u8 g.kind)∧w'.cell? ⟨wr.heap.size,2,none⟩=some (.bool g.down)∧w'.cell? ⟨wr.heap.size,3,none⟩=some (.int .u8 g.aI)∧w'.cell? ⟨wr.heap.size,4,none⟩=some (.bool g.bnd)∧w'.cell? ⟨wr.heap.size,5,none⟩=some (.bool g.eX)∧w'.cell? ⟨wr.heap.size,6,none⟩=some (.string g.eG)∧w'.cell? ⟨wr.heap.size,7,none⟩=some (.bool g.hib)∧w'.cell? ⟨wr.heap.size,8,none⟩=some (.string g.him)∧w'.cell? ⟨wr.heap.size,9,none⟩=some (.int .i64 g.most)∧w'.cell? ⟨wr.heap.size,10,none⟩=some (.int .i64 g.co.str)∧w'.cell? ⟨wr.heap.size,11,none⟩=some (.bool g.co.sh)∧w'.cell? ⟨wr.heap.size,12,none⟩=some (.bool g.co.back)∧w'.cell? ⟨wr.heap.size,13,none⟩=some (.slice au gm cu)∧w'.cell? ⟨w.heap.size+1+1,5,none⟩=some (.slice ra i rc)) (by kernel_rfl) ⟨d0,d1,d2,d3,d4,d5,d6,d7,d8,d9,lD,nZ,oC,oD,p5⟩ (fun hHeld=>?_);refine tx 0 ?v0n rfl (by kernel_rfl) tq (by rfl) ?bSi (by assumption) ?bSj;case bSi=>(rintro wS ⟨d0,d1,d2,d3,d4,d5,d6,d7,d8,d9,lD,nZ,oC,oD,p5⟩;go_simp;try with_reducible rfl)
     try simp[Act.put]
     refine tx 1 ?v1n rfl (by kernel_rfl) tq (by rfl) ?bSk (by assumption) ?bSl;case bSk=>(rintro wS ⟨d0,d1,d2,d3,d4,d5,d6,d7,d8,d9,lD,nZ,oC,oD,p5⟩;go_simp;try with_reducible rfl)
     try simp[Act.put]
     refine tx 2 ?v2n rfl (by kernel_rfl) tq (by rfl) ?bSm (by assumption) ?bSn;case bSm=>(rintro wS ⟨d0,d1,d2,d3,d4,d5,d6,d7,d8,d9,lD,nZ,oC,oD,p5⟩;go_simp;try with_reducible rfl)
     try simp[Act.put]
     refine tx 3 ?v3n rfl (by kernel_rfl) tq (by rfl) ?bSo (by assumption) ?bSp;case bSo=>(rintro wS ⟨d0,d1,d2,d3,d4,d5,d6,d7,d8,d9,lD,nZ,oC,oD,p5⟩;go_simp;try with_reducible rfl)
     try simp[Act.put]
     refine wpAnyH_ready (rs:=[4]) (by kernel_rfl) (by simp) ?_;refine AllReadyH.cons rfl (fun K hK=>?_) AllReadyH.nil;go_simp;refine HC.out.mono ?_;rintro e w4 ⟨hf,hx4⟩;obtain⟨ch,rfl⟩:=hf.form;go_wp2_with fail;exact⟨rfl,.no kZ.out (hf.low bHl.out.size) (bHl.out.trans hx4.qA (fun k hk e=>bLx.out k hk e))⟩
    | some x =>
     obtain⟨q,l⟩:=x;have HQF:=zh (aCy (yU g (d+1) (HIN.out g HGM.out) _ _ _ HZ.out).2.2.1);obtain⟨i0,aVh,hz0,hz1,hz2⟩:=info_parts V.infoP;have bSq:m≤64:=by rw[← HM.out];exact bGp
     have hB3:w.heap.size+1+1+1≤W3.heap.size:=Nat.le_trans hBig uD.out.size;have nrp:w.heap.size+1+1≠rb:=by omega
     go_region_law (first
      | (go_simp;go_at_call 41;refine HC.out.mono ?_;intro e w4 hpg;obtain⟨⟨u,a2,pv3,rfl,ha2,rfl,hr4,ho4,bDu,bAd⟩,hx4⟩:=hpg;obtain⟨ua,uc,rfl⟩:=bAd.form;obtain⟨qn,hqn⟩:∃ qn,q.items.length=qn:=⟨_,rfl⟩;rw[hqn] at bAd;
          have hxu:=hx4.qA;have aPm:=bEy.out.xv hxu (fun k e=>e.imp (fun e=>by omega) id) bDu;have hP4:aC w4 (w.heap.size+1+1) 57 #[.int .u8 7,.bool false,.bool false,.string ⟨#[]⟩,.string ⟨#[]⟩,.slice ra i rc]:=hxu.blk (fun e=>by
           rcases e with e | e
           · omega
           · rcases bHm.out _ e with e2 | e2
             · have:=bHn.out _ e2;omega
             · omega) bSh.out;have hO4:=aPm.1;rw[hpl] at hO4;have bCg:=hxu.size;have p54:=hP4.cell 5;simp at p54;have b54:=hP4.lt;simp only [V.cellsOf];rw[hqn])
      | (refine step_append_lies _ rfl (.tmp 95) (.tmp 99) 55 rfl (w.heap.size+1+1+1) 57 i0 _ 6 72 underlying55 aVh hz0 hz1 hz2 rfl (by decide) (.slice ra i rc) i (V.flat ps) (by simp[Act.eval,Act.put]) (hO4.alloc _) ⟨w4.heap.size,0,none⟩ 1 1 (V.cellsOf q (.slice ua qn uc)).toList (by simp[Act.eval,Act.put]) rfl (V.aFp w4 _ _ rfl) (by intro y hy;simp[V.cellsOf] at hy;rcases hy with rfl | rfl | rfl | rfl | rfl | rfl<;>rfl) (by decide) (by unfold maxLen;omega) (by omega) (by simp;omega) _ rfl ?_;intro g5 cap5 w5 qZ hg5 hlies hgl;
          have hP5:aC w5 (w.heap.size+1+1) 57 #[.int .u8 7,.bool false,.bool false,.string ⟨#[]⟩,.string ⟨#[]⟩,.slice ra i rc]:=(sN hg5).blk (fun e=>by have:=(V.jI aPm.1 e).1;omega) (aC.below hP4 (zr.alloc lr _) hP4.lt);have p55:=hP5.cell 5;have z55:=hP5.frozen 5;simp at p55))
     all_goals
      obtain⟨pa3,pc3,rfl⟩:=aP ho4;have hl1:(lp++[(i:Int)]).length=lp.length+1:=by simp
      rw[hl1] at hr4 ho4 bDu bAd aPm;have bHo:∀ k,(Value.slice pa3 lp.length pc3).ownBlock=some k→pv.ownBlock=some k∨w.heap.size+1+1+1≤k:=fun k hk=>by
       have hk2:(Value.slice pa3 (lp.length+1) pc3).ownBlock=some k:=by rw[← hk];cases pa3<;>rfl
       rcases bDu k hk2 with e | e
       · rcases bHm.out k e with e2 | e2
         · exact HAp.out k e2
         · exact .inr (by omega)
       · exact .inr (Nat.le_trans hB3 e)
      have bLy:∀ k,(Value.slice pa3 (lp.length+1) pc3).ownBlock=some k→k≠w.heap.size+1+1:=fun k hk e=>by
       have hk2:(Value.slice pa3 lp.length pc3).ownBlock=some k:=by rw[← hk];cases pa3<;>rfl
       rcases bHo k hk2 with e2 | e2
       · have:=(HPW.out k e2).2;omega
       · omega
      obtain⟨hr7,ho7,bHp,hP7,hx7⟩:=bSe (rv2:=.slice (some ⟨g5,0,none⟩) (i+1) cap5) bLu (by omega) nrp hB3 hr4 ho4 aPm (fun k hk=>(V.jI bEy.out.1 hk).2) bAd HQF.out bLy hg5 (by rw[hpl];exact qZ) (hlies.imp (fun e=>e.symm) (fun e=>congrArg some e)) hP4;simp only [Nat.add_sub_cancel] at hr7 ho7 bHp hP7 hx7;have hr5:gB w5 rb (.pointer (some t)) b a2 tn (.slice pa3 (lp.length+1) pc3):=(sN hg5).blk (fun e=>by have:=(V.jI aPm.1 e).1;omega) (aC.below hr4 (zr.alloc lr _) hr4.lt);have hr6:=bH hr5 (Ne.symm nrp) 5 (.slice (some ⟨g5,0,none⟩) (i+1) cap5);have hrow4:∀ k,(Value.slice ra i rc).ownBlock=some k→w.heap.size+1+1+1≤k:=fun k hk=>(V.jI aPm.1 hk).1
      obtain⟨_,_,hE7,hc7,-⟩:=ho4.reads;injection hE7 with hE6 _ hE8
      subst hE6 hE8;rw[hl1] at hc7;have HR7:=zh hr7;have HO7:=zh ho7;have bLz:=zh bHp;have HP7:=zh hP7;have HX7:=zh hx7;have bSr:=zh bHo;have uE:=zh hxu;have HRV:=zh hrow4;clear aVh hz0 hz1 hz2;obtain⟨W6,hW6⟩:∃ W6,w5.setCell ⟨w.heap.size+1+1,5,none⟩ (.slice (some ⟨g5,0,none⟩) (i+1) cap5)=W6:=⟨_,rfl⟩
      rw[hW6] at HR7 HO7 bLz HP7 HX7 hr6 ⊢;have r6:W6.cell? ⟨rb,4,none⟩=some (.slice pa3 (lp.length+1) pc3):=hr6.cell 4;have z6:W6.frozen? ⟨rb,4,none⟩=false:=hr6.frozen 4;have r6d:W6.drew.cell? ⟨rb,4,none⟩=some (.slice pa3 (lp.length+1) pc3):=r6;have z6d:W6.drew.frozen? ⟨rb,4,none⟩=false:=z6;clear hr7 ho7 bHp hP7 hx7 bHo bLy hr5 hr6 hrow4 hW6 hr4 ho4 bDu bAd aPm hP4 hO4 qZ hg5 hlies hgl hP5 p55 z55 p54 b54 hx4 hxu p5 d0 d1 d2 d3 d4 d5 d6 d7 d8 d9 lD nZ oC oD hqn;go_wp2_with fail;have qc:(lp.length:Int)≤(pc3:Int):=by omega
      have HC7:=zh hc7;clear hc7 hl1 r6d z6d bCg hB3;obtain⟨pl,qO⟩:∃ pl,lp.length+1=pl:=⟨_,rfl⟩
      rw[qO] at r6;have qw:wrap64 ((pl:Int)-1)=(lp.length:Int):=by rw[← qO];unfold wrap64;omega
      have qv:(pl:Int)-1=(lp.length:Int):=by rw[← qO];omega
      have HPL:=zh qO;clear qO;go_region;go_wp2_with fail;have hz3:=uD.out.blk (fun e=>by
       rcases e with e | e
       · omega
       · have:=bHn.out _ e;omega) HZw.out
      have hz4:=uE.out.blk (fun e=>by
       rcases e with e | e
       · omega
       · rcases bHm.out _ e with e2 | e2
         · have:=bHn.out _ e2;omega
         · omega) hz3
      have hz7:=HX7.out.blk (fun e=>by
       rcases e with e | e | e
       · omega
       · omega
       · have:=HRV.out _ e;omega) hz4
      have hxe:=(bHl.out.trans uE.out (fun k hk e=>bLx.out k hk e)).trans HX7.out (fun k hk e=>by
       rcases e with e | e | e
       · exact .inl e
       · omega
       · have:=HRV.out _ e;omega)
      have hse:=Nat.le_trans (Nat.le_trans hBig uD.out.size) (Nat.le_trans uE.out.size HX7.out.size);have hre:R=(zV K (f.fields.drop (i+1)) (aK b a2 tn)).bind fun x=>zU ((ps++[(q,Value.slice ua qn uc)]).map Prod.fst++x.1) x.2:=by
       rw[bHf.out,HDR.out,oQ,HZ.out];simp only [Option.bind_some];generalize zV K (f.fields.drop (i+1)) (aK b a2 tn)=Y;cases Y<;>simp
      exact⟨⟨i+1,a2,ps++[(q,.slice ua qn uc)],.slice pa3 lp.length pc3,.slice (some ⟨g5,0,none⟩) (i+1) cap5,by omega,by simp,ha2,by simp[hpl],zh HR7.out,zh HO7.out,zh bSr.out,zh (bLz.out.below zr.drew),zh HP7.out,zh hz7,zh hxe.drew,zh hse,zh hre⟩,by simp[intOf];omega⟩
  · obtain rfl:i=m:=by omega
    have q1:decide ((i:Int)<(i:Int))=false:=decide_eq_false (by omega);have r2:wr.cell? ⟨rb,2,none⟩=some (.int .i64 (a:Int)):=HRw.out.cell 2;have hrl2:rb<wr.heap.size:=HRw.out.lt;have HRE:=zh (show R=zU (ps.map Prod.fst) (aK b a tn) by
     rw[bHf.out,show f.fields.drop i=[] by rw[← HM.out,List.drop_length],aAv];simp)
    have hown:∀ k,qP.ownBlock=some k→k<w.heap.size∨w.heap.size+1+1+1≤k:=fun k hk=>(HAp.out k hk).imp (fun e=>(HPW.out k e).2) id
    have HOWN:=zh hown;clear hown;by_cases hlt2:a<b.size
    case neg =>
     have kZ:=zh (show R=none by rw[HRE.out,jJ tn (by omega)];rfl);have HF:=zh (kY rb (.pointer (some t)) b a tn qP lp wr hb HRw.out (fZ uY.out) iO ha hlt2);go_wp2_with fail;refine HF.out.mono ?_;rintro e w9 ⟨hf,aB⟩;obtain⟨ch,rfl⟩:=hf.form;go_wp2_with fail;exact⟨rfl,.no kZ.out (hf.low HXw.out.size) (HXw.out.then aB)⟩
    obtain⟨c,hc⟩:∃ c,fl tn b[a]=c:=⟨_,rfl⟩
    have H1:=zh (iY rb (.pointer (some t)) b a tn qP wr hb HRw.out hlt2);rw[hc] at H1;have HRF:=zh (show R=if c=1 then some (.mk 7 false false .empty .empty (ps.map Prod.fst),aK b (a+1) tn) else none by rw[HRE.out,dP tn hlt2,hc];rfl);clear hc;go_wp2_with fail;refine H1.out.mono ?_;rintro e w2 ⟨p,rfl,⟨hp1,hpc⟩,hp9,hr2,hx2⟩;have HR2:=zh hr2;have qK:=zh hx2;have bHq:=zh (HXw.out.trans (hx2.mono (Q:=fun k=>k=rb∨pv.ownBlock=some k) fun _ _ e=>.inl e) fun _ _ e=>e);clear hr2 hx2 hp9;by_cases hc1:c=1
    case neg =>
     have q2:((c.toNat:Int) != 1)=true:=by
      have:c.toNat≠1:=fun e=>hc1 (UInt8.toNat_inj.1 e)
      simp;omega
     have kZ:=zh (show R=none by rw[HRF.out,if_neg hc1]);have HF:=zh (eO rb (.pointer (some t)) b (a+1) tn qP lp 143 a .nilIface w2 HR2.out (fZ (sM uY.out qK.out)) iO (.inl rfl));clear hc1;go_wp2_with fail;refine HF.out.mono ?_;rintro e w9 ⟨hf,aB⟩;obtain⟨ch,rfl⟩:=hf.form;go_wp2_with fail;exact⟨rfl,.no kZ.out ((hf.low bHq.out.size).to (by omega)) (bHq.out.then aB)⟩
    subst hc1;obtain⟨ra,rc,rfl⟩:=aZy.out.form;rw[hpl] at HPw aZy;have nX:=zh (qK.out.blk hne2 HPw.out);have nG:=zh (qK.out.blk hne1 HZw.out);have HYE:=zh (show R=some (.mk 7 false false .empty .empty (ps.map Prod.fst),aK b (a+1) tn) by rw[HRF.out,if_pos rfl]);obtain⟨⟨y0,y1,y2,y3,y4,y5⟩,z0,z1,z2,z3,z4,z5⟩:=f6 nG.out;obtain⟨⟨a0',a1',a2',a3',a4',a5'⟩,b0',b1',b2',b3',b4',b5'⟩:=f6 nX.out;have l1:w.heap.size+1<w2.heap.size:=nG.out.lt;clear c2 f1 c0 c1 c2' c3 c4 c5 c6 c7 c8 c9 c10 c11 c12 c13 r2;go_wp2_with fail;refine bodyPost_ret (v:=.agg (V.cellsOf (.mk 7 false false .empty .empty (ps.map Prod.fst)) (.slice ra i rc))) (by simp[results,Tryz.f70,go_sem,y0,y1,y2,y3,y4,y5,V.cellsOf,V.Pt.kind,V.Pt.yes,V.Pt.neg,V.Pt.mag,V.Pt.raw];try rfl) rfl ?_;have XF:=kP (P:=fun k=>k=w.heap.size+1) (Xv.refl _ w2) (g:=w.heap.size+1) (fun _=>rfl) (.int .u8 7) (.bool false) (.bool false) (.string ⟨#[]⟩) (.string ⟨#[]⟩) (.slice ra i rc);have bSs:V.lX w2 (w.heap.size+1+1+1) qP (.slice ra i rc) ps:=aZy.out.xv qK.out (fun k e=>.inl (by omega)) (fun k e=>.inl e);unfold iU;rw[HYE.out];refine⟨⟨.slice ra i rc,a+1,qP,rfl,by omega,rfl,fI HR2.out (Ne.symm hne1) _ _ _ _ _ _,(sM uY.out qK.out).xv XF (fun k hk e=>by have:=HOWN.out k hk;omega),fun k hk=>(HAp.out k hk).imp id (fun e=>by omega),?_⟩,bHq.out.trans XF (fun k hk e=>by omega)⟩;have hps:=bSs.all
    exact hps.keep XF.size (fun k hk hS=>XF.block k hk (fun e=>by have:=hS.1;omega)) (fun k hk hS=>⟨by have:=hS.1;omega,hS.2⟩)
