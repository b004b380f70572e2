import Derived.Test.YtcgnajeenflfaaaGreatDoorP33
set_option maxRecDepth 100000
set_option maxHeartbeats 4000000
set_option linter.all false
open Go.Proofs.Tryz Go.RowKit
namespace Go.Proofs.YtcgnajeenflfaaaGreatDoor
namespace Sc
open V (Same Pt VI mayB mayB_ok PS)
open We (Co TblAt WfT keyM)
open D (Dm Wf)
open Ta (Tm)
theorem xor_turn (tn:Bool):bits .xor .u8 (if tn then 255 else 0) 255=(if xor tn true then 255 else 0):=by cases tn<;>rfl
theorem part_of {K:Co→ByteArray→List UInt8} {D:Dm} {T:Tm} (t:Addr) (f:Fd) (d:Nat) (hok:OkF d f) (HP:ReadAt 70 (rdPay K f) D T t f d):ReadAt 41 (rdF K f) D T t f d:=by
 intro hi a0 k0 rb b at_ tn pv lp w hb hat hhi hlp hr hpv ht hfi
 have hlp17:lp.length≤17:=by have:=hok.lt;omega
 obtain⟨m,hm⟩:∃ m,f.fields.length=m:=⟨_,rfl⟩
 have hrl:=hr.lt
 have HN:=zh (fun w=>null_any f a0 m k0 w)
 obtain⟨_,_,_,_,ho,_,_,_⟩:=hok
 obtain⟨hk17,_⟩:=odd_not ho
 have HT:=zh (fun w=>tag_any f hk17.2.1 a0 m k0 w)
 have HTN:=zh (tag_null hk17)
 have HPY:=zh (fun (w':World) (at2:Nat) (tn2:Bool) (hat2:at2≤b.size) (hr2:Rdr w' rb (.pointer (some t)) b at2 tn2 pv) (hx:Xv (· = rb) w w')=>HP hi a0 k0 rb b at2 tn2 pv lp w' hb hat2 hhi hlp hr2 (own_rb hpv hx) (ht.later (hx.below (B:=hi) (fun k hk e=>by omega) (by omega)) lr) (hfi.xv hx (fun k _ hk e=>by omega) (by omega)))
 rw[hm] at HPY ⊢
 obtain⟨L,hL⟩:∃ L,leftL b at_ tn=L:=⟨_,rfl⟩
 rw[hL]
 have HPV:=zh hpv
 have HI:=zh (own_ints hpv)
 rw[fcells_14] at HN HT HPY ⊢
 obtain⟨dn,hdn⟩:∃ dn,f.down=dn:=⟨_,rfl⟩
 rw[hdn] at HN HT HPY ⊢
 have HW:=zh (Xv.refl (· = rb) w)
 generalize hW:(w.alloc (.cells #[.string f.name,.int .u8 f.kind,.bool dn,.int .u8 f.nulls,.bool f.bnd,.bool f.lob,.string f.lom,.bool f.hib,.string f.him,.int .i64 f.most,.int .i64 f.co.str,.bool f.co.sh,.bool f.co.back,.slice a0 m k0] 79)).alloc (.cells #[.int .u8 0,.bool false,.bool false,.string ⟨#[]⟩,.string ⟨#[]⟩,.slice none 0 0] 57)=w1
 have HB1:=zh (show Below w.heap.size w w1 by rw[← hW];exact(zr.alloc lr _).alloc (by simp) _)
 have HFB:=zh (show Blk w1 w.heap.size 79 #[.string f.name,.int .u8 f.kind,.bool dn,.int .u8 f.nulls,.bool f.bnd,.bool f.lob,.string f.lom,.bool f.hib,.string f.him,.int .i64 f.most,.int .i64 f.co.str,.bool f.co.sh,.bool f.co.back,.slice a0 m k0] by
  rw[← hW]
  exact Blk.below (Blk.new _ _ _) (zr.alloc lr _) (by simp))
 have HRB:=zh (show Blk w1 (w.heap.size+1) 57 #[.int .u8 0,.bool false,.bool false,.string ⟨#[]⟩,.string ⟨#[]⟩,.slice none 0 0] by
  rw[← hW]
  have:=Blk.new (w.alloc (.cells #[.string f.name,.int .u8 f.kind,.bool dn,.int .u8 f.nulls,.bool f.bnd,.bool f.lob,.string f.lom,.bool f.hib,.string f.him,.int .i64 f.most,.int .i64 f.co.str,.bool f.co.sh,.bool f.co.back,.slice a0 m k0] 79)) 57 #[.int .u8 0,.bool false,.bool false,.string ⟨#[]⟩,.string ⟨#[]⟩,.slice none 0 0]
  simpa using this)
 have HR1:=zh (show Rdr w1 rb (.pointer (some t)) b at_ tn pv from Blk.below hr HB1.out hrl)
 have HX1:=zh (Xv.of_below (P:=(· = rb)) HB1.out)
 have HI1:=zh (HI.out.keep HB1.out.size (fun k hk _=>HB1.out.block k hk) (fun _ _ e=>e))
 have hne0:w.heap.size≠rb:=by omega
 have hne1:w.heap.size+1≠rb:=by omega
 have c2:w1.cell? ⟨rb,2,none⟩=some (.int .i64 (at_:Int)):=HR1.out.cell 2
 subst hW
 clear hr hpv ht hfi ho hk17 HP
 go_enter func41,ntmps41
 by_cases hlt:at_<b.size
 case neg =>
  have HF:=zh (take1_no rb (.pointer (some t)) b at_ tn pv lp _ hb HR1.out HI1.out hlp17 hat hlt)
  have HNO:=zh (show rdF K f L=none by rw[← hL,leftL_end tn (by omega),rdF_nil])
  go_wp2_with fail
  refine HF.out.mono ?_
  rintro e w3 ⟨hf,hb3⟩
  obtain⟨ch,rfl⟩:=hf.form
  go_wp2_with fail
  exact⟨rfl,.no1 HNO.out (hf.low HX1.out.size) (HX1.out.then hb3)⟩
 have H1:=zh (take1_list rb (.pointer (some t)) b at_ tn pv _ hb HR1.out hlt)
 obtain⟨c,hc⟩:∃ c,fl tn b[at_]=c:=⟨_,rfl⟩
 rw[hc] at H1
 have HLC:=zh (show L=c::leftL b (at_+1) tn by rw[← hL,leftL_cons tn hlt,hc])
 clear hc hL
 obtain⟨nb,hnb⟩:∃ nb,nullB f=nb:=⟨_,rfl⟩
 obtain⟨tb,htb⟩:∃ tb,tagB f=tb:=⟨_,rfl⟩
 rw[hnb] at HN HTN
 rw[htb] at HT HTN
 have HRD:=zh (show rdF K f L=if c=nb∧f.nulls≠0 then some (pNull,leftL b (at_+1) tn) else if c≠tb then none else (rdPay K f (flips dn (leftL b (at_+1) tn))).map fun x=>(x.1,flips dn x.2) by rw[HLC.out,rdF_cons,hnb,htb,hdn])
 clear hnb htb hdn
 go_wp2_with fail
 refine H1.out.mono ?_
 rintro e w2 ⟨p,rfl,⟨hp1,hpc⟩,hpl,hr2,hx2⟩
 have HX2:=zh (HX1.out.trans hx2 (fun _ _ e=>e))
 have HR2:=zh hr2
 have HF2:=zh (hx2.blk hne0 HFB.out)
 have HRB2:=zh (hx2.blk hne1 HRB.out)
 have HI2:=zh (HI1.out.keep hx2.size (fun k hk hp=>hx2.block k hk hp) (fun _ _ e=>e))
 clear hr2 hx2 hpl
 obtain⟨c0,c1,c2,c3,c4,c5,c6,c7,c8,c9,c10,c11,c12,c13⟩:=f14 HF2.out
 have HFA:=zh (fun w4 (hb4:Below w2.heap.size w2 w4)=>fail_any rb (.pointer (some t)) b (at_+1) tn pv lp 141 at_ .nilIface w4 (Blk.below HR2.out hb4 HR2.out.lt) (HI2.out.keep hb4.size (fun k hk _=>hb4.block k hk) (fun _ _ e=>e)) hlp17 (.inl rfl))
 have hrl2:rb<w2.heap.size:=HR2.out.lt
 by_cases hcn:c=nb
 · subst hcn
   have q1:((c.toNat:Int)==(c.toNat:Int))=true:=by simp
   by_cases hnu:f.nulls=0
   · have q2:((f.nulls:Int) != 0)=false:=by simp[hnu]
     have HNO:=zh (show rdF K f L=none by rw[HRD.out,if_neg (fun e=>e.2 hnu),if_pos (fun e=>HTN.out e.symm)])
     have q3:((c.toNat:Int) != (tb.toNat:Int))=true:=by
      have:c.toNat≠tb.toNat:=fun e=>HTN.out (UInt8.toNat_inj.1 e.symm)
      simp;omega
     clear hnu
     go_wp2_with (first
      | (go_at_call 67;refine(HN.out _).mono ?_;rintro e w3 ⟨rfl,hb3⟩;have HB3:=zh hb3;obtain⟨d0,d1,d2,d3,d4,d5,d6,d7,d8,d9,d10,d11,d12,d13⟩:=f14 (Blk.below HF2.out hb3 HF2.out.lt);clear hb3)
      | (go_at_call 68;refine(HT.out _).mono ?_;rintro e w4 ⟨rfl,hb4⟩;have HB4:=zh (HB3.out.trans (hb4.mono HB3.out.size));obtain⟨e0,e1,e2,e3,e4,e5,e6,e7,e8,e9,e10,e11,e12,e13⟩:=f14 (Blk.below HF2.out HB4.out HF2.out.lt);clear hb4))
     refine(HFA.out _ HB4.out).mono ?_
     rintro e w5 ⟨hf,hb5⟩
     obtain⟨ch,rfl⟩:=hf.form
     have HX4:=HX2.out.then HB4.out
     go_wp2_with fail
     exact⟨rfl,.no1 HNO.out ((hf.low HX4.size).to (by omega)) (HX4.then hb5)⟩
   · have q2:((f.nulls:Int) != 0)=true:=by simp;omega
     have HYE:=zh (show rdF K f L=some (pNull,leftL b (at_+1) tn) by rw[HRD.out,if_pos ⟨rfl,hnu⟩])
     clear hnu
     go_wp2_with (go_at_call 67;refine(HN.out _).mono ?_;rintro e w3 ⟨rfl,hb3⟩;have HB3:=zh hb3;obtain⟨d0,d1,d2,d3,d4,d5,d6,d7,d8,d9,d10,d11,d12,d13⟩:=f14 (Blk.below HF2.out hb3 HF2.out.lt);obtain⟨⟨y0,y1,y2,y3,y4,y5⟩,z0,z1,z2,z3,z4,z5⟩:=f6 (Blk.below HRB2.out hb3 HRB2.out.lt);clear hb3)
     have HX3:=HX2.out.then HB3.out
     have HR3:Rdr w3 rb (.pointer (some t)) b (at_+1) tn pv:=Blk.below HR2.out HB3.out HR2.out.lt
     refine bodyPost_ret (v:=.agg (V.cellsOf pNull (.slice none 0 0))) (by simp[results,Tryz.f41,go_sem,y0,y1,y2,y3,y4,y5,V.cellsOf,pNull,V.Pt.kind,V.Pt.yes,V.Pt.neg,V.Pt.mag,V.Pt.raw];try rfl) rfl ?_
     exact .flat HYE.out rfl (by omega) rfl (put6_other HR3 (Ne.symm hne1) _ _ _ _ _ _) HPV.out (put6_xv HX3 (fun h=>by omega) _ _ _ _ _ _)
 have q1:((c.toNat:Int)==(nb.toNat:Int))=false:=by
  have:c.toNat≠nb.toNat:=fun e=>hcn (UInt8.toNat_inj.1 e)
  simp;omega
 by_cases hct:c=tb
 case neg =>
  have HNO:=zh (show rdF K f L=none by rw[HRD.out,if_neg (fun e=>hcn e.1),if_pos hct])
  have q3:((c.toNat:Int) != (tb.toNat:Int))=true:=by
   have:c.toNat≠tb.toNat:=fun e=>hct (UInt8.toNat_inj.1 e)
   simp;omega
  clear hcn hct
  go_wp2_with (first
   | (go_at_call 67;refine(HN.out _).mono ?_;rintro e w3 ⟨rfl,hb3⟩;have HB3:=zh hb3;obtain⟨d0,d1,d2,d3,d4,d5,d6,d7,d8,d9,d10,d11,d12,d13⟩:=f14 (Blk.below HF2.out hb3 HF2.out.lt);clear hb3)
   | (go_at_call 68;refine(HT.out _).mono ?_;rintro e w4 ⟨rfl,hb4⟩;have HB4:=zh (HB3.out.trans (hb4.mono HB3.out.size));obtain⟨e0,e1,e2,e3,e4,e5,e6,e7,e8,e9,e10,e11,e12,e13⟩:=f14 (Blk.below HF2.out HB4.out HF2.out.lt);clear hb4))
  refine(HFA.out _ HB4.out).mono ?_
  rintro e w5 ⟨hf,hb5⟩
  obtain⟨ch,rfl⟩:=hf.form
  have HX4:=HX2.out.then HB4.out
  go_wp2_with fail
  exact⟨rfl,.no1 HNO.out ((hf.low HX4.size).to (by omega)) (HX4.then hb5)⟩
 subst hct
 have q3:((c.toNat:Int) != (c.toNat:Int))=false:=by simp
 have HRG:=zh (show rdF K f L=(rdPay K f (flips dn (leftL b (at_+1) tn))).map fun x=>(x.1,flips dn x.2) by rw[HRD.out,if_neg (fun e=>hcn e.1),if_neg (by simp)])
 clear hcn HTN
 obtain⟨t3,ht3⟩:∃ x:Int,(if tn then 255 else 0)=x:=⟨_,rfl⟩
 obtain⟨t4,ht4⟩:∃ x:Int,(if xor tn dn then 255 else 0)=x:=⟨_,rfl⟩
 have HT3:=zh ht3
 have HT4:=zh ht4
 clear ht3 ht4
 cases dn with
 | true =>
  have hxo:bits .xor .u8 t3 255=t4:=by rw[← HT3.out,← HT4.out];exact xor_turn tn
  go_wp2_with (first
   | (go_at_call 67;refine(HN.out _).mono ?_;rintro e w3 ⟨rfl,hb3⟩;have HB3:=zh hb3;obtain⟨d0,d1,d2,d3,d4,d5,d6,d7,d8,d9,d10,d11,d12,d13⟩:=f14 (Blk.below HF2.out hb3 HF2.out.lt);clear hb3)
   | (go_at_call 68;refine(HT.out _).mono ?_;rintro e w4 ⟨rfl,hb4⟩;have HB4:=zh (HB3.out.trans (hb4.mono HB3.out.size));obtain⟨e0,e1,e2,e3,e4,e5,e6,e7,e8,e9,e10,e11,e12,e13⟩:=f14 (Blk.below HF2.out HB4.out HF2.out.lt);have r3:w4.cell? ⟨rb,3,none⟩=some (.int .u8 t3):=(by have:=(Blk.below HR2.out HB4.out HR2.out.lt).cell 3;rw[← HT3.out];exact this);have s3:w4.frozen? ⟨rb,3,none⟩=false:=(Blk.below HR2.out HB4.out HR2.out.lt).frozen 3;clear hb4))
  obtain⟨W5,hW5⟩:∃ W5,w4.setCell ⟨rb,3,none⟩ (.int .u8 t4)=W5:=⟨_,rfl⟩
  rw[hW5]
  have HR4:=zh (show Rdr w4 rb (.pointer (some t)) b (at_+1) tn pv from Blk.below HR2.out HB4.out HR2.out.lt)
  have HR5:=zh (show Rdr W5 rb (.pointer (some t)) b (at_+1) (xor tn true) pv by rw[← hW5];exact HR4.out.turn HT4.out)
  have HX5:=zh (show Xv (· = rb) w W5 by rw[← hW5];exact(HX2.out.then HB4.out).set_ (fun _=>rfl) 3 _)
  have HRB5:=zh (show Blk W5 (w.heap.size+1) 57 #[.int .u8 0,.bool false,.bool false,.string ⟨#[]⟩,.string ⟨#[]⟩,.slice none 0 0] by rw[← hW5];exact blk_set (Blk.below HRB2.out HB4.out HRB2.out.lt) hne1 _ _)
  have HPP:=zh (HPY.out W5 (at_+1) (xor tn true) (by omega) HR5.out HX5.out)
  rw[leftL_turn2] at HPP
  obtain⟨Z,hZ⟩:∃ Z,rdPay K f (flips true (leftL b (at_+1) tn))=Z:=⟨_,rfl⟩
  rw[hZ] at HPP HRG
  clear hZ hW5 HR4
  refine HPP.out.mono ?_
  intro e w6 hpg
  cases Z with
  | none =>
   obtain⟨hf,hx6⟩:=hpg
   obtain⟨ch,rfl⟩:=hf.form
   go_wp2_with fail
   exact⟨rfl,.no HRG.out (hf.low HX5.out.size) ((HX5.out.mono fun _ _ e=>.inl e).trans hx6 (fun _ _ e=>e))⟩
  | some x =>
   obtain⟨q,l⟩:=x
   obtain⟨⟨u,a,pv2,rfl,ha,rfl,hr6,ho6,hpo,hps⟩,hx6⟩:=hpg
   obtain⟨ua,uc,rfl⟩:=hps.form
   obtain⟨un,hun⟩:∃ un,q.items.length=un:=⟨_,rfl⟩
   rw[hun] at hps ⊢
   have HUN:=zh hun
   have HR6:=zh hr6
   have HO6:=zh ho6
   have HPO:=zh hpo
   have HPS:=zh hps
   have HX6:=zh ((HX5.out.mono (Q:=fun k=>k=rb∨pv.ownBlock=some k) fun _ _ e=>.inl e).trans hx6 (fun _ _ e=>e))
   have HRB6:=zh (hx6.blk (fun e=>by
    rcases e with e | e
    · exact hne1 e
    · have:=(HPV.out.lt e).2;omega) HRB5.out)
   have r3:w6.cell? ⟨rb,3,none⟩=some (.int .u8 (if xor tn true then 255 else 0)):=HR6.out.cell 3
   have s3:w6.frozen? ⟨rb,3,none⟩=false:=HR6.out.frozen 3
   obtain⟨⟨y0,y1,y2,y3,y4,y5⟩,z0,z1,z2,z3,z4,z5⟩:=f6 HRB6.out
   have l1:rb<w6.heap.size:=HR6.out.lt
   have l2:w.heap.size+1<w6.heap.size:=HRB6.out.lt
   have n1:w6.heap.size≠rb:=by have:=HR6.out.lt;omega
   have n2:rb≠w6.heap.size:=n1.symm
   have n3:w6.heap.size≠w.heap.size+1:=by have:=HRB6.out.lt;omega
   have n4:w.heap.size+1≠w6.heap.size:=n3.symm
   clear hr6 ho6 hpo hps hx6 hun
   simp only [V.cellsOf]
   go_wp2_with fail
   refine bodyPost_ret (v:=.agg (V.cellsOf q (.slice ua un uc))) (by simp[results,Tryz.f41,go_sem,y0,y1,y2,y3,y4,y5,l2,V.cellsOf]) rfl ?_
   have XF:Xv (fun k=>k=rb∨k=w.heap.size+1) w6 ((put6 (w6.setCell ⟨rb,3,none⟩ (.int .u8 t3)) (w.heap.size+1) (.int .u8 q.kind) (.bool q.yes) (.bool q.neg) (.string q.mag) (.string q.raw) (.slice ua un uc)).alloc (.cells #[.int .u8 q.kind,.bool q.yes,.bool q.neg,.string q.mag,.string q.raw,.slice ua un uc] 57)) :=
    (put6_xv ((Xv.refl _ w6).set_ (fun _=>.inl rfl) 3 _) (fun _=>.inr rfl) _ _ _ _ _ _).alloc _
   have hw5:w.heap.size+1<W5.heap.size:=HRB5.out.lt
   have hrz:Rdr (put6 (w6.setCell ⟨rb,3,none⟩ (.int .u8 t3)) (w.heap.size+1) (.int .u8 q.kind) (.bool q.yes) (.bool q.neg) (.string q.mag) (.string q.raw) (.slice ua un uc)) rb (.pointer (some t)) b a tn pv2:=put6_other (HR6.out.turn HT3.out) (Ne.symm hne1) _ _ _ _ _ _
   unfold PartGot
   rw[HRG.out]
   refine⟨⟨.slice ua un uc,a,pv2,rfl,ha,leftL_turn b a tn true,Blk.below hrz (zr.alloc lr _) hrz.lt,HO6.out.xv XF fun k hk e=>?_,fun k hk=>(HPO.out k hk).imp id fun h=>by omega,?_⟩,HX6.out.trans XF fun i hi e=>?_⟩
   · have h1:=(HO6.out.lt hk).1
     have h2:=HPO.out k hk
     rcases e with e | e
     · omega
     · rcases h2 with h2 | h2
       · have:=(HPV.out.lt h2).2;omega
       · omega
   · exact HPS.out.keep XF.size (fun k hk hS=>XF.block k hk fun e=>by have:=hS.1;omega) (fun k hk hS=>⟨by have:=hS.1;omega,hS.2⟩)
   · rcases e with e | e
     · exact .inl e
     · omega
 | false =>
  go_wp2_with (first
   | (go_at_call 67;refine(HN.out _).mono ?_;rintro e w3 ⟨rfl,hb3⟩;have HB3:=zh hb3;obtain⟨d0,d1,d2,d3,d4,d5,d6,d7,d8,d9,d10,d11,d12,d13⟩:=f14 (Blk.below HF2.out hb3 HF2.out.lt);clear hb3)
   | (go_at_call 68;refine(HT.out _).mono ?_;rintro e w4 ⟨rfl,hb4⟩;have HB4:=zh (HB3.out.trans (hb4.mono HB3.out.size));obtain⟨e0,e1,e2,e3,e4,e5,e6,e7,e8,e9,e10,e11,e12,e13⟩:=f14 (Blk.below HF2.out HB4.out HF2.out.lt);have r3:w4.cell? ⟨rb,3,none⟩=some (.int .u8 t3):=(by have:=(Blk.below HR2.out HB4.out HR2.out.lt).cell 3;rw[← HT3.out];exact this);have s3:w4.frozen? ⟨rb,3,none⟩=false:=(Blk.below HR2.out HB4.out HR2.out.lt).frozen 3;clear hb4))
  obtain⟨W5,hW5⟩:∃ W5,w4=W5:=⟨_,rfl⟩
  rw[hW5]
  have HR4:=zh (show Rdr w4 rb (.pointer (some t)) b (at_+1) tn pv from Blk.below HR2.out HB4.out HR2.out.lt)
  have HR5:=zh (show Rdr W5 rb (.pointer (some t)) b (at_+1) (xor tn false) pv by rw[← hW5,Bool.xor_false];exact HR4.out)
  have HX5:=zh (show Xv (· = rb) w W5 by rw[← hW5];exact HX2.out.then HB4.out)
  have HRB5:=zh (show Blk W5 (w.heap.size+1) 57 #[.int .u8 0,.bool false,.bool false,.string ⟨#[]⟩,.string ⟨#[]⟩,.slice none 0 0] by rw[← hW5];exact Blk.below HRB2.out HB4.out HRB2.out.lt)
  have HPP:=zh (HPY.out W5 (at_+1) (xor tn false) (by omega) HR5.out HX5.out)
  rw[leftL_turn2] at HPP
  obtain⟨Z,hZ⟩:∃ Z,rdPay K f (flips false (leftL b (at_+1) tn))=Z:=⟨_,rfl⟩
  rw[hZ] at HPP HRG
  clear hZ hW5 HR4
  refine HPP.out.mono ?_
  intro e w6 hpg
  cases Z with
  | none =>
   obtain⟨hf,hx6⟩:=hpg
   obtain⟨ch,rfl⟩:=hf.form
   go_wp2_with fail
   exact⟨rfl,.no HRG.out (hf.low HX5.out.size) ((HX5.out.mono fun _ _ e=>.inl e).trans hx6 (fun _ _ e=>e))⟩
  | some x =>
   obtain⟨q,l⟩:=x
   obtain⟨⟨u,a,pv2,rfl,ha,rfl,hr6,ho6,hpo,hps⟩,hx6⟩:=hpg
   obtain⟨ua,uc,rfl⟩:=hps.form
   obtain⟨un,hun⟩:∃ un,q.items.length=un:=⟨_,rfl⟩
   rw[hun] at hps ⊢
   have HUN:=zh hun
   have HR6:=zh hr6
   have HO6:=zh ho6
   have HPO:=zh hpo
   have HPS:=zh hps
   have HX6:=zh ((HX5.out.mono (Q:=fun k=>k=rb∨pv.ownBlock=some k) fun _ _ e=>.inl e).trans hx6 (fun _ _ e=>e))
   have HRB6:=zh (hx6.blk (fun e=>by
    rcases e with e | e
    · exact hne1 e
    · have:=(HPV.out.lt e).2;omega) HRB5.out)
   have r3:w6.cell? ⟨rb,3,none⟩=some (.int .u8 (if xor tn false then 255 else 0)):=HR6.out.cell 3
   have s3:w6.frozen? ⟨rb,3,none⟩=false:=HR6.out.frozen 3
   obtain⟨⟨y0,y1,y2,y3,y4,y5⟩,z0,z1,z2,z3,z4,z5⟩:=f6 HRB6.out
   have l1:rb<w6.heap.size:=HR6.out.lt
   have l2:w.heap.size+1<w6.heap.size:=HRB6.out.lt
   have n1:w6.heap.size≠rb:=by have:=HR6.out.lt;omega
   have n2:rb≠w6.heap.size:=n1.symm
   have n3:w6.heap.size≠w.heap.size+1:=by have:=HRB6.out.lt;omega
   have n4:w.heap.size+1≠w6.heap.size:=n3.symm
   clear hr6 ho6 hpo hps hx6 hun
   simp only [V.cellsOf]
   go_wp2_with fail
   refine bodyPost_ret (v:=.agg (V.cellsOf q (.slice ua un uc))) (by simp[results,Tryz.f41,go_sem,y0,y1,y2,y3,y4,y5,l2,V.cellsOf]) rfl ?_
   have XF:Xv (fun k=>k=rb∨k=w.heap.size+1) w6 ((put6 (w6.setCell ⟨rb,3,none⟩ (.int .u8 t3)) (w.heap.size+1) (.int .u8 q.kind) (.bool q.yes) (.bool q.neg) (.string q.mag) (.string q.raw) (.slice ua un uc)).alloc (.cells #[.int .u8 q.kind,.bool q.yes,.bool q.neg,.string q.mag,.string q.raw,.slice ua un uc] 57)) :=
    (put6_xv ((Xv.refl _ w6).set_ (fun _=>.inl rfl) 3 _) (fun _=>.inr rfl) _ _ _ _ _ _).alloc _
   have hw5:w.heap.size+1<W5.heap.size:=HRB5.out.lt
   have hrz:Rdr (put6 (w6.setCell ⟨rb,3,none⟩ (.int .u8 t3)) (w.heap.size+1) (.int .u8 q.kind) (.bool q.yes) (.bool q.neg) (.string q.mag) (.string q.raw) (.slice ua un uc)) rb (.pointer (some t)) b a tn pv2:=put6_other (HR6.out.turn HT3.out) (Ne.symm hne1) _ _ _ _ _ _
   unfold PartGot
   rw[HRG.out]
   refine⟨⟨.slice ua un uc,a,pv2,rfl,ha,leftL_turn b a tn false,Blk.below hrz (zr.alloc lr _) hrz.lt,HO6.out.xv XF fun k hk e=>?_,fun k hk=>(HPO.out k hk).imp id fun h=>by omega,?_⟩,HX6.out.trans XF fun i hi e=>?_⟩
   · have h1:=(HO6.out.lt hk).1
     have h2:=HPO.out k hk
     rcases e with e | e
     · omega
     · rcases h2 with h2 | h2
       · have:=(HPV.out.lt h2).2;omega
       · omega
   · exact HPS.out.keep XF.size (fun k hk hS=>XF.block k hk fun e=>by have:=hS.1;omega) (fun k hk hS=>⟨by have:=hS.1;omega,hS.2⟩)
   · rcases e with e | e
     · exact .inl e
     · omega
open V (Same)
def SomeInt (w:World) (e:Ending) (w':World):Prop:=(∃ n:Int,e=.returned (.int .i64 n))∧Below w.heap.size w w'
def FieldsAt (l:List Fd):Prop:=∀ (a:Option Addr) (c d:Nat) (w:World),l.length≤140737488351232→d≤42→FI w 0 w.heap.size l (.slice a l.length c)→Calls prog 19 #[.slice a l.length c,.int .i64 (d:Int)] w (SomeInt w)
theorem fields_list (l:List Fd) (IH:∀ f∈l,FieldsAt f.fields):FieldsAt l:=by
 intro a c d w hl hd hfi
 obtain⟨m,hm⟩:∃ m,l.length=m:=⟨_,rfl⟩
 have HFI:=zh hfi
 have HIH:=zh IH
 have HM:=zh hm
 rw[hm]
 have hm2:m≤140737488351232:=by omega
 clear hfi IH hm hl
 go_enter func19,ntmps19
 go_wp2_with fail
 go_loopw [5,6] (fun nv iv wr=>∃ (i:Nat) (N:Int),i≤m∧iv=.int .i64 (i:Int)∧nv=.int .i64 N∧Below w.heap.size w wr) (fun _ iv _=>m-(intOf iv).toNat)
 case atStart=>exact⟨0,0,Nat.zero_le _,rfl,rfl,zr⟩
 case round =>
  obtain⟨i,N,hi2,rfl,rfl,hB⟩:=hrel
  have HB:=zh hB
  by_cases hgo:i<m∧N≤10000∧d≤40
  · obtain⟨hlt,hN,hd2⟩:=hgo
    have q1:decide ((i:Int)<(m:Int))=true:=decide_eq_true (by omega)
    have q2:decide (N≤10000)=true:=decide_eq_true hN
    have q3:decide ((d:Int)≤40)=true:=decide_eq_true (by omega)
    have hiF:i<l.length:=by rw[HM.out];exact hlt
    obtain⟨a',c',he,hc,hpl⟩:=(HFI.out.same (Same.of_below hB lr)).open
    injection he with e1 e2 e3
    subst e1 e3
    obtain⟨b,off,uu,rfl,_,hbh,hcl,hff,hsub⟩:=hpl i hiF
    obtain⟨k0,_,_,_,_,_,k5,_,k6,_,_,_,_,k13⟩:=hcl.all
    have hfm:=List.getElem_mem hiF
    obtain⟨f,hf⟩:∃ f,l[i]=f:=⟨_,rfl⟩
    rw[hf] at k0 k5 k6 hff hsub hfm
    obtain⟨au,cu,rfl,_,_⟩:=hsub.open
    have qs:(i:Int)≤(c:Int):=by rw[HM.out] at hc;omega
    have HC:=zh (HIH.out f hfm au cu (d+1) wr.drew hff.l (by omega) ((hsub.wide lr hB.size).same (fun _ _ _=>rfl)))
    obtain⟨gm,hgm⟩:∃ gm,f.fields.length=gm:=⟨_,rfl⟩
    rw[hgm] at HC k13
    rw[show ((d+1:Nat):Int)=(d:Int)+1 by omega] at HC
    have HWD:=zh (show IntKind.i64.wrap ((d:Int)+1)=(d:Int)+1 by simp[IntKind.wrap,IntKind.signed,IntKind.bits];omega)
    clear hpl hcl hff hsub hfm hf hgm hc hB
    go_wp2_with fail
    refine wp_region_held_drew (S:=fun w'=>w'.cell? ⟨b,off+i*14,none⟩=some (.string f.name)∧w'.cell? ⟨b,off+i*14+6,none⟩=some (.string f.lom)∧w'.cell? ⟨b,off+i*14+8,none⟩=some (.string f.him)∧w'.cell? ⟨b,off+i*14+13,none⟩=some (.slice au gm cu)∧Below wr.heap.size wr w') (by kernel_rfl) ⟨k0,k5,k6,k13,(Below.refl _ wr).drew⟩ (fun hHeld=>?_)
    refine tx 0 ?v0 rfl (by kernel_rfl) tq (by rfl) ?hy0 (by assumption) ?rest0
    case hy0=>(rintro wS ⟨k0,k5,k6,k13,kb⟩;go_simp;try with_reducible rfl)
    try simp[Act.put]
    refine tx 1 ?v1 rfl (by kernel_rfl) tq (by rfl) ?hy1 (by assumption) ?rest1
    case hy1=>(rintro wS ⟨k0,k5,k6,k13,kb⟩;go_simp;try with_reducible rfl)
    try simp[Act.put]
    refine tx 2 ?v2 rfl (by kernel_rfl) tq (by rfl) ?hy2 (by assumption) ?rest2
    case hy2=>(rintro wS ⟨k0,k5,k6,k13,kb⟩;go_simp;try with_reducible rfl)
    try simp[Act.put]
    refine tx 3 ?v3 rfl (by kernel_rfl) tq (by rfl) ?hy3 (by assumption) ?rest3
    case hy3=>(rintro wS ⟨k0,k5,k6,k13,kb⟩;go_simp;try with_reducible rfl)
    try simp[Act.put]
    refine tx 4 ?v4 rfl (by kernel_rfl) tq (by rfl) ?hy4 (by assumption) ?rest4
    case hy4=>(rintro wS ⟨k0,k5,k6,k13,kb⟩;go_simp;try with_reducible rfl)
    try simp[Act.put]
    refine tx 5 ?v5 rfl (by kernel_rfl) tq (by rfl) ?hy5 (by assumption) ?rest5
    case hy5=>(rintro wS ⟨k0,k5,k6,k13,kb⟩;go_simp;try with_reducible rfl)
    try simp[Act.put]
    refine tx 6 ?v6 rfl (by kernel_rfl) tq (by rfl) ?hy6 (by assumption) ?rest6
    case hy6=>(rintro wS ⟨k0,k5,k6,k13,kb⟩;go_simp;try with_reducible rfl)
    try simp[Act.put]
    refine tx 7 ?v7 rfl (by kernel_rfl) tq (by rfl) ?hy7 (by assumption) ?rest7
    case hy7=>(rintro wS ⟨k0,k5,k6,k13,kb⟩;go_simp;try with_reducible rfl)
    try simp[Act.put]
    refine tx 8 ?v8 rfl (by kernel_rfl) tq (by rfl) ?hy8 (by assumption) ?rest8
    case hy8=>(rintro wS ⟨k0,k5,k6,k13,kb⟩;go_simp;try with_reducible rfl)
    try simp[Act.put]
    refine tx 9 ?v9 rfl (by kernel_rfl) tq (by rfl) ?hy9 (by assumption) ?rest9
    case hy9=>(rintro wS ⟨k0,k5,k6,k13,kb⟩;go_simp;try with_reducible rfl)
    try simp[Act.put]
    refine tx 10 ?v10 rfl (by kernel_rfl) tq (by rfl) ?hy10 (by assumption) ?rest10
    case hy10=>(rintro wS ⟨k0,k5,k6,k13,kb⟩;go_simp;try with_reducible rfl)
    try simp[Act.put]
    refine tx 11 ?v11 rfl (by kernel_rfl) tq (by rfl) ?hy11 (by assumption) ?rest11
    case hy11=>(rintro wS ⟨k0,k5,k6,k13,kb⟩;go_simp;try with_reducible rfl)
    try simp[Act.put]
    refine tx 12 ?v12 rfl (by kernel_rfl) tq (by rfl) ?hy12 (by assumption) ?rest12
    case hy12=>(rintro wS ⟨k0,k5,k6,k13,kb⟩;go_simp;try with_reducible rfl)
    try simp[Act.put]
    refine tx 13 ?v13 rfl (by kernel_rfl) tq (by rfl) ?hy13 (by assumption) ?rest13
    case hy13=>(rintro wS ⟨k0,k5,k6,k13,kb⟩;go_simp;try with_reducible rfl)
    try simp[Act.put]
    refine tx 14 ?v14 rfl (by kernel_rfl) tq (by rfl) ?hy14 (by assumption) ?rest14
    case hy14=>(rintro wS ⟨k0,k5,k6,k13,kb⟩;go_simp;try with_reducible rfl)
    try simp[Act.put]
    refine tx 15 ?v15 rfl (by kernel_rfl) tq (by rfl) ?hy15 (by assumption) ?rest15
    case hy15=>(rintro wS ⟨k0,k5,k6,k13,kb⟩;go_simp;try with_reducible rfl)
    try simp[Act.put]
    refine tx 16 ?v16 rfl (by kernel_rfl) tq (by rfl) ?hy16 (by assumption) ?rest16
    case hy16=>(rintro wS ⟨k0,k5,k6,k13,kb⟩;go_simp;try with_reducible rfl)
    try simp[Act.put]
    refine tx 17 ?v17 rfl (by kernel_rfl) tq (by rfl) ?hy17 (by assumption) ?rest17
    case hy17=>(rintro wS ⟨k0,k5,k6,k13,kb⟩;go_simp;try with_reducible rfl)
    try simp[Act.put]
    refine tx 18 ?v18 rfl (by kernel_rfl) tq (by rfl) ?hy18 (by assumption) ?rest18
    case hy18=>(rintro wS ⟨k0,k5,k6,k13,kb⟩;go_simp;try with_reducible rfl)
    try simp[Act.put]
    refine tx 19 ?v19 rfl (by kernel_rfl) tq (by rfl) ?hy19 (by assumption) ?rest19
    case hy19=>(rintro wS ⟨k0,k5,k6,k13,kb⟩;go_simp;try with_reducible rfl)
    try simp[Act.put]
    refine tx 20 ?v20 rfl (by kernel_rfl) tq (by rfl) ?hy20 (by assumption) ?rest20
    case hy20=>(rintro wS ⟨k0,k5,k6,k13,kb⟩;go_simp;try with_reducible rfl)
    try simp[Act.put]
    refine tx 21 ?v21 rfl (by kernel_rfl) tq (by rfl) ?hy21 (by assumption) ?rest21
    case hy21=>(rintro wS ⟨k0,k5,k6,k13,kb⟩;go_simp;try with_reducible rfl)
    try simp[Act.put]
    refine tx 22 ?v22 rfl (by kernel_rfl) tq (by rfl) ?hy22 (by assumption) ?rest22
    case hy22=>(rintro wS ⟨k0,k5,k6,k13,kb⟩;go_simp;try with_reducible rfl)
    try simp[Act.put]
    refine tx 23 ?v23 rfl (by kernel_rfl) tq (by rfl) ?hy23 (by assumption) ?rest23
    case hy23=>(rintro wS ⟨k0,k5,k6,k13,kb⟩;go_simp;try with_reducible rfl)
    try simp[Act.put]
    refine tx 24 ?v24 rfl (by kernel_rfl) tq (by rfl) ?hy24 (by assumption) ?rest24
    case hy24=>(rintro wS ⟨k0,k5,k6,k13,kb⟩;go_simp;try with_reducible rfl)
    try simp[Act.put]
    refine tx 25 ?v25 rfl (by kernel_rfl) tq (by rfl) ?hy25 (by assumption) ?rest25
    case hy25=>(rintro wS ⟨k0,k5,k6,k13,kb⟩;go_simp;try with_reducible rfl)
    try simp[Act.put]
    refine tx 26 ?v26 rfl (by kernel_rfl) tq (by rfl) ?hy26 (by assumption) ?rest26
    case hy26=>(rintro wS ⟨k0,k5,k6,k13,kb⟩;go_simp;try with_reducible rfl)
    try simp[Act.put]
    refine tx 27 ?v27 rfl (by kernel_rfl) tq (by rfl) ?hy27 (by assumption) ?rest27
    case hy27=>(rintro wS ⟨k0,k5,k6,k13,kb⟩;go_simp;try with_reducible rfl)
    try simp[Act.put]
    refine tx 28 ?v28 rfl (by kernel_rfl) tq (by rfl) ?hy28 (by assumption) ?rest28
    case hy28=>(rintro wS ⟨k0,k5,k6,k13,kb⟩;go_simp;try with_reducible rfl)
    try simp[Act.put]
    refine tx 29 ?v29 rfl (by kernel_rfl) tq (by rfl) ?hy29 (by assumption) ?rest29
    case hy29=>(rintro wS ⟨k0,k5,k6,k13,kb⟩;go_simp;try with_reducible rfl)
    try simp[Act.put]
    refine tx 30 ?v30 rfl (by kernel_rfl) tq (by rfl) ?hy30 (by assumption) ?rest30
    case hy30=>(rintro wS ⟨k0,k5,k6,k13,kb⟩;go_simp;try with_reducible rfl)
    try simp[Act.put]
    refine tx 31 ?v31 rfl (by kernel_rfl) tq (by rfl) ?hy31 (by assumption) ?rest31
    case hy31=>(rintro wS ⟨k0,k5,k6,k13,kb⟩;go_simp;try with_reducible rfl)
    try simp[Act.put]
    refine tx 32 ?v32 rfl (by kernel_rfl) tq (by rfl) ?hy32 (by assumption) ?rest32
    case hy32=>(rintro wS ⟨k0,k5,k6,k13,kb⟩;go_simp;try with_reducible rfl)
    try simp[Act.put]
    refine tx 33 ?v33 rfl (by kernel_rfl) tq (by rfl) ?hy33 (by assumption) ?rest33
    case hy33=>(rintro wS ⟨k0,k5,k6,k13,kb⟩;go_simp;try with_reducible rfl)
    try simp[Act.put]
    refine tx 34 ?v34 rfl (by kernel_rfl) tq (by rfl) ?hy34 (by assumption) ?rest34
    case hy34=>(rintro wS ⟨k0,k5,k6,k13,kb⟩;go_simp;try with_reducible rfl)
    try simp[Act.put]
    refine wpAnyH_ready (rs:=[35]) (by kernel_rfl) (by simp) ?_
    refine AllReadyH.cons rfl (fun K hK=>?_) AllReadyH.nil
    go_simp
    obtain⟨k0,k5,k6,k13,kb⟩:=hHeld
    rw[HWD.out]
    refine HC.out.mono ?_
    rintro e w1 ⟨⟨n,rfl⟩,hb1⟩
    replace k0:=V.keeps hb1 k0
    replace k5:=V.keeps hb1 k5
    replace k6:=V.keeps hb1 k6
    replace k13:=V.keeps hb1 k13
    replace kb:=V.two kb hb1
    clear hb1
    go_wp2_with fail
    refine hK.out _ _ ⟨k0,k5,k6,k13,kb⟩ (fun hHeld=>?_)
    try simp[Act.put]
    refine tx 36 ?v36b rfl (by kernel_rfl) tq (by rfl) ?hy36b (by assumption) ?rest36b
    case hy36b=>(rintro wS ⟨k0,k5,k6,k13,kb⟩;go_simp;try with_reducible rfl)
    try simp[Act.put]
    refine tx 37 ?v37b rfl (by kernel_rfl) tq (by rfl) ?hy37b (by assumption) ?rest37b
    case hy37b=>(rintro wS ⟨k0,k5,k6,k13,kb⟩;go_simp;try with_reducible rfl)
    try simp[Act.put]
    refine wpAnyH_done (by kernel_rfl) ?_ _
    obtain⟨k0,k5,k6,k13,kb⟩:=hHeld
    have HB1:=zh (HB.out.trans (kb.mono HB.out.size))
    clear k0 k5 k6 k13 kb
    go_wp2_with fail
    exact⟨⟨i+1,_,by omega,by simp,rfl,HB1.out⟩,by simp[intOf];omega⟩
  · by_cases hd2:d≤40
    · have q3:decide ((d:Int)≤40)=true:=decide_eq_true (by omega)
      have q4:decide ((40:Int)<(d:Int))=false:=decide_eq_false (by omega)
      by_cases hlt:i<m
      · have q1:decide ((i:Int)<(m:Int))=true:=decide_eq_true (by omega)
        have q2:decide (N≤10000)=false:=decide_eq_false (fun h=>hgo ⟨hlt,h,hd2⟩)
        clear hgo hB
        go_wp2_with fail
        go_ret
        exact⟨⟨_,rfl⟩,HB.out⟩
      · have q1:decide ((i:Int)<(m:Int))=false:=decide_eq_false (by omega)
        clear hgo hB
        go_wp2_with fail
        go_ret
        exact⟨⟨_,rfl⟩,HB.out⟩
    · have q3:decide ((d:Int)≤40)=false:=decide_eq_false (by omega)
      have q4:decide ((40:Int)<(d:Int))=true:=decide_eq_true (by omega)
      by_cases hlt:i<m
      · have q1:decide ((i:Int)<(m:Int))=true:=decide_eq_true (by omega)
        by_cases hN:N≤10000
        · have q2:decide (N≤10000)=true:=decide_eq_true hN
          clear hgo hB
          go_wp2_with fail
          go_ret
          exact⟨⟨_,rfl⟩,HB.out⟩
        · have q2:decide (N≤10000)=false:=decide_eq_false hN
          clear hgo hB
          go_wp2_with fail
          go_ret
          exact⟨⟨_,rfl⟩,HB.out⟩
      · have q1:decide ((i:Int)<(m:Int))=false:=decide_eq_false (by omega)
        clear hgo hB
        go_wp2_with fail
        go_ret
        exact⟨⟨_,rfl⟩,HB.out⟩
theorem fields_all (f:Fd):FieldsAt f.fields:=Fd.ind (C:=fun f=>FieldsAt f.fields) (fun f ih=>fields_list f.fields ih) f
theorem fields_any (l:List Fd):FieldsAt l:=fields_list l (fun f _=>fields_all f)
theorem broad_any (lim:Int) (l:List Fd) (a:Option Addr) (c:Nat) (w:World) (hl:l.length≤140737488351232) (hfi:FI w 0 w.heap.size l (.slice a l.length c)) :
 Calls prog 6 #[.agg #[.int .i64 lim,.slice a l.length c]] w fun e w'=>(∃ x:Bool,e=.returned (.bool x))∧Below w.heap.size w w':=by
 have HF:=zh (fun o=>fields_any l a c 0 (w.alloc o) hl (by omega) ((hfi.same (Same.of_below (zr.alloc lr o) lr)).wide lr (by simp)))
 obtain⟨m,hm⟩:∃ m,l.length=m:=⟨_,rfl⟩
 rw[hm] at HF ⊢
 rw[show ((0:Nat):Int)=0 from rfl] at HF
 clear hfi hm hl
 go_enter func6,ntmps6
 go_wp2_with fail
 refine(HF.out _).mono ?_
 rintro e w1 ⟨⟨n,rfl⟩,hb1⟩
 have HB:=zh ((zr.alloc lr _).trans (hb1.mono (by simp)))
 clear hb1
 go_wp2_with fail
 go_ret
 exact⟨⟨_,rfl⟩,HB.out⟩
