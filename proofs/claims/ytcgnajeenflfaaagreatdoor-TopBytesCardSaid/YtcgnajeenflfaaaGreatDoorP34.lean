import Derived.Test.YtcgnajeenflfaaaGreatDoorP33
set_option maxRecDepth 100000
set_option maxHeartbeats 4000000
set_option linter.all false
open Go.Proofs.Tryz Go.RowKit
namespace Go.Proofs.YtcgnajeenflfaaaGreatDoor
namespace Sc
open V (Same Pt VI mayB mayB_ok PS)
open We (Co TblAt WfT keyM)
open D (Dm Wf)
open Ta (Tm)
theorem rdNum_form {f:Fd} {L l:List UInt8} {p:Pt} (h:rdNum f L=some (p,l)):p=.mk 2 false p.neg p.mag .empty []:=by
 unfold rdNum at h
 split at h
 · cases h
 · split at h
   · cases h
   · split at h
     · cases h
     · split at h
       · injection h with h
         injection h with h1 h2
         subst h1
         rfl
       · cases h
theorem rdText_R (K:Co→ByteArray→List UInt8) (f:Fd) (L:List UInt8):rdText K f L=(textR K f L).map fun x=>(.mk 6 false false .empty ⟨x.1.toArray⟩ [],x.2):=by
 unfold textR
 cases L with
 | nil=>rfl
 | cons c r =>
  by_cases h:c=modeB f.co
  · cases h2:rdKey r f.co.str.toNat with
    | none=>simp[rdText,h,h2]
    | some y =>
     obtain⟨k,r1⟩:=y
     cases h3:rdEsc r1 with
     | none=>simp[rdText,h,h2,h3]
     | some z =>
      obtain⟨s,r2⟩:=z
      simp only [rdText,h,h2,h3,ne_eq,not_true_eq_false,if_false]
      split
      · simp only [Option.map_some]
        rw[show (Pt.mk 6 false false ByteArray.empty ⟨s.toArray⟩ []).raw.toList=s from toList_mk s]
      · rfl
  · simp[rdText,h]
theorem payr_bool {K:Co→ByteArray→List UInt8} {D:Dm} {T:Tm} (t:Addr) (f:Fd) (d:Nat) (hok:OkF d f) (hk:f.kind=1):ReadAt 70 (rdPay K f) D T t f d:=by
 intro hi a0 k0 rb b at_ tn pv lp w hb hat hhi hlp hr hpv ht hfi
 have hlp17:lp.length≤17:=by have:=hok.lt;omega
 obtain⟨m,hm⟩:∃ m,f.fields.length=m:=⟨_,rfl⟩
 have hrl:=hr.lt
 obtain⟨_,_,_,_,ho,_,_,_⟩:=hok
 rw[hm]
 obtain⟨L,hL⟩:∃ L,leftL b at_ tn=L:=⟨_,rfl⟩
 rw[hL]
 have HLL:=zh hL
 have HPV:=zh hpv
 have HI:=zh (own_ints hpv)
 rw[fcells_14,hk]
 generalize hW:((w.alloc (.cells #[.string f.name,.int .u8 1,.bool f.down,.int .u8 f.nulls,.bool f.bnd,.bool f.lob,.string f.lom,.bool f.hib,.string f.him,.int .i64 f.most,.int .i64 f.co.str,.bool f.co.sh,.bool f.co.back,.slice a0 m k0] 79)).alloc (.cells #[.int .u8 0,.bool false,.bool false,.string ⟨#[]⟩,.string ⟨#[]⟩,.slice none 0 0] 57)).alloc (.cells #[.int .u8 1,.bool false,.bool false,.string ⟨#[]⟩,.string ⟨#[]⟩,.slice none 0 0] 57)=w1
 have HB1:=zh (show Below w.heap.size w w1 by rw[← hW];exact((zr.alloc lr _).alloc (by simp) _).alloc (by simp;omega) _)
 obtain⟨W0,hW0⟩:∃ W0,W0=(w.alloc (.cells #[.string f.name,.int .u8 1,.bool f.down,.int .u8 f.nulls,.bool f.bnd,.bool f.lob,.string f.lom,.bool f.hib,.string f.him,.int .i64 f.most,.int .i64 f.co.str,.bool f.co.sh,.bool f.co.back,.slice a0 m k0] 79)).alloc (.cells #[.int .u8 0,.bool false,.bool false,.string ⟨#[]⟩,.string ⟨#[]⟩,.slice none 0 0] 57):=⟨_,rfl⟩
 have hz0:W0.heap.size=w.heap.size+1+1:=by rw[hW0];simp
 have HFB:=zh (show Blk w1 w.heap.size 79 #[.string f.name,.int .u8 1,.bool f.down,.int .u8 f.nulls,.bool f.bnd,.bool f.lob,.string f.lom,.bool f.hib,.string f.him,.int .i64 f.most,.int .i64 f.co.str,.bool f.co.sh,.bool f.co.back,.slice a0 m k0] by
  rw[← hW]
  exact Blk.below (Blk.new _ _ _) ((zr.alloc lr _).alloc (by simp) _) (by simp))
 have HZB:=zh (show Blk w1 (w.heap.size+1) 57 #[.int .u8 0,.bool false,.bool false,.string ⟨#[]⟩,.string ⟨#[]⟩,.slice none 0 0] by
  rw[← hW]
  have:=Blk.new (w.alloc (.cells #[.string f.name,.int .u8 1,.bool f.down,.int .u8 f.nulls,.bool f.bnd,.bool f.lob,.string f.lom,.bool f.hib,.string f.him,.int .i64 f.most,.int .i64 f.co.str,.bool f.co.sh,.bool f.co.back,.slice a0 m k0] 79)) 57 #[.int .u8 0,.bool false,.bool false,.string ⟨#[]⟩,.string ⟨#[]⟩,.slice none 0 0]
  exact Blk.below (by simpa using this) (zr.alloc lr _) (by simp))
 have HPB:=zh (show Blk w1 (w.heap.size+1+1) 57 #[.int .u8 1,.bool false,.bool false,.string ⟨#[]⟩,.string ⟨#[]⟩,.slice none 0 0] by
  rw[← hW,← hW0]
  have:=Blk.new W0 57 #[.int .u8 1,.bool false,.bool false,.string ⟨#[]⟩,.string ⟨#[]⟩,.slice none 0 0]
  rwa [hz0] at this)
 have HR1:=zh (show Rdr w1 rb (.pointer (some t)) b at_ tn pv from Blk.below hr HB1.out hrl)
 have HX1:=zh (Xv.of_below (P:=(· = rb)) HB1.out)
 have HI1:=zh (HI.out.keep HB1.out.size (fun k hk _=>HB1.out.block k hk) (fun _ _ e=>e))
 have hne0:w.heap.size≠rb:=by omega
 have hne1:w.heap.size+1≠rb:=by omega
 have hne2:w.heap.size+1+1≠rb:=by omega
 have c2:w1.cell? ⟨rb,2,none⟩=some (.int .i64 (at_:Int)):=HR1.out.cell 2
 have f1:w1.cell? ⟨w.heap.size,1,none⟩=some (.int .u8 1):=HFB.out.cell 1
 have hRP:rdPay K f L=rdP K f L:=by unfold rdPay;rw[if_neg (by omega)]
 by_cases hlt:at_<b.size
 case neg =>
  have HNO:=zh (show rdPay K f L=none by rw[hRP,← hL,leftL_end tn (by omega)];unfold rdP;rw[if_pos hk])
  have HF:=zh (take1_no rb (.pointer (some t)) b at_ tn pv lp w1 hb HR1.out HI1.out hlp17 hat hlt)
  clear hW0 hz0 hr hpv ht hfi hL hRP
  subst hW
  go_enter func70,ntmps70
  go_wp2_with fail
  refine HF.out.mono ?_
  rintro e w9 ⟨hf,hb9⟩
  obtain⟨ch,rfl⟩:=hf.form
  go_wp2_with fail
  exact⟨rfl,.no1 HNO.out (hf.low HX1.out.size) (HX1.out.then hb9)⟩
 obtain⟨c,hc⟩:∃ c,fl tn b[at_]=c:=⟨_,rfl⟩
 have H1:=zh (take1_list rb (.pointer (some t)) b at_ tn pv w1 hb HR1.out hlt)
 rw[hc] at H1
 have HRC:=zh (show rdPay K f L=if c≤1 then some (.mk 1 (c==1) false .empty .empty [],leftL b (at_+1) tn) else none by rw[hRP,← hL,leftL_cons tn hlt,hc];unfold rdP;rw[if_pos hk])
 clear hW0 hz0 hr hpv ht hfi hL hRP hc
 subst hW
 go_enter func70,ntmps70
 go_wp2_with fail
 refine H1.out.mono ?_
 rintro e w2 ⟨p,rfl,⟨hp1,hpc⟩,hpl,hr2,hx⟩
 have HX2:=zh (HX1.out.trans hx (fun _ _ e=>e))
 have HR2:=zh hr2
 have HZB2:=zh (hx.blk hne1 HZB.out)
 have HPB2:=zh (hx.blk hne2 HPB.out)
 have HFB2:=zh (hx.blk hne0 HFB.out)
 have HI2:=zh (HI1.out.keep hx.size (fun k hk hp=>hx.block k hk hp) (fun _ _ e=>e))
 obtain⟨⟨y0,y1,y2,y3,y4,y5⟩,z0,z1,z2,z3,z4,z5⟩:=f6 HZB2.out
 obtain⟨⟨a0',a1',a2',a3',a4',a5'⟩,b0',b1',b2',b3',b4',b5'⟩:=f6 HPB2.out
 have l1:w.heap.size+1<w2.heap.size:=HZB2.out.lt
 have l2:w.heap.size+1+1<w2.heap.size:=HPB2.out.lt
 clear hx hr2
 have c2:w2.cell? ⟨rb,2,none⟩=some (.int .i64 ((at_+1:Nat):Int)):=HR2.out.cell 2
 by_cases hc1:c≤1
 case neg =>
  have q1:decide ((1:Int)<(c.toNat:Int))=true:=decide_eq_true (by
   have:¬ c.toNat≤1:=fun e=>hc1 (UInt8.le_iff_toNat_le.2 e)
   omega)
  have HNO:=zh (show rdPay K f L=none by rw[HRC.out,if_neg hc1])
  have HF:=zh (fail_any rb (.pointer (some t)) b (at_+1) tn pv lp 143 at_ .nilIface w2 HR2.out HI2.out hlp17 (.inl rfl))
  clear hc1
  go_wp2_with fail
  refine HF.out.mono ?_
  rintro e w9 ⟨hf,hb9⟩
  obtain⟨ch,rfl⟩:=hf.form
  go_wp2_with fail
  exact⟨rfl,.no1 HNO.out ((hf.low HX2.out.size).to (by omega)) (HX2.out.then hb9)⟩
 have q1:decide ((1:Int)<(c.toNat:Int))=false:=decide_eq_false (by
  have:=UInt8.le_iff_toNat_le.1 hc1
  have:c.toNat≤1:=this
  omega)
 obtain⟨X,hX⟩:∃ X,(c==1)=X:=⟨_,rfl⟩
 have q2:((c.toNat:Int)==1)=X:=by
  rw[← hX]
  cases h:(c==1) with
  | true=>rw[beq_iff_eq.1 h];rfl
  | false =>
   have:c.toNat≠1:=fun e=>by rw[beq_eq_false_iff_ne] at h;exact h (UInt8.toNat_inj.1 e)
   simp;omega
 have HYE:=zh (show rdPay K f L=some (.mk 1 X false .empty .empty [],leftL b (at_+1) tn) by rw[HRC.out,if_pos hc1,hX])
 clear hc1 hX HRC
 go_wp2_with fail
 refine bodyPost_ret (v:=.agg (V.cellsOf (.mk 1 X false .empty .empty []) (.slice none 0 0))) (by simp[results,Tryz.f70,go_sem,y0,y1,y2,y3,y4,y5,V.cellsOf,V.Pt.kind,V.Pt.yes,V.Pt.neg,V.Pt.mag,V.Pt.raw];try rfl) rfl ?_
 exact .flat HYE.out rfl (by omega) rfl (put6_other (blk_set HR2.out (Ne.symm hne2) 1 (.bool X)) (Ne.symm hne1) _ _ _ _ _ _) HPV.out (put6_xv (HX2.out.set_ (fun h=>by omega) 1 (.bool X)) (fun h=>by omega) _ _ _ _ _ _)
theorem payr_num {K:Co→ByteArray→List UInt8} {D:Dm} {T:Tm} (t:Addr) (f:Fd) (d:Nat) (hok:OkF d f) (hk:f.kind=2):ReadAt 70 (rdPay K f) D T t f d:=by
 intro hi a0 k0 rb b at_ tn pv lp w hb hat hhi hlp hr hpv ht hfi
 have hlp17:lp.length≤17:=by have:=hok.lt;omega
 obtain⟨m,hm⟩:∃ m,f.fields.length=m:=⟨_,rfl⟩
 have hrl:=hr.lt
 obtain⟨_,_,_,_,ho,_,_,_⟩:=hok
 rw[hm]
 obtain⟨L,hL⟩:∃ L,leftL b at_ tn=L:=⟨_,rfl⟩
 rw[hL]
 have HLL:=zh hL
 have HPV:=zh hpv
 have HI:=zh (own_ints hpv)
 rw[fcells_14,hk]
 generalize hW:((w.alloc (.cells #[.string f.name,.int .u8 2,.bool f.down,.int .u8 f.nulls,.bool f.bnd,.bool f.lob,.string f.lom,.bool f.hib,.string f.him,.int .i64 f.most,.int .i64 f.co.str,.bool f.co.sh,.bool f.co.back,.slice a0 m k0] 79)).alloc (.cells #[.int .u8 0,.bool false,.bool false,.string ⟨#[]⟩,.string ⟨#[]⟩,.slice none 0 0] 57)).alloc (.cells #[.int .u8 2,.bool false,.bool false,.string ⟨#[]⟩,.string ⟨#[]⟩,.slice none 0 0] 57)=w1
 have HB1:=zh (show Below w.heap.size w w1 by rw[← hW];exact((zr.alloc lr _).alloc (by simp) _).alloc (by simp;omega) _)
 obtain⟨W0,hW0⟩:∃ W0,W0=(w.alloc (.cells #[.string f.name,.int .u8 2,.bool f.down,.int .u8 f.nulls,.bool f.bnd,.bool f.lob,.string f.lom,.bool f.hib,.string f.him,.int .i64 f.most,.int .i64 f.co.str,.bool f.co.sh,.bool f.co.back,.slice a0 m k0] 79)).alloc (.cells #[.int .u8 0,.bool false,.bool false,.string ⟨#[]⟩,.string ⟨#[]⟩,.slice none 0 0] 57):=⟨_,rfl⟩
 have hz0:W0.heap.size=w.heap.size+1+1:=by rw[hW0];simp
 have HFB:=zh (show Blk w1 w.heap.size 79 #[.string f.name,.int .u8 2,.bool f.down,.int .u8 f.nulls,.bool f.bnd,.bool f.lob,.string f.lom,.bool f.hib,.string f.him,.int .i64 f.most,.int .i64 f.co.str,.bool f.co.sh,.bool f.co.back,.slice a0 m k0] by
  rw[← hW]
  exact Blk.below (Blk.new _ _ _) ((zr.alloc lr _).alloc (by simp) _) (by simp))
 have HZB:=zh (show Blk w1 (w.heap.size+1) 57 #[.int .u8 0,.bool false,.bool false,.string ⟨#[]⟩,.string ⟨#[]⟩,.slice none 0 0] by
  rw[← hW]
  have:=Blk.new (w.alloc (.cells #[.string f.name,.int .u8 2,.bool f.down,.int .u8 f.nulls,.bool f.bnd,.bool f.lob,.string f.lom,.bool f.hib,.string f.him,.int .i64 f.most,.int .i64 f.co.str,.bool f.co.sh,.bool f.co.back,.slice a0 m k0] 79)) 57 #[.int .u8 0,.bool false,.bool false,.string ⟨#[]⟩,.string ⟨#[]⟩,.slice none 0 0]
  exact Blk.below (by simpa using this) (zr.alloc lr _) (by simp))
 have HPB:=zh (show Blk w1 (w.heap.size+1+1) 57 #[.int .u8 2,.bool false,.bool false,.string ⟨#[]⟩,.string ⟨#[]⟩,.slice none 0 0] by
  rw[← hW,← hW0]
  have:=Blk.new W0 57 #[.int .u8 2,.bool false,.bool false,.string ⟨#[]⟩,.string ⟨#[]⟩,.slice none 0 0]
  rwa [hz0] at this)
 have HR1:=zh (show Rdr w1 rb (.pointer (some t)) b at_ tn pv from Blk.below hr HB1.out hrl)
 have HX1:=zh (Xv.of_below (P:=(· = rb)) HB1.out)
 have HI1:=zh (HI.out.keep HB1.out.size (fun k hk _=>HB1.out.block k hk) (fun _ _ e=>e))
 have hne0:w.heap.size≠rb:=by omega
 have hne1:w.heap.size+1≠rb:=by omega
 have hne2:w.heap.size+1+1≠rb:=by omega
 have c2:w1.cell? ⟨rb,2,none⟩=some (.int .i64 (at_:Int)):=HR1.out.cell 2
 have f1:w1.cell? ⟨w.heap.size,1,none⟩=some (.int .u8 2):=HFB.out.cell 1
 have hRP:rdPay K f L=rdNum f L:=by unfold rdPay;rw[if_neg (by omega)];unfold rdP;rw[if_neg (by omega),if_pos hk]
 have HNM:=zh (number_any f a0 m k0 rb (.pointer (some t)) b at_ tn pv lp w1 hk ho hb hat HR1.out HI1.out hlp17)
 rw[hL,fcells_14,hk] at HNM
 obtain⟨Z,hZ⟩:∃ Z,rdNum f L=Z:=⟨_,rfl⟩
 have HRZ:=zh (hRP.trans hZ)
 have HZF:=zh (fun q l (e:rdNum f L=some (q,l))=>rdNum_form e)
 unfold NumGot at HNM
 rw[hZ] at HNM HZF
 obtain⟨c0,c1,c2',c3,c4,c5,c6,c7,c8,c9,c10,c11,c12,c13⟩:=f14 HFB.out
 clear hW0 hz0 hr hpv ht hfi hL hRP hZ
 subst hW
 go_enter func70,ntmps70
 go_wp2_with fail
 refine HNM.out.mono ?_
 intro e w2 hg
 cases Z with
 | none =>
  obtain⟨hf,hx⟩:=hg
  obtain⟨ch,rfl⟩:=hf.form
  go_wp2_with fail
  exact⟨rfl,.no1 HRZ.out (hf.low HX1.out.size) (HX1.out.trans hx (fun _ _ e=>e))⟩
 | some x =>
  obtain⟨q,l⟩:=x
  obtain⟨⟨rfl,a,ha,rfl,hr2⟩,hx⟩:=hg
  have HQF:=zh (HZF.out q _ rfl)
  have HX2:=zh (HX1.out.trans hx (fun _ _ e=>e))
  have HR2:=zh hr2
  have HZB2:=zh (hx.blk hne1 HZB.out)
  have HPB2:=zh (hx.blk hne2 HPB.out)
  have HFB2:=zh (hx.blk hne0 HFB.out)
  have HI2:=zh (HI1.out.keep hx.size (fun k hk hp=>hx.block k hk hp) (fun _ _ e=>e))
  obtain⟨⟨y0,y1,y2,y3,y4,y5⟩,z0,z1,z2,z3,z4,z5⟩:=f6 HZB2.out
  obtain⟨⟨a0',a1',a2',a3',a4',a5'⟩,b0',b1',b2',b3',b4',b5'⟩:=f6 HPB2.out
  have l1:w.heap.size+1<w2.heap.size:=HZB2.out.lt
  have l2:w.heap.size+1+1<w2.heap.size:=HPB2.out.lt
  clear hx hr2
  clear c2 HNM
  go_wp2_with fail
  refine bodyPost_ret (v:=.agg (V.cellsOf (.mk 2 false q.neg q.mag .empty []) (.slice none 0 0))) (by simp[results,Tryz.f70,go_sem,y0,y1,y2,y3,y4,y5,V.cellsOf,V.Pt.kind,V.Pt.yes,V.Pt.neg,V.Pt.mag,V.Pt.raw];try rfl) rfl ?_
  exact .flat (HRZ.out.trans (by rw[← HQF.out])) rfl ha rfl (put6_other (blk_set (blk_set HR2.out (Ne.symm hne2) 2 (.bool q.neg)) (Ne.symm hne2) 3 (.string q.mag)) (Ne.symm hne1) _ _ _ _ _ _) HPV.out (put6_xv ((HX2.out.set_ (fun h=>by omega) 2 (.bool q.neg)).set_ (fun h=>by omega) 3 (.string q.mag)) (fun h=>by omega) _ _ _ _ _ _)
theorem payr_id {K:Co→ByteArray→List UInt8} {D:Dm} {T:Tm} (t:Addr) (f:Fd) (d:Nat) (hok:OkF d f) (hk:f.kind=4):ReadAt 70 (rdPay K f) D T t f d:=by
 intro hi a0 k0 rb b at_ tn pv lp w hb hat hhi hlp hr hpv ht hfi
 have hlp17:lp.length≤17:=by have:=hok.lt;omega
 obtain⟨m,hm⟩:∃ m,f.fields.length=m:=⟨_,rfl⟩
 have hrl:=hr.lt
 obtain⟨_,_,_,_,ho,_,_,_⟩:=hok
 rw[hm]
 obtain⟨L,hL⟩:∃ L,leftL b at_ tn=L:=⟨_,rfl⟩
 rw[hL]
 have HLL:=zh hL
 have HPV:=zh hpv
 have HI:=zh (own_ints hpv)
 rw[fcells_14,hk]
 generalize hW:((w.alloc (.cells #[.string f.name,.int .u8 4,.bool f.down,.int .u8 f.nulls,.bool f.bnd,.bool f.lob,.string f.lom,.bool f.hib,.string f.him,.int .i64 f.most,.int .i64 f.co.str,.bool f.co.sh,.bool f.co.back,.slice a0 m k0] 79)).alloc (.cells #[.int .u8 0,.bool false,.bool false,.string ⟨#[]⟩,.string ⟨#[]⟩,.slice none 0 0] 57)).alloc (.cells #[.int .u8 4,.bool false,.bool false,.string ⟨#[]⟩,.string ⟨#[]⟩,.slice none 0 0] 57)=w1
 have HB1:=zh (show Below w.heap.size w w1 by rw[← hW];exact((zr.alloc lr _).alloc (by simp) _).alloc (by simp;omega) _)
 obtain⟨W0,hW0⟩:∃ W0,W0=(w.alloc (.cells #[.string f.name,.int .u8 4,.bool f.down,.int .u8 f.nulls,.bool f.bnd,.bool f.lob,.string f.lom,.bool f.hib,.string f.him,.int .i64 f.most,.int .i64 f.co.str,.bool f.co.sh,.bool f.co.back,.slice a0 m k0] 79)).alloc (.cells #[.int .u8 0,.bool false,.bool false,.string ⟨#[]⟩,.string ⟨#[]⟩,.slice none 0 0] 57):=⟨_,rfl⟩
 have hz0:W0.heap.size=w.heap.size+1+1:=by rw[hW0];simp
 have HFB:=zh (show Blk w1 w.heap.size 79 #[.string f.name,.int .u8 4,.bool f.down,.int .u8 f.nulls,.bool f.bnd,.bool f.lob,.string f.lom,.bool f.hib,.string f.him,.int .i64 f.most,.int .i64 f.co.str,.bool f.co.sh,.bool f.co.back,.slice a0 m k0] by
  rw[← hW]
  exact Blk.below (Blk.new _ _ _) ((zr.alloc lr _).alloc (by simp) _) (by simp))
 have HZB:=zh (show Blk w1 (w.heap.size+1) 57 #[.int .u8 0,.bool false,.bool false,.string ⟨#[]⟩,.string ⟨#[]⟩,.slice none 0 0] by
  rw[← hW]
  have:=Blk.new (w.alloc (.cells #[.string f.name,.int .u8 4,.bool f.down,.int .u8 f.nulls,.bool f.bnd,.bool f.lob,.string f.lom,.bool f.hib,.string f.him,.int .i64 f.most,.int .i64 f.co.str,.bool f.co.sh,.bool f.co.back,.slice a0 m k0] 79)) 57 #[.int .u8 0,.bool false,.bool false,.string ⟨#[]⟩,.string ⟨#[]⟩,.slice none 0 0]
  exact Blk.below (by simpa using this) (zr.alloc lr _) (by simp))
 have HPB:=zh (show Blk w1 (w.heap.size+1+1) 57 #[.int .u8 4,.bool false,.bool false,.string ⟨#[]⟩,.string ⟨#[]⟩,.slice none 0 0] by
  rw[← hW,← hW0]
  have:=Blk.new W0 57 #[.int .u8 4,.bool false,.bool false,.string ⟨#[]⟩,.string ⟨#[]⟩,.slice none 0 0]
  rwa [hz0] at this)
 have HR1:=zh (show Rdr w1 rb (.pointer (some t)) b at_ tn pv from Blk.below hr HB1.out hrl)
 have HX1:=zh (Xv.of_below (P:=(· = rb)) HB1.out)
 have HI1:=zh (HI.out.keep HB1.out.size (fun k hk _=>HB1.out.block k hk) (fun _ _ e=>e))
 have hne0:w.heap.size≠rb:=by omega
 have hne1:w.heap.size+1≠rb:=by omega
 have hne2:w.heap.size+1+1≠rb:=by omega
 have c2:w1.cell? ⟨rb,2,none⟩=some (.int .i64 (at_:Int)):=HR1.out.cell 2
 have f1:w1.cell? ⟨w.heap.size,1,none⟩=some (.int .u8 4):=HFB.out.cell 1
 have hRP:rdPay K f L=if 16≤L.length then some (.mk 4 false false .empty ⟨(L.take 16).toArray⟩ [],L.drop 16) else none:=by unfold rdPay;rw[if_neg (by omega)];unfold rdP;rw[if_neg (by omega),if_neg (by omega),if_pos hk]
 have HTK:=zh (rtake_any rb (.pointer (some t)) b at_ 16 tn pv lp w1 hb hat (by omega) HR1.out HI1.out hlp17)
 rw[show ((16:Nat):Int)=16 from rfl] at HTK
 have hLn:L.length=b.size-at_:=by rw[← hL,leftL_len]
 have HDR:=zh (show L.drop 16=leftL b (at_+16) tn by rw[← hL,leftL_drop])
 unfold TakePost at HTK
 rw[hL] at HTK
 obtain⟨S,hS⟩:∃ S,(⟨(L.take 16).toArray⟩:ByteArray)=S:=⟨_,rfl⟩
 rw[hS] at HTK hRP
 have HRP:=zh hRP
 clear hW0 hz0 hr hpv ht hfi hL hRP hS
 subst hW
 go_enter func70,ntmps70
 go_wp2_with fail
 refine HTK.out.mono ?_
 intro e w2 hg
 by_cases h16:at_+16≤b.size
 · rw[if_pos h16] at hg
   obtain⟨rfl,hr2,hx⟩:=hg
   have HX2:=zh (HX1.out.trans hx (fun _ _ e=>e))
   have HR2:=zh hr2
   have HZB2:=zh (hx.blk hne1 HZB.out)
   have HPB2:=zh (hx.blk hne2 HPB.out)
   have HFB2:=zh (hx.blk hne0 HFB.out)
   have HI2:=zh (HI1.out.keep hx.size (fun k hk hp=>hx.block k hk hp) (fun _ _ e=>e))
   obtain⟨⟨y0,y1,y2,y3,y4,y5⟩,z0,z1,z2,z3,z4,z5⟩:=f6 HZB2.out
   obtain⟨⟨a0',a1',a2',a3',a4',a5'⟩,b0',b1',b2',b3',b4',b5'⟩:=f6 HPB2.out
   have l1:w.heap.size+1<w2.heap.size:=HZB2.out.lt
   have l2:w.heap.size+1+1<w2.heap.size:=HPB2.out.lt
   clear hx hr2
   have HYE:=zh (show rdPay K f L=some (.mk 4 false false .empty S [],leftL b (at_+16) tn) by rw[HRP.out,if_pos (by omega),HDR.out])
   clear c2 HTK
   go_wp2_with fail
   refine bodyPost_ret (v:=.agg (V.cellsOf (.mk 4 false false .empty S []) (.slice none 0 0))) (by simp[results,Tryz.f70,go_sem,y0,y1,y2,y3,y4,y5,V.cellsOf,V.Pt.kind,V.Pt.yes,V.Pt.neg,V.Pt.mag,V.Pt.raw];try rfl) rfl ?_
   exact .flat HYE.out rfl h16 rfl (put6_other (blk_set HR2.out (Ne.symm hne2) 4 (.string S)) (Ne.symm hne1) _ _ _ _ _ _) HPV.out (put6_xv (HX2.out.set_ (fun h=>by omega) 4 (.string S)) (fun h=>by omega) _ _ _ _ _ _)
 · rw[if_neg h16] at hg
   obtain⟨hf,hb9⟩:=hg
   obtain⟨ch,rfl⟩:=hf.form
   go_wp2_with fail
   exact⟨rfl,.no1 (by rw[HRP.out,if_neg (by omega)]) (hf.low HX1.out.size) (HX1.out.then hb9)⟩
theorem payr_text {D:Dm} (wf:Wf D) {T:Tm} (wt:WfT T) (t:Addr) (f:Fd) (d:Nat) (hok:OkF d f) (hk:f.kind=6):ReadAt 70 (rdPay (keyM D T) f) D T t f d:=by
 intro hi a0 k0 rb b at_ tn pv lp w hb hat hhi hlp hr hpv ht hfi
 have hlp17:lp.length≤17:=by have:=hok.lt;omega
 obtain⟨m,hm⟩:∃ m,f.fields.length=m:=⟨_,rfl⟩
 have hrl:=hr.lt
 obtain⟨_,_,_,_,ho,_,_,_⟩:=hok
 rw[hm]
 obtain⟨L,hL⟩:∃ L,leftL b at_ tn=L:=⟨_,rfl⟩
 rw[hL]
 have HLL:=zh hL
 have HPV:=zh hpv
 have HI:=zh (own_ints hpv)
 rw[fcells_14,hk]
 generalize hW:((w.alloc (.cells #[.string f.name,.int .u8 6,.bool f.down,.int .u8 f.nulls,.bool f.bnd,.bool f.lob,.string f.lom,.bool f.hib,.string f.him,.int .i64 f.most,.int .i64 f.co.str,.bool f.co.sh,.bool f.co.back,.slice a0 m k0] 79)).alloc (.cells #[.int .u8 0,.bool false,.bool false,.string ⟨#[]⟩,.string ⟨#[]⟩,.slice none 0 0] 57)).alloc (.cells #[.int .u8 6,.bool false,.bool false,.string ⟨#[]⟩,.string ⟨#[]⟩,.slice none 0 0] 57)=w1
 have HB1:=zh (show Below w.heap.size w w1 by rw[← hW];exact((zr.alloc lr _).alloc (by simp) _).alloc (by simp;omega) _)
 obtain⟨W0,hW0⟩:∃ W0,W0=(w.alloc (.cells #[.string f.name,.int .u8 6,.bool f.down,.int .u8 f.nulls,.bool f.bnd,.bool f.lob,.string f.lom,.bool f.hib,.string f.him,.int .i64 f.most,.int .i64 f.co.str,.bool f.co.sh,.bool f.co.back,.slice a0 m k0] 79)).alloc (.cells #[.int .u8 0,.bool false,.bool false,.string ⟨#[]⟩,.string ⟨#[]⟩,.slice none 0 0] 57):=⟨_,rfl⟩
 have hz0:W0.heap.size=w.heap.size+1+1:=by rw[hW0];simp
 have HFB:=zh (show Blk w1 w.heap.size 79 #[.string f.name,.int .u8 6,.bool f.down,.int .u8 f.nulls,.bool f.bnd,.bool f.lob,.string f.lom,.bool f.hib,.string f.him,.int .i64 f.most,.int .i64 f.co.str,.bool f.co.sh,.bool f.co.back,.slice a0 m k0] by
  rw[← hW]
  exact Blk.below (Blk.new _ _ _) ((zr.alloc lr _).alloc (by simp) _) (by simp))
 have HZB:=zh (show Blk w1 (w.heap.size+1) 57 #[.int .u8 0,.bool false,.bool false,.string ⟨#[]⟩,.string ⟨#[]⟩,.slice none 0 0] by
  rw[← hW]
  have:=Blk.new (w.alloc (.cells #[.string f.name,.int .u8 6,.bool f.down,.int .u8 f.nulls,.bool f.bnd,.bool f.lob,.string f.lom,.bool f.hib,.string f.him,.int .i64 f.most,.int .i64 f.co.str,.bool f.co.sh,.bool f.co.back,.slice a0 m k0] 79)) 57 #[.int .u8 0,.bool false,.bool false,.string ⟨#[]⟩,.string ⟨#[]⟩,.slice none 0 0]
  exact Blk.below (by simpa using this) (zr.alloc lr _) (by simp))
 have HPB:=zh (show Blk w1 (w.heap.size+1+1) 57 #[.int .u8 6,.bool false,.bool false,.string ⟨#[]⟩,.string ⟨#[]⟩,.slice none 0 0] by
  rw[← hW,← hW0]
  have:=Blk.new W0 57 #[.int .u8 6,.bool false,.bool false,.string ⟨#[]⟩,.string ⟨#[]⟩,.slice none 0 0]
  rwa [hz0] at this)
 have HR1:=zh (show Rdr w1 rb (.pointer (some t)) b at_ tn pv from Blk.below hr HB1.out hrl)
 have HX1:=zh (Xv.of_below (P:=(· = rb)) HB1.out)
 have HI1:=zh (HI.out.keep HB1.out.size (fun k hk _=>HB1.out.block k hk) (fun _ _ e=>e))
 have hne0:w.heap.size≠rb:=by omega
 have hne1:w.heap.size+1≠rb:=by omega
 have hne2:w.heap.size+1+1≠rb:=by omega
 have c2:w1.cell? ⟨rb,2,none⟩=some (.int .i64 (at_:Int)):=HR1.out.cell 2
 have f1:w1.cell? ⟨w.heap.size,1,none⟩=some (.int .u8 6):=HFB.out.cell 1
 have hTX:=text_any wf wt t hi f a0 m k0 rb b at_ tn pv lp w1 ((odd_not ho).2.2.1 hk) hb hat HR1.out HI1.out hlp17 hhi (ht.later HB1.out (by omega))
 obtain⟨K,hK⟩:∃ K,keyM D T=K:=⟨_,rfl⟩
 rw[hK] at hTX ⊢
 have hRP:rdPay K f L=rdText K f L:=by unfold rdPay;rw[if_neg (by omega)];unfold rdP;rw[if_neg (by omega),if_neg (by omega),if_neg (by omega),if_pos hk]
 have HNM:=zh hTX
 rw[hL,fcells_14,hk] at HNM
 obtain⟨Z,hZ⟩:∃ Z,textR K f L=Z:=⟨_,rfl⟩
 have HRZ:=zh (show rdPay K f L=Z.map fun x=>(.mk 6 false false .empty ⟨x.1.toArray⟩ [],x.2) by rw[hRP,← hZ];exact rdText_R K f L)
 unfold GotPost at HNM
 rw[hZ] at HNM
 obtain⟨c0,c1,c2',c3,c4,c5,c6,c7,c8,c9,c10,c11,c12,c13⟩:=f14 HFB.out
 clear hW0 hz0 hr hpv ht hfi hL hRP hZ hTX
 subst hW
 go_enter func70,ntmps70
 go_wp2_with fail
 refine HNM.out.mono ?_
 intro e w2 hg
 cases Z with
 | none =>
  obtain⟨hf,hx⟩:=hg
  obtain⟨ch,rfl⟩:=hf.form
  go_wp2_with fail
  exact⟨rfl,.no1 HRZ.out (hf.low HX1.out.size) (HX1.out.trans hx (fun _ _ e=>e))⟩
 | some x =>
  obtain⟨s,l⟩:=x
  obtain⟨⟨rfl,a,ha,rfl,hr2⟩,hx⟩:=hg
  obtain⟨S,hS⟩:∃ S,(⟨s.toArray⟩:ByteArray)=S:=⟨_,rfl⟩
  have HSS:=zh hS
  rw[hS]
  have HX2:=zh (HX1.out.trans hx (fun _ _ e=>e))
  have HR2:=zh hr2
  have HZB2:=zh (hx.blk hne1 HZB.out)
  have HPB2:=zh (hx.blk hne2 HPB.out)
  have HFB2:=zh (hx.blk hne0 HFB.out)
  have HI2:=zh (HI1.out.keep hx.size (fun k hk hp=>hx.block k hk hp) (fun _ _ e=>e))
  obtain⟨⟨y0,y1,y2,y3,y4,y5⟩,z0,z1,z2,z3,z4,z5⟩:=f6 HZB2.out
  obtain⟨⟨a0',a1',a2',a3',a4',a5'⟩,b0',b1',b2',b3',b4',b5'⟩:=f6 HPB2.out
  have l1:w.heap.size+1<w2.heap.size:=HZB2.out.lt
  have l2:w.heap.size+1+1<w2.heap.size:=HPB2.out.lt
  clear hx hr2
  clear c2 HNM hS
  go_wp2_with fail
  refine bodyPost_ret (v:=.agg (V.cellsOf (.mk 6 false false .empty S []) (.slice none 0 0))) (by simp[results,Tryz.f70,go_sem,y0,y1,y2,y3,y4,y5,V.cellsOf,V.Pt.kind,V.Pt.yes,V.Pt.neg,V.Pt.mag,V.Pt.raw];try rfl) rfl ?_
  exact .flat (HRZ.out.trans (by rw[← HSS.out];rfl)) rfl ha rfl (put6_other (blk_set HR2.out (Ne.symm hne2) 4 (.string S)) (Ne.symm hne1) _ _ _ _ _ _) HPV.out (put6_xv (HX2.out.set_ (fun h=>by omega) 4 (.string S)) (fun h=>by omega) _ _ _ _ _ _)
theorem payr_bytes {K:Co→ByteArray→List UInt8} {D:Dm} {T:Tm} (t:Addr) (f:Fd) (d:Nat) (hok:OkF d f) (hk:f.kind=3):ReadAt 70 (rdPay K f) D T t f d:=by
 intro hi a0 k0 rb b at_ tn pv lp w hb hat hhi hlp hr hpv ht hfi
 have hlp17:lp.length≤17:=by have:=hok.lt;omega
 obtain⟨m,hm⟩:∃ m,f.fields.length=m:=⟨_,rfl⟩
 have hrl:=hr.lt
 obtain⟨_,_,_,_,ho,_,_,_⟩:=hok
 rw[hm]
 obtain⟨L,hL⟩:∃ L,leftL b at_ tn=L:=⟨_,rfl⟩
 rw[hL]
 have HLL:=zh hL
 have HPV:=zh hpv
 have HI:=zh (own_ints hpv)
 rw[fcells_14,hk]
 generalize hW:((w.alloc (.cells #[.string f.name,.int .u8 3,.bool f.down,.int .u8 f.nulls,.bool f.bnd,.bool f.lob,.string f.lom,.bool f.hib,.string f.him,.int .i64 f.most,.int .i64 f.co.str,.bool f.co.sh,.bool f.co.back,.slice a0 m k0] 79)).alloc (.cells #[.int .u8 0,.bool false,.bool false,.string ⟨#[]⟩,.string ⟨#[]⟩,.slice none 0 0] 57)).alloc (.cells #[.int .u8 3,.bool false,.bool false,.string ⟨#[]⟩,.string ⟨#[]⟩,.slice none 0 0] 57)=w1
 have HB1:=zh (show Below w.heap.size w w1 by rw[← hW];exact((zr.alloc lr _).alloc (by simp) _).alloc (by simp;omega) _)
 obtain⟨W0,hW0⟩:∃ W0,W0=(w.alloc (.cells #[.string f.name,.int .u8 3,.bool f.down,.int .u8 f.nulls,.bool f.bnd,.bool f.lob,.string f.lom,.bool f.hib,.string f.him,.int .i64 f.most,.int .i64 f.co.str,.bool f.co.sh,.bool f.co.back,.slice a0 m k0] 79)).alloc (.cells #[.int .u8 0,.bool false,.bool false,.string ⟨#[]⟩,.string ⟨#[]⟩,.slice none 0 0] 57):=⟨_,rfl⟩
 have hz0:W0.heap.size=w.heap.size+1+1:=by rw[hW0];simp
 have HFB:=zh (show Blk w1 w.heap.size 79 #[.string f.name,.int .u8 3,.bool f.down,.int .u8 f.nulls,.bool f.bnd,.bool f.lob,.string f.lom,.bool f.hib,.string f.him,.int .i64 f.most,.int .i64 f.co.str,.bool f.co.sh,.bool f.co.back,.slice a0 m k0] by
  rw[← hW]
  exact Blk.below (Blk.new _ _ _) ((zr.alloc lr _).alloc (by simp) _) (by simp))
 have HZB:=zh (show Blk w1 (w.heap.size+1) 57 #[.int .u8 0,.bool false,.bool false,.string ⟨#[]⟩,.string ⟨#[]⟩,.slice none 0 0] by
  rw[← hW]
  have:=Blk.new (w.alloc (.cells #[.string f.name,.int .u8 3,.bool f.down,.int .u8 f.nulls,.bool f.bnd,.bool f.lob,.string f.lom,.bool f.hib,.string f.him,.int .i64 f.most,.int .i64 f.co.str,.bool f.co.sh,.bool f.co.back,.slice a0 m k0] 79)) 57 #[.int .u8 0,.bool false,.bool false,.string ⟨#[]⟩,.string ⟨#[]⟩,.slice none 0 0]
  exact Blk.below (by simpa using this) (zr.alloc lr _) (by simp))
 have HPB:=zh (show Blk w1 (w.heap.size+1+1) 57 #[.int .u8 3,.bool false,.bool false,.string ⟨#[]⟩,.string ⟨#[]⟩,.slice none 0 0] by
  rw[← hW,← hW0]
  have:=Blk.new W0 57 #[.int .u8 3,.bool false,.bool false,.string ⟨#[]⟩,.string ⟨#[]⟩,.slice none 0 0]
  rwa [hz0] at this)
 have HR1:=zh (show Rdr w1 rb (.pointer (some t)) b at_ tn pv from Blk.below hr HB1.out hrl)
 have HX1:=zh (Xv.of_below (P:=(· = rb)) HB1.out)
 have HI1:=zh (HI.out.keep HB1.out.size (fun k hk _=>HB1.out.block k hk) (fun _ _ e=>e))
 have hne0:w.heap.size≠rb:=by omega
 have hne1:w.heap.size+1≠rb:=by omega
 have hne2:w.heap.size+1+1≠rb:=by omega
 have c2:w1.cell? ⟨rb,2,none⟩=some (.int .i64 (at_:Int)):=HR1.out.cell 2
 have f1:w1.cell? ⟨w.heap.size,1,none⟩=some (.int .u8 3):=HFB.out.cell 1
 have hRP:rdPay K f L=match rdEsc L with
  | none=>none
  | some (s,r)=>if (s.length:Int)≤f.most∧(f.kind=5→U.checkS ⟨s.toArray⟩<0) then some (.mk f.kind false false .empty ⟨s.toArray⟩ [],r) else none:=by
  unfold rdPay;rw[if_neg (by omega)];unfold rdP;rw[if_neg (by omega),if_neg (by omega),if_neg (by omega),if_neg (by omega)]
  rfl
 rw[hk] at hRP
 have hmo:=(odd_not ho).2.1 (by omega)
 have HNM:=zh (escaped_any rb (.pointer (some t)) b at_ tn pv lp w1 hb hat HR1.out HI1.out hlp17)
 rw[hL] at HNM
 obtain⟨Z,hZ⟩:∃ Z,rdEsc L=Z:=⟨_,rfl⟩
 rw[hZ] at HNM hRP
 have HRP:=zh hRP
 unfold GotPost at HNM
 clear hW0 hz0 hr hpv ht hfi hL hRP hZ
 subst hW
 go_enter func70,ntmps70
 go_wp2_with fail
 refine HNM.out.mono ?_
 intro e w2 hg
 cases Z with
 | none =>
  obtain⟨hf,hx⟩:=hg
  obtain⟨ch,rfl⟩:=hf.form
  go_wp2_with fail
  exact⟨rfl,.no1 HRP.out (hf.low HX1.out.size) (HX1.out.trans hx (fun _ _ e=>e))⟩
 | some x =>
  obtain⟨s,l⟩:=x
  obtain⟨⟨rfl,a,ha,rfl,hr2⟩,hx⟩:=hg
  obtain⟨S,hS⟩:∃ S,(⟨s.toArray⟩:ByteArray)=S:=⟨_,rfl⟩
  obtain⟨M,hM⟩:∃ M,S.size=M:=⟨_,rfl⟩
  have hsl:s.length=M:=by rw[← hM,← hS];rfl
  have HRQ:=zh (show rdPay K f L=if (M:Int)≤f.most∧((3:Nat)=5→U.checkS S<0) then some (.mk 3 false false .empty S [],leftL b a tn) else none by rw[HRP.out,← hsl,← hS])
  rw[hS]
  have HX2:=zh (HX1.out.trans hx (fun _ _ e=>e))
  have HR2:=zh hr2
  have HZB2:=zh (hx.blk hne1 HZB.out)
  have HPB2:=zh (hx.blk hne2 HPB.out)
  have HFB2:=zh (hx.blk hne0 HFB.out)
  have HI2:=zh (HI1.out.keep hx.size (fun k hk hp=>hx.block k hk hp) (fun _ _ e=>e))
  obtain⟨⟨y0,y1,y2,y3,y4,y5⟩,z0,z1,z2,z3,z4,z5⟩:=f6 HZB2.out
  obtain⟨⟨a0',a1',a2',a3',a4',a5'⟩,b0',b1',b2',b3',b4',b5'⟩:=f6 HPB2.out
  have l1:w.heap.size+1<w2.heap.size:=HZB2.out.lt
  have l2:w.heap.size+1+1<w2.heap.size:=HPB2.out.lt
  clear hx hr2
  obtain⟨c0,c1,c2',c3,c4,c5,c6,c7,c8,c9,c10,c11,c12,c13⟩:=f14 HFB2.out
  have HXS:=zh (show Xv (· = rb) w (w2.setCell ⟨w.heap.size+1+1,4,none⟩ (.string S)) from HX2.out.set_ (fun h=>by omega) 4 (.string S))
  have HRS:=zh (show Rdr (w2.setCell ⟨w.heap.size+1+1,4,none⟩ (.string S)) rb (.pointer (some t)) b a tn pv from blk_set HR2.out (Ne.symm hne2) 4 (.string S))
  have HIS:=zh (own_ints (own_rb HPV.out HXS.out))
  have hM4:M≤4194304∨True:=.inr trivial
  have HMM:=zh hM
  clear c2 HNM hS hsl
  by_cases hm:(M:Int)≤f.most
  case neg =>
   have q1:decide (f.most<(M:Int))=true:=decide_eq_true (by omega)
   have HNO:=zh (show rdPay K f L=none by rw[HRQ.out,if_neg (fun e=>hm e.1)])
   have HF:=zh (fail_any rb (.pointer (some t)) b a tn pv lp 124 at_ .nilIface _ HRS.out HIS.out hlp17 (.inl rfl))
   clear hm
   go_wp2_with fail
   refine HF.out.mono ?_
   rintro e w9 ⟨hf,hb9⟩
   obtain⟨ch,rfl⟩:=hf.form
   go_wp2_with fail
   exact⟨rfl,.no1 HNO.out ((hf.low HXS.out.size).to (by omega)) (HXS.out.then hb9)⟩
  have q1:decide (f.most<(M:Int))=false:=decide_eq_false (by omega)
  have HYE:=zh (show rdPay K f L=some (.mk 3 false false .empty S [],leftL b a tn) by rw[HRQ.out,if_pos ⟨hm,fun e=>by cases e⟩])
  clear hm
  go_wp2_with fail
  refine bodyPost_ret (v:=.agg (V.cellsOf (.mk 3 false false .empty S []) (.slice none 0 0))) (by simp[results,Tryz.f70,go_sem,y0,y1,y2,y3,y4,y5,V.cellsOf,V.Pt.kind,V.Pt.yes,V.Pt.neg,V.Pt.mag,V.Pt.raw];try rfl) rfl ?_
  exact .flat HYE.out rfl ha rfl (put6_other HRS.out (Ne.symm hne1) _ _ _ _ _ _) HPV.out (put6_xv HXS.out (fun h=>by omega) _ _ _ _ _ _)
theorem payr_name {K:Co→ByteArray→List UInt8} {D:Dm} {T:Tm} (t:Addr) (f:Fd) (d:Nat) (hok:OkF d f) (hk:f.kind=5):ReadAt 70 (rdPay K f) D T t f d:=by
 intro hi a0 k0 rb b at_ tn pv lp w hb hat hhi hlp hr hpv ht hfi
 have hlp17:lp.length≤17:=by have:=hok.lt;omega
 obtain⟨m,hm⟩:∃ m,f.fields.length=m:=⟨_,rfl⟩
 have hrl:=hr.lt
 obtain⟨_,_,_,_,ho,_,_,_⟩:=hok
 rw[hm]
 obtain⟨L,hL⟩:∃ L,leftL b at_ tn=L:=⟨_,rfl⟩
 rw[hL]
 have HLL:=zh hL
 have HPV:=zh hpv
 have HI:=zh (own_ints hpv)
 rw[fcells_14,hk]
 generalize hW:((w.alloc (.cells #[.string f.name,.int .u8 5,.bool f.down,.int .u8 f.nulls,.bool f.bnd,.bool f.lob,.string f.lom,.bool f.hib,.string f.him,.int .i64 f.most,.int .i64 f.co.str,.bool f.co.sh,.bool f.co.back,.slice a0 m k0] 79)).alloc (.cells #[.int .u8 0,.bool false,.bool false,.string ⟨#[]⟩,.string ⟨#[]⟩,.slice none 0 0] 57)).alloc (.cells #[.int .u8 5,.bool false,.bool false,.string ⟨#[]⟩,.string ⟨#[]⟩,.slice none 0 0] 57)=w1
 have HB1:=zh (show Below w.heap.size w w1 by rw[← hW];exact((zr.alloc lr _).alloc (by simp) _).alloc (by simp;omega) _)
 obtain⟨W0,hW0⟩:∃ W0,W0=(w.alloc (.cells #[.string f.name,.int .u8 5,.bool f.down,.int .u8 f.nulls,.bool f.bnd,.bool f.lob,.string f.lom,.bool f.hib,.string f.him,.int .i64 f.most,.int .i64 f.co.str,.bool f.co.sh,.bool f.co.back,.slice a0 m k0] 79)).alloc (.cells #[.int .u8 0,.bool false,.bool false,.string ⟨#[]⟩,.string ⟨#[]⟩,.slice none 0 0] 57):=⟨_,rfl⟩
 have hz0:W0.heap.size=w.heap.size+1+1:=by rw[hW0];simp
 have HFB:=zh (show Blk w1 w.heap.size 79 #[.string f.name,.int .u8 5,.bool f.down,.int .u8 f.nulls,.bool f.bnd,.bool f.lob,.string f.lom,.bool f.hib,.string f.him,.int .i64 f.most,.int .i64 f.co.str,.bool f.co.sh,.bool f.co.back,.slice a0 m k0] by
  rw[← hW]
  exact Blk.below (Blk.new _ _ _) ((zr.alloc lr _).alloc (by simp) _) (by simp))
 have HZB:=zh (show Blk w1 (w.heap.size+1) 57 #[.int .u8 0,.bool false,.bool false,.string ⟨#[]⟩,.string ⟨#[]⟩,.slice none 0 0] by
  rw[← hW]
  have:=Blk.new (w.alloc (.cells #[.string f.name,.int .u8 5,.bool f.down,.int .u8 f.nulls,.bool f.bnd,.bool f.lob,.string f.lom,.bool f.hib,.string f.him,.int .i64 f.most,.int .i64 f.co.str,.bool f.co.sh,.bool f.co.back,.slice a0 m k0] 79)) 57 #[.int .u8 0,.bool false,.bool false,.string ⟨#[]⟩,.string ⟨#[]⟩,.slice none 0 0]
  exact Blk.below (by simpa using this) (zr.alloc lr _) (by simp))
 have HPB:=zh (show Blk w1 (w.heap.size+1+1) 57 #[.int .u8 5,.bool false,.bool false,.string ⟨#[]⟩,.string ⟨#[]⟩,.slice none 0 0] by
  rw[← hW,← hW0]
  have:=Blk.new W0 57 #[.int .u8 5,.bool false,.bool false,.string ⟨#[]⟩,.string ⟨#[]⟩,.slice none 0 0]
  rwa [hz0] at this)
 have HR1:=zh (show Rdr w1 rb (.pointer (some t)) b at_ tn pv from Blk.below hr HB1.out hrl)
 have HX1:=zh (Xv.of_below (P:=(· = rb)) HB1.out)
 have HI1:=zh (HI.out.keep HB1.out.size (fun k hk _=>HB1.out.block k hk) (fun _ _ e=>e))
 have hne0:w.heap.size≠rb:=by omega
 have hne1:w.heap.size+1≠rb:=by omega
 have hne2:w.heap.size+1+1≠rb:=by omega
 have c2:w1.cell? ⟨rb,2,none⟩=some (.int .i64 (at_:Int)):=HR1.out.cell 2
 have f1:w1.cell? ⟨w.heap.size,1,none⟩=some (.int .u8 5):=HFB.out.cell 1
 have hRP:rdPay K f L=match rdEsc L with
  | none=>none
  | some (s,r)=>if (s.length:Int)≤f.most∧(f.kind=5→U.checkS ⟨s.toArray⟩<0) then some (.mk f.kind false false .empty ⟨s.toArray⟩ [],r) else none:=by
  unfold rdPay;rw[if_neg (by omega)];unfold rdP;rw[if_neg (by omega),if_neg (by omega),if_neg (by omega),if_neg (by omega)]
  rfl
 rw[hk] at hRP
 have hmo:=(odd_not ho).2.1 (by omega)
 have HNM:=zh (escaped_any rb (.pointer (some t)) b at_ tn pv lp w1 hb hat HR1.out HI1.out hlp17)
 rw[hL] at HNM
 obtain⟨Z,hZ⟩:∃ Z,rdEsc L=Z:=⟨_,rfl⟩
 rw[hZ] at HNM hRP
 have HRP:=zh hRP
 unfold GotPost at HNM
 clear hW0 hz0 hr hpv ht hfi hL hRP hZ
 subst hW
 go_enter func70,ntmps70
 go_wp2_with fail
 refine HNM.out.mono ?_
 intro e w2 hg
 cases Z with
 | none =>
  obtain⟨hf,hx⟩:=hg
  obtain⟨ch,rfl⟩:=hf.form
  go_wp2_with fail
  exact⟨rfl,.no1 HRP.out (hf.low HX1.out.size) (HX1.out.trans hx (fun _ _ e=>e))⟩
 | some x =>
  obtain⟨s,l⟩:=x
  obtain⟨⟨rfl,a,ha,rfl,hr2⟩,hx⟩:=hg
  obtain⟨S,hS⟩:∃ S,(⟨s.toArray⟩:ByteArray)=S:=⟨_,rfl⟩
  obtain⟨M,hM⟩:∃ M,S.size=M:=⟨_,rfl⟩
  have hsl:s.length=M:=by rw[← hM,← hS];rfl
  have HRQ:=zh (show rdPay K f L=if (M:Int)≤f.most∧(True→U.checkS S<0) then some (.mk 5 false false .empty S [],leftL b a tn) else none by rw[HRP.out,← hsl,← hS])
  rw[hS]
  have HX2:=zh (HX1.out.trans hx (fun _ _ e=>e))
  have HR2:=zh hr2
  have HZB2:=zh (hx.blk hne1 HZB.out)
  have HPB2:=zh (hx.blk hne2 HPB.out)
  have HFB2:=zh (hx.blk hne0 HFB.out)
  have HI2:=zh (HI1.out.keep hx.size (fun k hk hp=>hx.block k hk hp) (fun _ _ e=>e))
  obtain⟨⟨y0,y1,y2,y3,y4,y5⟩,z0,z1,z2,z3,z4,z5⟩:=f6 HZB2.out
  obtain⟨⟨a0',a1',a2',a3',a4',a5'⟩,b0',b1',b2',b3',b4',b5'⟩:=f6 HPB2.out
  have l1:w.heap.size+1<w2.heap.size:=HZB2.out.lt
  have l2:w.heap.size+1+1<w2.heap.size:=HPB2.out.lt
  clear hx hr2
  obtain⟨c0,c1,c2',c3,c4,c5,c6,c7,c8,c9,c10,c11,c12,c13⟩:=f14 HFB2.out
  have HXS:=zh (show Xv (· = rb) w (w2.setCell ⟨w.heap.size+1+1,4,none⟩ (.string S)) from HX2.out.set_ (fun h=>by omega) 4 (.string S))
  have HRS:=zh (show Rdr (w2.setCell ⟨w.heap.size+1+1,4,none⟩ (.string S)) rb (.pointer (some t)) b a tn pv from blk_set HR2.out (Ne.symm hne2) 4 (.string S))
  have HIS:=zh (own_ints (own_rb HPV.out HXS.out))
  have hM4:M≤4194304∨True:=.inr trivial
  have HMM:=zh hM
  clear c2 HNM hS hsl
  by_cases hm:(M:Int)≤f.most
  case neg =>
   have q1:decide (f.most<(M:Int))=true:=decide_eq_true (by omega)
   have HNO:=zh (show rdPay K f L=none by rw[HRQ.out,if_neg (fun e=>hm e.1)])
   have HF:=zh (fail_any rb (.pointer (some t)) b a tn pv lp 124 at_ .nilIface _ HRS.out HIS.out hlp17 (.inl rfl))
   clear hm
   go_wp2_with fail
   refine HF.out.mono ?_
   rintro e w9 ⟨hf,hb9⟩
   obtain⟨ch,rfl⟩:=hf.form
   go_wp2_with fail
   exact⟨rfl,.no1 HNO.out ((hf.low HXS.out.size).to (by omega)) (HXS.out.then hb9)⟩
  have q1:decide (f.most<(M:Int))=false:=decide_eq_false (by omega)
  have HCK:=zh (fun w=>U.Check_any S (by omega) w)
  obtain⟨C,hC⟩:∃ C,U.checkS S=C:=⟨_,rfl⟩
  rw[hC] at HCK HRQ
  clear hC
  go_wp2_with fail
  refine(HCK.out _).mono ?_
  rintro e w3 ⟨rfl,hb3⟩
  have HX3:=zh (HXS.out.then hb3)
  have HR3:=zh (show Rdr w3 rb (.pointer (some t)) b a tn pv from Blk.below HRS.out hb3 HRS.out.lt)
  have HI3:=zh (own_ints (own_rb HPV.out HX3.out))
  have hZ3:=Blk.below (blk_set HZB2.out (show w.heap.size+1≠w.heap.size+1+1 by omega) 4 (.string S)) hb3 (blk_set HZB2.out (show w.heap.size+1≠w.heap.size+1+1 by omega) 4 (.string S)).lt
  have hP3:=Blk.below (HPB2.out.set_ 4 (.string S)) hb3 (HPB2.out.set_ 4 (.string S)).lt
  simp at hP3
  obtain⟨⟨t0,t1,t2,t3,t4,t5⟩,u0,u1,u2,u3,u4,u5⟩:=f6 hZ3
  obtain⟨⟨v0,v1,v2,v3,v4,v5⟩,_⟩:=f6 hP3
  have l3:w.heap.size+1<w3.heap.size:=hZ3.lt
  clear hZ3 hP3 hb3
  by_cases hck:C<0
  case neg =>
   have q4:decide ((0:Int)≤C)=true:=decide_eq_true (by omega)
   have HNO:=zh (show rdPay K f L=none by rw[HRQ.out,if_neg (fun e=>hck (e.2 trivial))])
   have HF:=zh (fail_any rb (.pointer (some t)) b a tn pv lp 125 at_ (.iface 41 (.int .i64 30)) w3 HR3.out HI3.out hlp17 (.inr ⟨_,_,rfl⟩))
   clear hck
   go_wp2_with fail
   refine HF.out.mono ?_
   rintro e w9 ⟨hf,hb9⟩
   obtain⟨ch,rfl⟩:=hf.form
   go_wp2_with fail
   exact⟨rfl,.no1 HNO.out ((hf.low HX3.out.size).to (by omega)) (HX3.out.then hb9)⟩
  have q4:decide ((0:Int)≤C)=false:=decide_eq_false (by omega)
  have HYE:=zh (show rdPay K f L=some (.mk 5 false false .empty S [],leftL b a tn) by rw[HRQ.out,if_pos ⟨hm,fun _=>hck⟩])
  clear hm hck
  go_wp2_with fail
  refine bodyPost_ret (v:=.agg (V.cellsOf (.mk 5 false false .empty S []) (.slice none 0 0))) (by simp[results,Tryz.f70,go_sem,t0,t1,t2,t3,t4,t5,V.cellsOf,V.Pt.kind,V.Pt.yes,V.Pt.neg,V.Pt.mag,V.Pt.raw];try rfl) rfl ?_
  exact .flat HYE.out rfl ha rfl (put6_other HR3.out (Ne.symm hne1) _ _ _ _ _ _) HPV.out (put6_xv HX3.out (fun h=>by omega) _ _ _ _ _ _)
