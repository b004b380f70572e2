import Derived.Test.YtcgnajeenflfaaaGreatDoorP39
import Derived.Test.YtcgnajeenflfaaaGreatDoorP42
set_option maxRecDepth 100000
set_option maxHeartbeats 4000000
set_option linter.all false
open Go.Proofs.Tryz Go.RowKit
namespace Go.Proofs.YtcgnajeenflfaaaGreatDoor
namespace Rk
open V
def xE (r:Option Pt) (w:World) (e:Ending) (w':World):Prop :=
 (match r with
  | some q=>∃ u,e=.returned (.tuple #[u,.nilIface])∧VI w' 0 w'.heap.size q u
  | none=>∃ fb:Nat,e=.returned (.tuple #[.nilIface,.iface 39 (.pointer (some ⟨fb,0,none⟩))]))∧Below w.heap.size w w'
theorem xE.yes {r:Option Pt} {q:Pt} {u:Value} {w w':World} (h:r=some q) (hv:VI w' 0 w'.heap.size q u) (hb:Below w.heap.size w w'):xE r w (.returned (.tuple #[u,.nilIface])) w':=by
 rw[h];exact⟨⟨u,rfl,hv⟩,hb⟩
theorem xE.no {r:Option Pt} {fb:Nat} {w w':World} (h:r=none) (hb:Below w.heap.size w w'):xE r w (.returned (.tuple #[.nilIface,.iface 39 (.pointer (some ⟨fb,0,none⟩))])) w':=by
 rw[h];exact⟨⟨fb,rfl⟩,hb⟩
theorem bHz (w:World) (u:Value) (T:TypeId):aV 1 (w.alloc (.cells #[u] T)) w.heap.size (w.heap.size+1) (.slice (some ⟨w.heap.size,0,none⟩) 1 1) 1 [u]:=aV.lit w T #[u] 1 1 rfl
theorem aRo (L:List (Int×Pt)) (a0:Option Addr) (k0:Nat) (p:Pt) (v:Value) (w:World) (hl:L.length≤140737488351232) (h7:p.kind=7) (hm:aL p=true) (hd:aW p≤16) (hv:VI w 0 w.heap.size p v)
 (hs:nC w 0 w.heap.size L (.slice a0 L.length k0)) (hg:xD w) (hG:w.cell? ⟨1,0,none⟩=some (.iface 197 (.agg #[.pointer (some ⟨11,36,none⟩)]))) :
 Calls prog 14 #[.slice a0 L.length k0,v] w (xE (mapM L p) w):=by
 obtain⟨av,cv,F,rfl,_,_⟩:=vi7 hv h7;have HIT:=zh (fun (i:Nat) (h:i<L.length) (qv:Value) (w':World) (hb:Below w.heap.size w w') (hf:Fit L[i].2) (hq:PI w' 0 w'.heap.size L[i].2.items qv) =>
  bAh p _ L[i].1 L[i].2 qv w.heap.size w' h7 hm hb.size (hv.same (Same.of_below hb lr)) hf hq (hg.later hb))
 have aPr:=zh (fun (f:Int) (q r:Pt) (h:nA p f q=some r)=>aFt hm hd h7 h);have HS:=zh hs;have HG:=zh hG;obtain⟨m,hlm⟩:∃ m,L.length=m:=⟨_,rfl⟩
 have HM:=zh hlm;obtain⟨n,hn⟩:∃ n,p.items.length=n:=⟨_,rfl⟩
 rw[hn] at HIT ⊢;rw[hlm] at hl ⊢;obtain⟨R,hR⟩:∃ R,mapM L p=R:=⟨_,rfl⟩
 have HR:=zh hR;rw[hR];clear hv hs hg hG hlm hn hR h7 hm hd;go_enter func14,ntmps14;go_wp2_with fail;refine(bAe _ _).mono ?_;rintro e w1 ⟨rfl,hb1⟩;have HB1:=zh hb1;clear hb1;by_cases hbig:1024<m
 · have q1:decide ((1024:Int)<(m:Int))=true:=decide_eq_true (by omega);go_wp2_with fail;refine bodyPost_ret (v:=.tuple #[.nilIface,.iface 39 (.pointer (some ⟨w1.heap.size,0,none⟩))]) (by simp[results,Tryz.f14]) rfl ?_;exact .no (by rw[← HR.out,mapM,if_neg (by rw[HM.out];omega)]) (HB1.out.alloc HB1.out.size _)
 have q1:decide ((1024:Int)<(m:Int))=false:=decide_eq_false (by omega);have HRR:=zh (show R=(gJ p L).map (.mk 7 false false .empty .empty ·) by rw[← HR.out,mapM,if_pos (by rw[HM.out];omega)]);go_wp2_with fail;go_loopw [8,33] (fun rv iv wr=>∃ (i:Nat) (ps:List Pt) (us:List Value),i≤m∧iv=.int .i64 (i:Int)∧ps.length=i∧Hid (wr.ownsRow w.heap.size 34 1 rv i us)∧Hid (pE wr 0 rv.ownBlock ps us)∧Hid (Below w.heap.size w wr) ∧
  Hid (gJ p L=(gJ p (L.drop i)).map (ps++·))∧Hid (∀ q∈ps,aL q=true∧aW q≤15)∧Hid (i=0→rv=.slice none 0 0)) (fun _ iv _=>m-(intOf iv).toNat)
 case atStart=>exact⟨0,[],[],Nat.zero_le _,rfl,rfl,zh (World.ownsRow_nil _ _ _ _),zh (pE.nil _ _ _),zh HB1.out,zh (by rw[List.drop_zero];cases gJ p L<;>simp),zh (fun p hp=>by cases hp),zh (fun _=>rfl)⟩
 case round =>
  obtain⟨i,ps,us,hi2,rfl,hpl,uY,HVw,vY,qN,HMY,HNE⟩:=hrel;obtain⟨ra,rc,rfl⟩:=aP uY.out;by_cases hlt:i<m
  · have q2:decide ((i:Int)<(m:Int))=true:=decide_eq_true (by omega);have hiL:i<L.length:=by rw[HM.out];exact hlt
    have bAo:=zh (aLj hiL qN.out);obtain⟨a',c',he,hc,hat⟩:=HS.out.later vY.out;injection he with e1 e2 e3
    subst e1 e3;obtain⟨b,off,uu,rfl,_,hbh,hc0,hpc,hfit,hpi⟩:=hat i hiL;have bIa:=zh (HIT.out i hiL uu);obtain⟨f,hf⟩:∃ f,L[i].1=f:=⟨_,rfl⟩
    obtain⟨q,hq⟩:∃ q,L[i].2=q:=⟨_,rfl⟩
    rw[hf,hq] at bAo bIa;rw[hf] at hc0;rw[hq] at hpc hfit hpi;obtain⟨a2,cap2,rfl,_,_⟩:=hpi.open;have HPI:=zh hpi;have HFT:=zh hfit;obtain⟨m2,hm2⟩:∃ m2,q.items.length=m2:=⟨_,rfl⟩
    have d1:wr.cell? ⟨b,off+i*7+1,none⟩=some (.int .u8 q.kind):=hpc.c0;have d2:wr.cell? ⟨b,off+i*7+2,none⟩=some (.bool q.yes):=hpc.c1;have d3:wr.cell? ⟨b,off+i*7+3,none⟩=some (.bool q.neg):=hpc.c2;have d4:wr.cell? ⟨b,off+i*7+4,none⟩=some (.string q.mag):=hpc.c3;have d5:wr.cell? ⟨b,off+i*7+5,none⟩=some (.string q.raw):=hpc.c4;have d6:wr.cell? ⟨b,off+i*7+6,none⟩=some (.slice a2 q.items.length cap2):=hpc.c5;have qs:(i:Int)≤(k0:Int):=by rw[HM.out] at hc;omega
    rw[hm2] at d6 bIa HPI;have hb3:Below wr.heap.size wr (wr.alloc (.cells #[.int .i64 f,.int .u8 q.kind,.bool q.yes,.bool q.neg,.string q.mag,.string q.raw,.slice a2 m2 cap2] 59)):=zr.alloc lr _;have HB3:=zh (vY.out.trans (hb3.mono vY.out.size));have bMh:=zh (bIa.out _ HB3.out HFT.out (HPI.out.later hb3));have zR:=zh (own_below uY.out hb3);have HV3:=zh (HVw.out.below hb3);clear hat hpc hfit hpi hf hq hm2 hc hb3;go_wp2_with fail;refine bMh.out.mono ?_;intro e w4 hit;cases hI:nA p f q with
    | none =>
     rw[hI] at hit;obtain⟨⟨er,rfl,her⟩,hb4⟩:=hit;have dJ:=zh (HB3.out.trans (hb4.mono HB3.out.size));have kZ:=zh (show R=none by rw[HRR.out,bAo.out.1 hI];rfl);have HW:=zh (bDw er w4 her (keeps dJ.out HG.out));clear hb4 hI d1 d2 d3 d4 d5 d6 hc0;rcases her with ⟨en,rfl⟩ | ⟨eu,rfl⟩
     all_goals
      go_wp2_with fail;refine HW.out.mono ?_;rintro e w5 ⟨⟨x,rfl,hx⟩,hb5⟩;have lJ:=zh (dJ.out.trans (hb5.mono dJ.out.size));clear hb5;rcases hx with rfl | ⟨xT,xV,rfl⟩
      all_goals
       go_wp2_with fail;refine bodyPost_ret (v:=.tuple #[.nilIface,.iface 39 (.pointer (some ⟨w5.heap.size,0,none⟩))]) (by simp[results,Tryz.f14]) rfl ?_;exact .no kZ.out (lJ.out.alloc lJ.out.size _)
    | some r =>
     rw[hI] at hit;obtain⟨⟨u,lo,hi,rfl,oW,hih,hlo⟩,hb4⟩:=hit;have dJ:=zh (HB3.out.trans (hb4.mono HB3.out.size));have HVI:=zh oW;have HHI:=zh hih;have HO4:=zh (own_below zR.out hb4);have HV4:=zh (HV3.out.below hb4);have HMR:=zh (aPr.out f q r hI);have bMi:=zh (bAo.out.2 r hI);have bUb:=zh (show ∀ k,(Value.slice ra i rc).ownBlock=some k→k<lo∨hi≤k from fun k hk=>by
      have h1:=World.ownsRow.lt uY.out k hk;rcases hlo with h | h
      · exact .inr (by omega)
      · exact .inl (by simp at h;omega))
     have hvs:u=.nilIface∨∃ T V,u=.iface T V:=by
      by_cases h0:r.kind=0
      · exact .inl (oW.mP h0)
      · obtain⟨T,V,_,h,_⟩:=oW.kindOf h0;exact .inr ⟨T,V,h⟩
     have HU1:=zh (VI.one oW);clear oW hih hlo hb4 hI d1 d2 d3 d4 d5 d6 hc0;rcases hvs with rfl | ⟨U2,V2,rfl⟩
     all_goals
      have hus:=fun (x:Value)=>bHz w4 x 34
      go_wp2_with (at_builtin;refine aO rfl (.tmp 52) (.tmp 54) 74 rfl 34 .nilIface 1 16 underlying74 aRk rfl (by decide) rfl (HO4.out.alloc _) rfl (hus _) (fun y hy=>by rw[List.mem_singleton.1 hy];rfl) (by omega) (by decide) (by simp;have:=dJ.out.size;omega) ?_;intro c9 nE w9 qY nD jM);obtain⟨g9,bIb⟩:∃ g,c9=some ⟨g,0,none⟩:=by
       rcases qY.2 with ⟨he,h0⟩ | ⟨g,_,_,he,_⟩
       · omega
       · injection he with he _ _
         exact⟨g,he⟩
      subst bIb;have hba:∀ o,Below w4.heap.size w4 (w4.alloc o):=fun o=>zr.alloc lr o
      have hV9:=pE.snoc (HV4.out.below (hba _)) (HVI.out.same (Same.of_below (hba _) HHI.out)) (Nat.zero_le _) (Nat.le_trans HHI.out (hba _).size) bUb.out nD (jM.imp (fun e=>e.symm) (fun e=>Nat.le_of_eq (Option.some.inj e).symm));have uJ:=(dJ.out.alloc dJ.out.size _).grown nD (by simp;have:=dJ.out.size;omega) (fun k hk=>(World.ownsRow.lt HO4.out k hk).1);exact⟨⟨i+1,ps++[r],us++[_],by omega,by simp,by simp[hpl],zh qY,zh hV9,zh uJ,bMi,zh (fun y hy=>by
       rcases List.mem_append.1 hy with hy | hy
       · exact HMY.out y hy
       · rw[List.mem_singleton.1 hy];exact HMR.out),zh (fun h=>absurd h (by omega))⟩,by simp[intOf];omega⟩
  · obtain rfl:i=m:=by omega
    have q2:decide ((i:Int)<(i:Int))=false:=decide_eq_false (by omega);have HYE:=zh (show R=some (.mk 7 false false .empty .empty ps) by
     rw[HRR.out,qN.out,show L.drop i=[] by rw[← HM.out,List.drop_length]];simp[gJ])
    have hE0:ofE ps=0:=by
     rcases zF ps with ⟨h,_⟩ | ⟨_,h,_⟩ | ⟨_,_,h⟩
     · omega
     · obtain⟨q,hq,hd⟩:=aRm.1 h;have:=(HMY.out q hq).2;omega
     · exact h
    have HE0:=zh hE0;have HOF:=zh (bAj ps us (.slice ra i rc) wr w.heap.size (by rw[hpl];exact uY.out) (by omega) (fun h=>HNE.out (by rw[h] at hpl;simpa using hpl.symm)) (fun j hj=>by
     obtain⟨u,lo,hi,h1,h2,h3,h4,_⟩:=HVw.out.2 j hj;have h5:=HMY.out ps[j] (List.getElem_mem hj);exact⟨u,h1,h2.wide (Nat.zero_le _) h4,h5.1,by omega⟩))
    clear hE0;go_wp2_with fail;refine HOF.out.mono ?_;rintro e w2 ⟨tv,rfl,-,hof,hb2⟩;obtain⟨ta,bAp,rfl,hcap,hcells⟩:=hof HE0.out;rw[HE0.out];have HCE:=zh hcells;have HB2:=zh hb2;have HCP:=zh hcap;clear hof hcells hb2 hcap;go_wp2_with fail;refine bodyPost_ret (v:=.tuple #[.iface 118 (.agg #[.slice ta ps.length bAp]),.nilIface]) (by simp[results,Tryz.f14,hpl]) rfl ?_;refine .yes HYE.out (VI.tuple (.mk 7 false false .empty .empty ps) rfl ta bAp (fun j=>us.getD j .nilIface) HCP.out (fun j hj=>?_) (fun j hj=>?_)) (vY.out.trans (HB2.out.mono vY.out.size))
    · obtain⟨g,u,h1,h2,h3,h4,h5⟩:=HCE.out j hj;refine⟨g,h1,Nat.zero_le _,h3,?_⟩;rw[h5,List.getD_eq_getElem?_getD,h4];rfl
    · obtain⟨u,lo,hi,h1,h2,h3,h4,_⟩:=HVw.out.2 j hj;show VI w2 0 w2.heap.size ps[j] (us.getD j .nilIface)
      rw[List.getD_eq_getElem?_getD,h1];exact(h2.same (Same.of_below HB2.out h4)).wide (Nat.zero_le _) (Nat.le_trans h4 HB2.out.size)
end Rk
namespace Lo
open D (aF)
open Ta (El ev iI aBn nT bL gI bI kW aMz aJm kV nN aY)
theorem aVn (s:ByteArray):(aMz s).size≤s.size∧(aJm s).size≤s.size:=by
 obtain⟨⟨l⟩⟩:=s;unfold aMz aJm;show (Lib.cut l [59]).1.toArray.size≤l.toArray.size∧(Lib.cut l [59]).2.1.toArray.size≤l.toArray.size
 unfold Lib.cut;split
 · simp;omega
 · simp
def aRp (s:ByteArray) (w:World) (e:Ending) (w':World):Prop :=
 (∃ (a1 a2:Option Addr) (n1 c1 n2 c2:Nat) (b:Bool),e=.returned (.tuple #[.agg #[.slice a1 n1 c1,.slice a2 n2 c2],.bool b]) ∧
  (b=true→IntsIn w' w.heap.size w'.heap.size (.slice a1 n1 c1) (kV s)∧(kV s).length≤8∧1≤(kV s).length∧(∀ x∈kV s,aY x=true)∧(nN s).length≤16∧aV 4 w' w.heap.size w'.heap.size (.slice a2 n2 c2) (nN s).length (ev (nN s))))∧Below w.heap.size w w'
theorem pO {s:ByteArray} {w F:World} {tmps:Array Value} {b:Bool} {a1 a2:Option Addr} {n1 c1 n2 c2:Nat} (hb:aC F w.heap.size 172 #[.slice a1 n1 c1,.slice a2 n2 c2]) (h2:tmps.getD 2 undef=.pointer (some ⟨w.heap.size,0,none⟩)) (h3:tmps.getD 3 undef=.bool b)
 (hp:b=true→IntsIn F w.heap.size F.heap.size (.slice a1 n1 c1) (kV s)∧(kV s).length≤8∧1≤(kV s).length∧(∀ x∈kV s,aY x=true)∧(nN s).length≤16∧aV 4 F w.heap.size F.heap.size (.slice a2 n2 c2) (nN s).length (ev (nN s)))
 (hB:Below w.heap.size w F):bodyPost prog Tryz.f63 (aRp s w) Exit.ret { tmps:=tmps,defers:=[] } F:=by
 have f0:=hb.cell 0;have f1:=hb.cell 1;simp at f0 f1;simp only [Array.getD_eq_getD_getElem?] at h2 h3;exact bodyPost_ret (v:=.tuple #[.agg #[.slice a1 n1 c1,.slice a2 n2 c2],.bool b]) (by simp[results,Tryz.f63,Tryz.results63,go_sem,h2,h3,f0,f1]) rfl ⟨⟨a1,a2,n1,c1,n2,c2,b,rfl,hp⟩,hB⟩
theorem uF {P:Program} {c:Code} {Q:Exit→Act→World→Prop} {a:Act} {w:World} {A:Act} {W:World} (h:c.wp P (fun e a' w'=>e=.normal∧a'=A∧w'=W) a w) (hk:Q .normal A W):c.wp P Q a w :=
 wp_mono h fun e a' w' ⟨h1,h2,h3⟩=>by subst h1 h2 h3;exact hk
theorem bEd {w w':World} {lo hi:Nat} {v:Value} {l:List Int} (h:IntsIn w lo hi v l) (hk:∀ k,lo≤k→k<hi→w'.heap[k]?=w.heap[k]?):IntsIn w' lo hi v l:=by
 obtain⟨a,cap,rfl,hc,hn,hcells⟩:=h;exact⟨a,cap,rfl,hc,hn,fun j hj=>by obtain⟨g,off,ha,h3,h4,h5⟩:=hcells j hj;exact⟨g,off,ha,h3,h4,(World.cell?_of_block (a:=⟨g,off+j,none⟩) (hk g h3 h4)).trans h5⟩⟩
theorem bAq {size n:Nat} {w w':World} {lo hi:Nat} {v:Value} {xs:List Value} (h:aV size w lo hi v n xs) (hk:∀ k,lo≤k→k<hi→w'.heap[k]?=w.heap[k]?):aV size w' lo hi v n xs:=by
 obtain⟨hl,a,cap,rfl,hc,hn,hcells⟩:=h;exact⟨hl,a,cap,rfl,hc,hn,fun j hj=>by obtain⟨g,off,ha,h3,h4,h5⟩:=hcells j hj;exact⟨g,off,ha,h3,h4,(World.cell?_of_block (a:=⟨g,off+j,none⟩) (hk g h3 h4)).trans h5⟩⟩
theorem aFx {w4 w5:World} {base M j vc:Nat} {va:Option Addr} {ps:List Int} {y:Int} {t1:TypeId} {cs:Array Value} (qZ:w4.ownsRow base 3 1 (.slice va j vc) j (nv ps)) (hg5:(w4.alloc (.cells #[.int .i64 y] 3)).grownBy w5 (Value.slice va j vc).ownBlock) (h:aC w4 M t1 cs) (hMb:M<base):aC w5 M t1 cs :=
 (hg5.block M (by have:=h.lt;simp;omega) (fun e=>by have:=(World.ownsRow.lt qZ M e.symm).1;omega)).trans (aC.below h (zr.alloc lr _) h.lt)
theorem bAr {w wr w4 w5:World} {base M C j vc cap5:Nat} {va g5:Option Addr} {ps:List Int} {y:Int} {x:Value} {ST RT:Array Value} {t1 t2 t3:TypeId} {old:Value}
 (hx5:Below wr.heap.size wr w4) (hg5:(w4.alloc (.cells #[.int .i64 y] 3)).grownBy w5 (Value.slice va j vc).ownBlock) (qZ:w4.ownsRow base 3 1 (.slice va j vc) j (nv ps))
 (hO6:w5.ownsRow base 3 1 (.slice g5 (j+1) cap5) (j+1) (nv ps++[.int .i64 y])) (hps:ps.length=j) (hM5:aC w5 M t1 #[old,x]) (hMb:M<base) (hCb:C<base) (hwM:w.heap.size<M) (hCM:C≠M) (hbs:base≤wr.heap.size)
 (HC:aC wr C t2 ST) (HR:aC wr w.heap.size t3 RT) (HB:Below w.heap.size w wr) :
 aC (w5.setCell ⟨M,0,none⟩ (.slice g5 (j+1) cap5)) M t1 #[.slice g5 (j+1) cap5,x]∧aJ (w5.setCell ⟨M,0,none⟩ (.slice g5 (j+1) cap5)) base (.slice g5 (j+1) cap5) (ps++[y]) ∧
 aC (w5.setCell ⟨M,0,none⟩ (.slice g5 (j+1) cap5)) C t2 ST∧aC (w5.setCell ⟨M,0,none⟩ (.slice g5 (j+1) cap5)) w.heap.size t3 RT ∧
 Below w.heap.size w (w5.setCell ⟨M,0,none⟩ (.slice g5 (j+1) cap5))∧base≤(w5.setCell ⟨M,0,none⟩ (.slice g5 (j+1) cap5)).heap.size:=by
 have hs:=hx5.size;have hs2:=hg5.size;rw[World.size_alloc] at hs2;have bAm:∀ {k:Nat} {t:TypeId} {cs:Array Value},aC wr k t cs→k<base→k≠M→aC (w5.setCell ⟨M,0,none⟩ (.slice g5 (j+1) cap5)) k t cs:=fun {k t cs} h hk hne =>
  Sc.bC (aFx qZ hg5 (aC.below h hx5 h.lt) hk) hne 0 _
 have hb4:Below w.heap.size w (w4.alloc (.cells #[.int .i64 y] 3)):=(HB.trans (hx5.mono HB.size)).alloc (by have:=HB.size;omega) _;refine⟨by simpa using hM5.aU 0 (.slice g5 (j+1) cap5),?_,bAm HC hCb hCM,bAm HR (by omega) (by omega),(hb4.grown hg5 hb4.size (fun k e=>by have:=(World.ownsRow.lt qZ k e).1;omega)).setCell (p:=⟨M,0,none⟩) (by show w.heap.size≤M;omega) _,by simp;omega⟩;have:=ownsRow_setCell_below hO6 (a:=⟨M,0,none⟩) hMb (.slice g5 (j+1) cap5);unfold aJ;rw[List.length_append,hps,← fP];exact this
theorem aVo (s:ByteArray) (hs:s.size≤65536) (w:World) (hg:GLd w):Calls prog 63 #[.string s] w (aRp s w):=by
 obtain⟨W0,hW0⟩:∃ W0,w.alloc (.cells #[.slice none 0 0,.slice none 0 0] 172)=W0:=⟨_,rfl⟩
 have hb0:Below w.heap.size w W0:=by rw[← hW0];exact zr.alloc lr _
 have HG:=zh hg;have HR:aC W0 w.heap.size 172 #[.slice none 0 0,.slice none 0 0]:=by rw[← hW0];exact aC.new _ _ _
 have HR:=zh HR;have HB0:=zh hb0;have HW0:=zh hW0;have HC:=zh (bDm s (by omega) W0 (hg.later hb0));have hcs:=aVn s;obtain⟨p,hp⟩:∃ p,aMz s=p:=⟨_,rfl⟩
 obtain⟨q,hq⟩:∃ q,aJm s=q:=⟨_,rfl⟩
 rw[hp,hq] at hcs HC;have HPQ:=zh (And.intro hp hq);obtain⟨hps,hqs⟩:=hcs;clear hg hb0 hW0 hp hq;go_enter func63,ntmps63;go_wp2_with fail;rw[HW0.out];refine HC.out.mono ?_;rintro e w1 ⟨b,rfl,hb1⟩;have HB1:=zh (HB0.out.trans (hb1.mono HB0.out.size));have HR1:=zh (aC.below HR.out hb1 HR.out.lt);clear hb1;cases b with
 | false =>
  have r0:w1.cell? ⟨w.heap.size,0,none⟩=some (.slice none 0 0):=by simpa using HR1.out.cell 0
  have r1:w1.cell? ⟨w.heap.size,1,none⟩=some (.slice none 0 0):=by simpa using HR1.out.cell 1
  have y0:=HR1.out.frozen 0;have y1:=HR1.out.frozen 1;have HF:=zh (show aC ((w1.setCell ⟨w.heap.size,0,none⟩ (.slice none 0 0)).setCell ⟨w.heap.size,1,none⟩ (.slice none 0 0)) w.heap.size 172 #[.slice none 0 0,.slice none 0 0] by simpa using (HR1.out.aU 0 (.slice none 0 0)).aU 1 (.slice none 0 0));go_wp2_with fail;exact pO (b:=false) HF.out rfl rfl (fun h=>by cases h) ((HB1.out.setCell (p:=⟨w.heap.size,0,none⟩) lr _).setCell (p:=⟨w.heap.size,1,none⟩) lr _)
 | true =>
 obtain⟨M,hM⟩:∃ M,w1.heap.size=M:=⟨_,rfl⟩
 obtain⟨W2,hW2⟩:∃ W2,w1.alloc (.cells #[.slice none 0 0,.slice none 0 0] 172)=W2:=⟨_,rfl⟩
 have hb2:Below w1.heap.size w1 W2:=by rw[← hW2];exact zr.alloc lr _
 have pY:=zh (show aC W2 M 172 #[.slice none 0 0,.slice none 0 0] by rw[← hW2,← hM];exact aC.new _ _ _);have HB2:=zh (HB1.out.trans (hb2.mono HB1.out.size));have HR2:=zh (aC.below HR1.out hb2 HR1.out.lt);have HS:=zh (pI 32 p (by omega) W2 (HG.out.later HB2.out));have hwM:w.heap.size<M:=by have:=HR1.out.lt;omega
 have HW2:=zh hW2;have HMM:=zh hM;have HSp:=zh (bI 32 p);have HSl:=zh (gI 32 p);have HLP:=zh (show kV s=(bL 32 p).map fun t=>aDx t.data.toList by rw[← HPQ.out.1];rfl);have HLN:=zh (show 1≤(bL 32 p).length by rw[kW];omega);obtain⟨lc,hlc⟩:∃ lc,bL 32 p=lc:=⟨_,rfl⟩
 obtain⟨nc,hnc⟩:∃ nc,lc.length=nc:=⟨_,rfl⟩
 rw[hlc] at HSp HSl HLP HLN HS;rw[hnc] at HSl HLN HS;have hz2:M<W2.heap.size:=pY.out.lt;clear hb2 hM hW2 hlc;go_wp2_with fail;simp only [HMM.out,HW2.out];refine HS.out.mono ?_;rintro e W3 ⟨rfl,hbl,hb3⟩;obtain⟨C,hC⟩:∃ C,W2.heap.size=C:=⟨_,rfl⟩
 rw[hC] at hbl ⊢;have HB3:=zh (HB2.out.trans (hb3.mono HB2.out.size));have pK:=zh (aC.below pY.out hb3 pY.out.lt);have HR3:=zh (aC.below HR2.out hb3 HR2.out.lt);have HC3:=zh hbl;have hz3:C<W3.heap.size:=hbl.lt;have bUa:nc≤65537:=by have:=HSl.out;omega
 have HNC:=zh hnc;obtain⟨base,hbase⟩:∃ base,W3.heap.size=base:=⟨_,rfl⟩
 have hMb:M<base:=by omega
 have hCb:C<base:=by omega
 have hCM:C≠M:=by omega
 have bUc:base≤W3.heap.size:=Nat.le_of_eq hbase.symm;clear hbl hb3 HS hnc hC hbase;go_wp2_with fail;go_loopw [24] (fun iv wr=>∃ (j:Nat) (ps:List Int) (v:Value),iv=.int .i64 j∧j≤nc∧ps.length=j∧RowKit.Hid (ps=(lc.take j).map (fun t=>aDx t.data.toList)∧∀ x∈ps,aY x=true)∧RowKit.Hid (aC wr M 172 #[v,.slice none 0 0])∧RowKit.Hid (aJ wr base v ps)∧RowKit.Hid (aC wr C 9 (lc.map Value.string).toArray) ∧
  RowKit.Hid (aC wr w.heap.size 172 #[.slice none 0 0,.slice none 0 0])∧RowKit.Hid (Below w.heap.size w wr)∧base≤wr.heap.size) (fun i _=>nc-(intOf i).toNat)
 case atStart=>exact⟨0,[],.slice none 0 0,rfl,Nat.zero_le _,rfl,zh ⟨rfl,fun q h=>by cases h⟩,pK,zh (aJ.nil _ _),HC3,HR3,HB3,bUc⟩
 case round =>
  obtain⟨j,ps,v,rfl,hj,hpj,HP,HM,HO,HC,HR,HB,hbs⟩:=hrel;obtain⟨va,vc,rfl⟩:=aP HO.out;by_cases hlt:j<nc
  case neg =>
   have hjn:nc=j:=by omega
   subst hjn;have HLS:=zh (show kV s=ps by rw[HLP.out,HP.out.1,← HNC.out,List.take_length]);have HEL:=zh (aHw q wr (by omega) (HG.out.later HB.out));have hpm:=HO.out.reads;have hMr:=HM.out;rw[hpj] at hpm hMr;have HPM:=zh hpm;have HMr:=zh hMr;clear hpm hMr hlt hj;go_wp2_with fail;refine HEL.out.mono ?_;rintro e w4 ⟨h,hb4⟩;have dJ:=zh (HB.out.trans (hb4.mono HB.out.size));have HR4:=zh (aC.below HR.out hb4 HR.out.lt);have rA:=zh (aC.below HMr.out hb4 HMr.out.lt);have HP4:=zh (HPM.out.later hb4);have hs4:=hb4.size;have m1:w4.cell? ⟨M,1,none⟩=some (.slice none 0 0):=by simpa using rA.out.cell 1
   have z1:=rA.out.frozen 1;have hMR:M≠w.heap.size:=by omega
   have hRM:w.heap.size≠M:=by omega
   clear hb4;have key:∀ (a2:Option Addr) (n2 c2:Nat) (W5:World),w4.setCell ⟨M,1,none⟩ (.slice a2 n2 c2)=W5→aC W5 M 172 #[.slice va nc vc,.slice a2 n2 c2]∧aC W5 w.heap.size 172 #[.slice none 0 0,.slice none 0 0]∧Below w.heap.size w W5∧W5.heap.size=w4.heap.size ∧
    (Below M w4 W5)∧aC ((W5.setCell ⟨w.heap.size,0,none⟩ (.slice va nc vc)).setCell ⟨w.heap.size,1,none⟩ (.slice a2 n2 c2)) w.heap.size 172 #[.slice va nc vc,.slice a2 n2 c2]:=by
    intro a2 n2 c2 W5 hW5;subst hW5;have hr:=Sc.bC HR4.out hRM 1 (.slice a2 n2 c2);exact⟨by simpa using rA.out.aU 1 (.slice a2 n2 c2),hr,dJ.out.setCell (p:=⟨M,1,none⟩) (by show w.heap.size≤M;omega) _,by simp,zr.setCell (p:=⟨M,1,none⟩) lr _,by simpa using (hr.aU 0 (.slice va nc vc)).aU 1 (.slice a2 n2 c2)⟩
   have HKEY:=zh key;clear key;rcases h with ⟨v2,es,rfl,he,hel,ho⟩ | rfl
   · obtain⟨a2,c2,rfl⟩:=aP ho;obtain⟨n2,hn2⟩:∃ n2,es.length=n2:=⟨_,rfl⟩
     have HES:=zh (show nN s=es by rw[he,← HPQ.out.2];rfl);have hro:=aV.own ho;rw[hn2] at hro ⊢;have HRO:=zh hro;have HN2:=zh (And.intro hn2 hel);clear ho hro he hn2 hel;obtain⟨W5,hW5⟩:∃ W5,w4.setCell ⟨M,1,none⟩ (.slice a2 n2 c2)=W5:=⟨_,rfl⟩
     obtain⟨k1,k2,k3,k4,k5,k6⟩:=HKEY.out a2 n2 c2 W5 hW5;have K1:=zh k1;have K3:=zh k3;have K4:=zh (And.intro k4 k5);have K6:=zh k6;have n0:W5.cell? ⟨M,0,none⟩=some (.slice va nc vc):=by simpa using k1.cell 0
     have n1:W5.cell? ⟨M,1,none⟩=some (.slice a2 n2 c2):=by simpa using k1.cell 1
     have r0:W5.cell? ⟨w.heap.size,0,none⟩=some (.slice none 0 0):=by simpa using k2.cell 0
     have r1:W5.cell? ⟨w.heap.size,1,none⟩=some (.slice none 0 0):=by simpa using k2.cell 1
     have y0:=k2.frozen 0;have y1:=k2.frozen 1;have HW5:=zh hW5;clear k1 k2 k3 k4 k5 k6 hW5;go_wp2_with fail;rw[HW5.out];apply uF;case h =>
      go_region;all_goals exact⟨rfl,rfl,rfl⟩
     go_wp2_with fail;have hW5:∀ k,base≤k→((W5.setCell ⟨w.heap.size,0,none⟩ (.slice va nc vc)).setCell ⟨w.heap.size,1,none⟩ (.slice a2 n2 c2)).drew.heap[k]?=w4.heap[k]?:=fun k hk=>by
      have e1:∀ (W:World) (i:Nat) (y:Value) (g:Nat),k≠g→(W.setCell ⟨g,i,none⟩ y).heap[k]?=W.heap[k]?:=fun W i y g hg=>Below.heap_setCell _ _ _ _ hg
      show ((W5.setCell ⟨w.heap.size,0,none⟩ (.slice va nc vc)).setCell ⟨w.heap.size,1,none⟩ (.slice a2 n2 c2)).heap[k]?=w4.heap[k]?
      rw[e1 _ _ _ _ (by omega),e1 _ _ _ _ (by omega),← HW5.out,e1 _ _ _ _ (by omega)]
     have hz5:((W5.setCell ⟨w.heap.size,0,none⟩ (.slice va nc vc)).setCell ⟨w.heap.size,1,none⟩ (.slice a2 n2 c2)).drew.heap.size=w4.heap.size:=by
      show ((W5.setCell ⟨w.heap.size,0,none⟩ (.slice va nc vc)).setCell ⟨w.heap.size,1,none⟩ (.slice a2 n2 c2)).heap.size=w4.heap.size
      have:=K4.out.1;simpa using this
     refine pO (b:=decide ((nc:Int)≤8)) (show aC (World.drew _) _ _ _ from K6.out) rfl rfl (fun hb=>?_) (((K3.out.setCell (p:=⟨w.heap.size,0,none⟩) lr _).setCell (p:=⟨w.heap.size,1,none⟩) lr _).drew);have h8:(nc:Int)≤8:=of_decide_eq_true hb;have hps:ps.length=nc:=hpj;rw[HLS.out,HES.out];refine⟨(bEd HP4.out (fun k h1 _=>hW5 k h1)).wide (by omega) (by rw[hz5];exact hs4),by omega,by have:=HLN.out;omega,HP.out.2,HN2.out.2,?_⟩;rw[HN2.out.1];exact(bAq HRO.out (fun k h1 _=>hW5 k (by omega))).wide (by omega) (Nat.le_of_eq hz5.symm)
   · obtain⟨W5,hW5⟩:∃ W5,w4.setCell ⟨M,1,none⟩ (.slice none 0 0)=W5:=⟨_,rfl⟩
     obtain⟨k1,k2,k3,k4,k5,k6⟩:=HKEY.out none 0 0 W5 hW5;have K3:=zh k3;have K6:=zh k6;have n0:W5.cell? ⟨M,0,none⟩=some (.slice va nc vc):=by simpa using k1.cell 0
     have n1:W5.cell? ⟨M,1,none⟩=some (.slice none 0 0):=by simpa using k1.cell 1
     have r0:W5.cell? ⟨w.heap.size,0,none⟩=some (.slice none 0 0):=by simpa using k2.cell 0
     have r1:W5.cell? ⟨w.heap.size,1,none⟩=some (.slice none 0 0):=by simpa using k2.cell 1
     have y0:=k2.frozen 0;have y1:=k2.frozen 1;have HW5:=zh hW5;clear k1 k2 k3 k4 k5 k6 hW5;go_wp2_with fail;rw[HW5.out];apply uF;case h =>
      go_region;all_goals exact⟨rfl,rfl,rfl⟩
     go_wp2_with fail;exact pO (b:=false) (show aC (World.drew _) _ _ _ from K6.out) rfl rfl (fun hb=>by cases hb) (((K3.out.setCell (p:=⟨w.heap.size,0,none⟩) lr _).setCell (p:=⟨w.heap.size,1,none⟩) lr _).drew)
  obtain⟨t,ht⟩:∃ t,lc[j]?=some t:=⟨_,List.getElem?_eq_getElem (by rw[HNC.out];exact hlt)⟩
  have hts:t.size≤p.size:=HSp.out t (List.mem_of_getElem? ht);have cq:wr.cell? ⟨C,j,none⟩=some (.string t):=(HC.out.cell j).trans (by simp[ht]);have HGr:=zh (HG.out.later HB.out);have HPI:=zh (wR t (by omega) wr HGr.out.errs);have HT:=zh ht;clear ht;go_wp2_with fail;refine HPI.out.mono ?_;rintro e w4 ⟨h,hb4⟩;have dJ:=zh (HB.out.trans (hb4.mono HB.out.size));have HR4:=zh (aC.below HR.out hb4 HR.out.lt);have uE:=zh hb4;have bad:∀ (F:World),aC F w.heap.size 172 #[.slice none 0 0,.slice none 0 0]→F.cell? ⟨w.heap.size,0,none⟩=some (.slice none 0 0)∧F.cell? ⟨w.heap.size,1,none⟩=some (.slice none 0 0)∧F.frozen? ⟨w.heap.size,0,none⟩=false∧F.frozen? ⟨w.heap.size,1,none⟩=false ∧
   aC ((F.setCell ⟨w.heap.size,0,none⟩ (.slice none 0 0)).setCell ⟨w.heap.size,1,none⟩ (.slice none 0 0)) w.heap.size 172 #[.slice none 0 0,.slice none 0 0]:=fun F hF =>
   ⟨by simpa using hF.cell 0,by simpa using hF.cell 1,hF.frozen 0,hF.frozen 1,by simpa using (hF.aU 0 (.slice none 0 0)).aU 1 (.slice none 0 0)⟩
  have HBAD:=zh bad;clear hb4 bad;rcases h with ⟨a,rfl,h1,h2⟩ | ⟨a,T,V,rfl,h1⟩
  case inr =>
   obtain⟨r0,r1,y0,y1,hf⟩:=HBAD.out w4 HR4.out;have HF:=zh hf;clear hf h1;go_wp2_with fail;exact pO (b:=false) HF.out rfl rfl (fun h=>by cases h) ((dJ.out.setCell (p:=⟨w.heap.size,0,none⟩) lr _).setCell (p:=⟨w.heap.size,1,none⟩) lr _)
  have HD:=zh (aRa a w4 h1 ((HG.out.later dJ.out).bru));have H2:=zh h2;clear h1 h2;go_wp2_with fail;refine HD.out.mono ?_;rintro e w5 ⟨z,rfl,_,hb5⟩;have lJ:=zh (dJ.out.trans (hb5.mono dJ.out.size));have HR5:=zh (aC.below HR4.out hb5 HR4.out.lt);have HX5:=zh (uE.out.trans (hb5.mono uE.out.size));clear hb5;by_cases hzt:z.toList=t.toList
  case neg =>
   obtain⟨r0,r1,y0,y1,hf⟩:=HBAD.out w5 HR5.out;have HF:=zh hf;clear hf;go_wp2_with fail;exact pO (b:=false) HF.out rfl rfl (fun h=>by cases h) ((lJ.out.setCell (p:=⟨w.heap.size,0,none⟩) lr _).setCell (p:=⟨w.heap.size,1,none⟩) lr _)
  go_wp2_with fail;refine(Ta.dK a w5).mono ?_;rintro e w6 ⟨rfl,rfl⟩;cases hip:aY a with
  | false =>
   obtain⟨r0,r1,y0,y1,hf⟩:=HBAD.out w6 HR5.out;have HF:=zh hf;clear hf;go_wp2_with fail;exact pO (b:=false) HF.out rfl rfl (fun h=>by cases h) ((lJ.out.setCell (p:=⟨w.heap.size,0,none⟩) lr _).setCell (p:=⟨w.heap.size,1,none⟩) lr _)
  | true =>
   have HIP:=zh hip;clear hip;have hX:=HX5.out;have hO6:=bMe hpj (by have h:=aJ.below HO.out hX;rw[hpj] at h;exact h);have HM6:=zh (show aC w6 M 172 #[.slice va j vc,.slice none 0 0] by have h:=aC.below HM.out hX HM.out.lt;rw[hpj] at h;exact h);have m0:w6.cell? ⟨M,0,none⟩=some (.slice va j vc):=by simpa using HM6.out.cell 0
   have lM:=aV.lit w6 3 #[.int .i64 a] 1 1 rfl;have hs6:=hX.size;have HO6:=zh hO6;have HXX:=zh hX;clear hX hO6;go_wp2_with (at_builtin;refine aO rfl (.tmp 48) (.tmp 50) 42 rfl 3 (.int .i64 0) 1 8 underlying42 lK rfl (by decide) rfl (World.ownsRow.alloc HO6.out _) rfl lM (fun u hu=>by rw[List.mem_singleton.1 hu];rfl) (by omega) (by decide) (by simp;omega) ?_;intro c7 kE w7 hO7 hg7 bDs;have hM7:=aFx HO6.out hg7 HM6.out hMb;have p7:=hM7.cell 0;have z7:=hM7.frozen 0;simp at p7);obtain⟨s1,s2,s3,s4,s5,s6⟩:=bAr HXX.out hg7 HO6.out hO7 hpj hM7 hMb hCb hwM hCM hbs HC.out HR.out HB.out;have HPY:=zh (show ps++[a]=(lc.take (j+1)).map (fun t=>aDx t.data.toList)∧∀ x∈ps++[a],aY x=true from⟨by
    rw[List.take_add_one,HT.out,Option.toList_some,List.map_append,← HP.out.1,List.map_singleton,← H2.out],fun x hx=>by
    rcases List.mem_append.1 hx with h | h
    · exact HP.out.2 x h
    · rw[List.mem_singleton.1 h];exact HIP.out⟩)
   exact⟨⟨j+1,ps++[a],_,by simp,by omega,by simp[hpj],HPY,zh s1,zh s2,zh s3,zh s4,zh s5,s6⟩,by simp[intOf];omega⟩
end Lo
namespace Sc
open V (Same Pt VI aL bE)
def aEd (w:World):Prop:=w.cell? ⟨1,0,none⟩=some (.iface 197 (.agg #[.pointer (some ⟨11,36,none⟩)]))
theorem aEd.later {w w':World} (h:aEd w) (hb:Below w.heap.size w w'):aEd w':=V.keeps hb h
theorem aAt {P:Program} {ops:Array Oper} {o:Oper} {a:Act} {w:World} {K:Act→World→Prop} {Q:Exit→Act→World→Prop} {E:Prop} (hgd:o.guard=none) (s x:Operand) (t:TypeId)
 (ho:o.op=.call { callee:=.builtin .append,args:=#[s,x],argTypes:=#[t,t] }) (e:TypeId) (z:Value) (size bytes:Nat) (ht:P.underlying t=some (.slice e))
 (hinfo:(P.info? e).map (fun i=>(i.zero,i.size,i.bytes))=some (some z,size,bytes)) (hzs:z.cells.size=size) (hsz:0<size)
 {base n:Nat} {v:Value} {xs:List Value} (hs:a.eval s=v) (hown:w.ownsRow base e size v n xs) {lo hi m:Nat} {u:Value} {news:List Value} (hx:a.eval x=u) (hu:aV size w lo hi u m news) (h1:∀ u∈news,u.oneCell'=true)
 (hlen:n+m≤1099511627776) (hby:bytes≤64) (hbase:base≤w.heap.size)
 (h:∀ c cap w',w'.ownsRow base e size (.slice c (n+m) cap) (n+m) (xs++news)→w.grownBy w' v.ownBlock→K (a.put o.dst (.slice c (n+m) cap)) w') :
 if Region.wanted o (yielded ops a.tmps)=true then Oper.wp P o a w K Q else E:=by
 have hw:Region.wanted o (yielded ops a.tmps)=true:=by simp[Region.wanted,hgd]
 rw[if_pos hw];obtain⟨i0,hi,hz0,hz1,hz2⟩:=info_parts hinfo;obtain⟨hl,ad,cap,rfl,hc,hn,hcells⟩:=hu;cases ad with
 | none =>
  obtain rfl:=hn rfl;obtain rfl:m=0:=by omega
  have hm:news=[]:=List.eq_nil_of_length_eq_zero (by omega);subst hm;obtain⟨c,cap',rfl⟩:=aP hown;have hrun:=run_append_owned_none (P:=P) (w:=w) base t o.type e i0 size ht hi (.slice c n cap') n xs hown;unfold Oper.wp;simp[execOp,ho,resolve,invoke,builtin,hs,hx,hrun,Result.andThen];exact h c cap' w (by simpa using hown) ⟨rfl,rfl,rfl,Nat.le_refl _,fun _ _ _=>rfl⟩
 | some ad =>
  have hnews:∀ j u,news[j]?=some u→w.cell? (ad.add j)=some u:=by
   intro j u hu;obtain⟨hj,rfl⟩:=List.getElem?_eq_some_iff.1 hu;obtain⟨g,off,ha,_,_,h3⟩:=hcells j hj;cases ha;by_cases h0:j=0
   · subst h0;simpa[Addr.add] using h3
   · simpa[Addr.add,h0] using h3
  refine wp_append_own w s x t ho base e i0 z size bytes ht hi hz0 hz1 hz2 hzs hsz v n xs hs hown ad m cap news hx hl hnews h1 (Nat.le_trans hlen (by decide)) (Nat.le_trans (Nat.mul_le_mul hlen hby) (by decide)) hbase (fun v' w' h1 h2 _=>?_);obtain⟨c,cap',rfl⟩:=aP h1;exact h c cap' w' h1 h2
theorem uG {w:World} {g:Nat} {t:TypeId} {cs:Array Value} (h:aC w g t cs) (o:Obj):aC (w.alloc o) g t cs:=aC.below h (zr.alloc lr o) h.lt
theorem bEe {w:World} {g:Nat} {t:TypeId} {v:Value} (h:aC w g t #[v]) (u:Value):aC (w.setCell ⟨g,0,none⟩ u) g t #[u]:=by simpa using h.aU 0 u
theorem bAs (e:Addr) (g:Nat) (w:World) (hg:aEd w) (hb:aC w g 39 #[.pointer none]) :
 Calls prog 42 #[.iface 39 (.pointer (some e)),.iface 114 (.pointer (some ⟨g,0,none⟩))] w fun ev w'=>ev=.returned (.bool true)∧aC w' g 39 #[.pointer (some e)]∧Xv (· = g) w w':=by
 refine(bGm e ⟨g,0,none⟩ (.pointer none) w hg (by simpa using hb.cell 0) (hb.frozen 0)).mono ?_;rintro ev w' ⟨rfl,rfl⟩;refine⟨rfl,?_,?_⟩
 · exact bEe (uG (uG (uG (uG hb _) _) _) _) _
 · exact((((((Xv.refl (· = g) w).alloc _).alloc _).alloc _).alloc _).aU (fun _=>rfl) 0 _)
theorem aVp (fb:Nat) (c a:Int) (pv why:Value) (lp:List Int) (bad:Nat→Prop) (at_ pl:Nat) (w:World) (hG:aEd w) (hb:aC w fb 44 #[.int .i64 c,.int .i64 a,pv,why]) (hp:aH w bad pv lp) (hlp:lp.length≤17) (ha:0≤a) (ham:a+at_≤9000000) :
 Calls prog 23 #[.iface 39 (.pointer (some ⟨fb,0,none⟩)),.int .i64 (at_:Int),.int .i64 (pl:Int)] w fun e w'=>∃ (f2:Nat) (qP:Value),w.heap.size≤f2∧e=.returned (.iface 39 (.pointer (some ⟨f2,0,none⟩)))∧aC w' f2 44 #[.int .i64 c,.int .i64 (a+at_),qP,.iface 39 (.pointer (some ⟨fb,0,none⟩))]∧Below w.heap.size w w':=by
 obtain⟨pa,pc,rfl,_⟩:=hp.form;have HP:=zh hp;have HB:=zh hb;have hfl:=hb.lt;have hne:fb≠w.heap.size:=by omega
 have HA:=zh (bAs ⟨fb,0,none⟩ w.heap.size (w.alloc (.cells #[.pointer none] 39)) (hG.later (zr.alloc lr _)) (aC.new _ _ _));have hw:IntKind.i64.wrap (a+(at_:Int))=a+at_:=wrap_small _ (by omega) (by omega);have hw2:wrap64 (a+(at_:Int))=a+at_:=by unfold wrap64;omega
 clear hp hb;go_enter func23,ntmps23;go_wp2_with fail;refine HA.out.mono ?_;rintro e W2 ⟨rfl,hgb,hx⟩;have HX:=zh ((zr.alloc lr _).trans (hx.below (B:=w.heap.size) (fun k hk e=>by omega) (by simp)));have HB2:=zh (hx.blk hne (aC.below HB.out (zr.alloc lr _) hfl));have xZ:=zh (HP.out.below (bad':=bad) HX.out (fun _ _ e=>e));have p0:W2.cell? ⟨w.heap.size,0,none⟩=some (.pointer (some ⟨fb,0,none⟩)):=hgb.cell 0;have q0:W2.cell? ⟨fb,0,none⟩=some (.int .i64 c):=HB2.out.cell 0;have q1:W2.cell? ⟨fb,1,none⟩=some (.int .i64 a):=HB2.out.cell 1;have q2:W2.cell? ⟨fb,2,none⟩=some (.slice pa lp.length pc):=HB2.out.cell 2;clear hgb hx;have P0:=zh p0;have Q0:=zh q0;have Q1:=zh q1;have Q2:=zh q2;go_wp2_with fail;refine wp_region_held_drew (S:=fun w'=>w'.cell? ⟨w.heap.size,0,none⟩=some (.pointer (some ⟨fb,0,none⟩))∧w'.cell? ⟨fb,0,none⟩=some (.int .i64 c)∧w'.cell? ⟨fb,1,none⟩=some (.int .i64 a)∧w'.cell? ⟨fb,2,none⟩=some (.slice pa lp.length pc)∧Below W2.heap.size W2 w') (by kernel_rfl) ⟨p0,q0,q1,q2,(Below.refl _ W2).drew⟩ (fun hHeld=>?_);refine tx 0 ?v0 rfl (by kernel_rfl) tq (by rfl) ?hy0 (by assumption) ?aCd;case hy0=>(rintro wS ⟨p0,q0,q1,q2,kb⟩;go_simp;try with_reducible rfl)
 try simp[Act.put]
 refine tx 1 ?v1 rfl (by kernel_rfl) tq (by rfl) ?hy1 (by assumption) ?aFe;case hy1=>(rintro wS ⟨p0,q0,q1,q2,kb⟩;go_simp;try with_reducible rfl)
 try simp[Act.put]
 refine tx 2 ?v2 rfl (by kernel_rfl) tq (by rfl) ?hy2 (by assumption) ?aCe;case hy2=>(rintro wS ⟨p0,q0,q1,q2,kb⟩;go_simp;try with_reducible rfl)
 try simp[Act.put]
 refine tx 3 ?v3 rfl (by kernel_rfl) tq (by rfl) ?hy3 (by assumption) ?aFf;case hy3=>(rintro wS ⟨p0,q0,q1,q2,kb⟩;go_simp;try with_reducible rfl)
 try simp[Act.put]
 refine tx 4 ?v4 rfl (by kernel_rfl) tq (by rfl) ?hy4 (by assumption) ?aKf;case hy4=>(rintro wS ⟨p0,q0,q1,q2,kb⟩;go_simp;try with_reducible rfl)
 try simp[Act.put]
 refine tx 5 ?v5 rfl (by kernel_rfl) tq (by rfl) ?hy5 (by assumption) ?aYl;case hy5=>(rintro wS ⟨p0,q0,q1,q2,kb⟩;go_simp;try with_reducible rfl)
 try simp[Act.put]
 refine tx 6 ?v6 rfl (by kernel_rfl) tq (by rfl) ?hy6 (by assumption) ?aZq;case hy6=>(rintro wS ⟨p0,q0,q1,q2,kb⟩;go_simp;try with_reducible rfl)
 try simp[Act.put]
 refine tx 7 ?v7 rfl (by kernel_rfl) tq (by rfl) ?hy7 (by assumption) ?aRb;case hy7=>(rintro wS ⟨p0,q0,q1,q2,kb⟩;go_simp;try with_reducible rfl)
 try simp[Act.put]
 refine tx 8 ?v8 rfl (by kernel_rfl) tq (by rfl) ?hy8 (by assumption) ?aRc;case hy8=>(rintro wS ⟨p0,q0,q1,q2,kb⟩;go_simp;try with_reducible rfl)
 try simp[Act.put]
 refine tx 9 ?v9 rfl (by kernel_rfl) tq (by rfl) ?hy9 (by assumption) ?aRd;case hy9=>(rintro wS ⟨p0,q0,q1,q2,kb⟩;go_simp;try with_reducible rfl)
 try simp[Act.put]
 refine tx 10 ?v10 rfl (by kernel_rfl) tq (by rfl) ?aNq (by assumption) ?aNr;case aNq=>(rintro wS ⟨p0,q0,q1,q2,kb⟩;go_simp;try with_reducible rfl)
 try simp[Act.put]
 refine tx 12 ?v12 rfl (by kernel_rfl) tq (by rfl) ?aHf (by assumption) ?aHg;case aHf=>(rintro wS ⟨p0,q0,q1,q2,kb⟩;go_simp;try with_reducible rfl)
 try simp[Act.put]
 refine tx 13 ?v13 rfl (by kernel_rfl) tq (by rfl) ?aOc (by assumption) ?aOd;case aOc=>(rintro wS ⟨p0,q0,q1,q2,kb⟩;go_simp;try with_reducible rfl)
 try simp[Act.put]
 refine tx 14 ?v14 rfl (by kernel_rfl) tq (by rfl) ?aHh (by assumption) ?aHi;case aHh=>(rintro wS ⟨p0,q0,q1,q2,kb⟩;go_simp;try with_reducible rfl)
 try simp[Act.put]
 refine tx 15 ?v15 rfl (by kernel_rfl) tq (by rfl) ?aNu (by assumption) ?aNv;case aNu=>(rintro wS ⟨p0,q0,q1,q2,kb⟩;go_simp;try with_reducible rfl)
 try simp[Act.put]
 refine tx 17 ?v17 rfl (by kernel_rfl) tq (by rfl) ?bHr (by assumption) ?bHs;case bHr=>(rintro wS ⟨p0,q0,q1,q2,kb⟩;go_simp;try with_reducible rfl)
 try simp[Act.put]
 refine wpAnyH_ready (rs:=[11]) (by kernel_rfl) (by simp) ?_;refine AllReadyH.cons rfl (fun K hK=>?_) AllReadyH.nil;go_simp;obtain⟨p0,q0,q1,q2,kb⟩:=hHeld;have hbw:Below W2.heap.size W2 (W2.alloc (.cells #[.int .i64 (pl:Int)] 3)).drew:=(zr.alloc lr _).drew;replace p0:=V.keeps hbw p0;replace q0:=V.keeps hbw q0;replace q1:=V.keeps hbw q1;replace q2:=V.keeps hbw q2;replace kb:=hbw;refine hK.out _ _ ⟨p0,q0,q1,q2,kb⟩ (fun hHeld=>?_);try simp[Act.put]
 refine wpAnyH_ready (rs:=[16]) (by kernel_rfl) (by simp) ?_;refine AllReadyH.cons rfl (fun K hK=>?_) AllReadyH.nil;obtain⟨p0,q0,q1,q2,kb⟩:=hHeld;have hown:=(aJ.one W2 W2.heap.size (pl:Int) lr)
 have hrow:=aV.ints (xZ.out.below hbw (bad':=bad) (fun _ _ e=>e)).reads rfl;refine aAt rfl (.tmp 24) (.tmp 28) 42 rfl 3 (.int .i64 0) 1 8 underlying42 lK rfl (by decide) (by simp[Act.eval]) (show (W2.alloc (.cells #[.int .i64 (pl:Int)] 3)).drew.ownsRow W2.heap.size 3 1 (.slice (some ⟨W2.heap.size,0,none⟩) 1 1) 1 (nv [(pl:Int)]) from hown) (by simp[Act.eval]) hrow (rG _) (by omega) (by decide) (by simp) ?_;intro c9 nE w9 qY nD;have aB:Below W2.heap.size W2 w9:=hbw.grown nD (by simp) (fun k hk=>(World.ownsRow.lt (show (W2.alloc (.cells #[.int .i64 (pl:Int)] 3)).drew.ownsRow W2.heap.size 3 1 (.slice (some ⟨W2.heap.size,0,none⟩) 1 1) 1 (nv [(pl:Int)]) from hown) k hk).1);have r0:w9.cell? ⟨w.heap.size,0,none⟩=some (.pointer (some ⟨fb,0,none⟩)):=V.keeps aB P0.out;have r1:w9.cell? ⟨fb,0,none⟩=some (.int .i64 c):=V.keeps aB Q0.out;have r2:w9.cell? ⟨fb,1,none⟩=some (.int .i64 a):=V.keeps aB Q1.out;have r3:w9.cell? ⟨fb,2,none⟩=some (.slice pa lp.length pc):=V.keeps aB Q2.out;refine hK.out _ _ ⟨r0,r1,r2,r3,aB⟩ (fun hHeld=>?_);try simp[Act.put]
 refine tx 18 ?bWv rfl (by kernel_rfl) tq (by rfl) ?bMj (by assumption) ?bNq;case bMj=>(rintro wS ⟨p0,q0,q1,q2,kb⟩;go_simp;try with_reducible rfl)
 try simp[Act.put]
 refine wpAnyH_ready (rs:=[19]) (by kernel_rfl) (by simp) ?_;refine AllReadyH.cons rfl (fun K hK=>?_) AllReadyH.nil;go_simp;have hbA:Below W2.heap.size W2 (w9.alloc (.cells #[.int .i64 c,.int .i64 (a+(at_:Int)),.slice c9 (1+lp.length) nE,.iface 39 (.pointer (some ⟨fb,0,none⟩))] 44)):=aB.alloc aB.size _;refine hK.out _ _ ⟨V.keeps hbA P0.out,V.keeps hbA Q0.out,V.keeps hbA Q1.out,V.keeps hbA Q2.out,hbA⟩ (fun hHeld=>?_);try simp[Act.put]
 refine tx 20 ?bWw rfl (by kernel_rfl) tq (by rfl) ?bMk (by assumption) ?bNr;case bMk=>(rintro wS ⟨p0,q0,q1,q2,kb⟩;go_simp;try with_reducible rfl)
 try simp[Act.put]
 refine tx 21 ?bWx rfl (by kernel_rfl) tq (by rfl) ?bMl (by assumption) ?bNs;case bMl=>(rintro wS ⟨p0,q0,q1,q2,kb⟩;go_simp;try with_reducible rfl)
 try simp[Act.put]
 refine wpAnyH_done (by kernel_rfl) ?_ _;go_wp2_with fail;go_ret;exact⟨w9.heap.size,.slice c9 (1+lp.length) nE,Nat.le_trans HX.out.size aB.size,rfl,aC.new _ _ _,HX.out.trans (hbA.mono HX.out.size)⟩
end Sc
namespace V
theorem VI.aRq {w:World} {lo hi:Nat} {p:Pt} {v:Value} (hv:VI w lo hi p v) (h7:p.kind=7) :
 ∃ (a:Option Addr) (cap:Nat) (F:Nat→Value),v=.iface 118 (.agg #[.slice a p.items.length cap])∧(∀ j,j<p.items.length→∃ g,a=some ⟨g,0,none⟩∧lo≤g∧g<hi∧w.cell? ⟨g,j,none⟩=some (F j))∧∀ j (h:j<p.items.length),VI w lo hi p.items[j] (F j):=by
 cases hv with
 | null _ h=>omega
 | truth _ h=>omega
 | whole _ h=>omega
 | row _ _ _ _ h=>omega
 | tuple _ _ a cap F hc cells deep=>exact⟨a,cap,F,rfl,cells,deep⟩
theorem VI.aRr {w:World} {lo hi:Nat} {p:Pt} {v:Value} (hv:VI w lo hi p v) (h:p.kind=1):v=.iface 148 (.agg #[.bool p.yes]):=by
 cases hv with
 | null _ h=>omega
 | truth _ h=>rfl
 | whole _ h=>omega
 | row _ _ h _ _=>omega
 | tuple _ h a cap F hc cells deep=>omega
theorem VI.aRs {w:World} {lo hi:Nat} {p:Pt} {v:Value} (hv:VI w lo hi p v) (h:p.kind=2):v=.iface 220 (.agg #[.bool p.neg,.string p.mag]):=by
 cases hv with
 | null _ h=>omega
 | truth _ h=>omega
 | whole _ h=>rfl
 | row _ _ _ h _=>omega
 | tuple _ h a cap F hc cells deep=>omega
theorem VI.rowOf {w:World} {lo hi:Nat} {p:Pt} {v:Value} (hv:VI w lo hi p v) (h0:p.kind≠0) (h1:p.kind≠1) (h2:p.kind≠2) (h7:p.kind≠7):v=.iface 222 (.agg #[.int .u8 p.kind,.string p.raw]):=by
 cases hv with
 | null _ h=>omega
 | truth _ h=>omega
 | whole _ h=>omega
 | row _ _ _ _ _=>rfl
 | tuple _ h a cap F hc cells deep=>omega
theorem aVq (p:Pt):∀ (q:Pt) (v u:Value) (w:World),aL p=true→aL q=true→VI w 0 w.heap.size p v→VI w 0 w.heap.size q u →
 Calls prog 36 #[v,u] w fun e w'=>e=.returned (.bool (gK p q))∧Below w.heap.size w w':=by
 induction p using Pt.ind with
 | h p ih =>
 intro q v u w hp hq hv hu;by_cases h0:p.kind=0∨q.kind=0
 · exact aOw p q v u w hp hq hv hu h0
 · by_cases hk:p.kind=q.kind
   · obtain⟨s0,s1,s2,s3,s4⟩:=aLh hp hq hk;by_cases h7:p.kind=7
     · have hq7:q.kind=7:=by omega
       have hlen:=wY hp h7;have hlenq:=wY hq hq7;have hS:=s4 h7;obtain⟨a,cap,F,rfl,hcells,aAc⟩:=hv.aRq h7;obtain⟨b,aPs,G,rfl,hcells',bAt⟩:=hu.aRq hq7;have f1:=aDb;have f2:=bJ;have f3:=gN;have f4:=bS;have m1:∀ w:World,(method 512 118 (.agg #[.slice a p.items.length cap]) "Kind").run prog w=.ok (278,.agg #[.slice a p.items.length cap]) w:=fun _=>by kernel_rfl
       have m2:∀ w:World,(method 512 118 (.agg #[.slice b q.items.length aPs]) "Kind").run prog w=.ok (278,.agg #[.slice b q.items.length aPs]) w:=fun _=>by kernel_rfl
       have m3:∀ w:World,(method 512 118 (.agg #[.slice a p.items.length cap]) "Len").run prog w=.ok (279,.agg #[.slice a p.items.length cap]) w:=fun _=>by kernel_rfl
       have m4:∀ w:World,(method 512 118 (.agg #[.slice b q.items.length aPs]) "Len").run prog w=.ok (279,.agg #[.slice b q.items.length aPs]) w:=fun _=>by kernel_rfl
       have m5:∀ w:World,(method 512 118 (.agg #[.slice a p.items.length cap]) "At").run prog w=.ok (277,.agg #[.slice a p.items.length cap]) w:=fun _=>by kernel_rfl
       have m6:∀ w:World,(method 512 118 (.agg #[.slice b q.items.length aPs]) "At").run prog w=.ok (277,.agg #[.slice b q.items.length aPs]) w:=fun _=>by kernel_rfl
       have HC:=zh hcells;have HD:=zh aAc;have HC':=zh hcells';have HD':=zh bAt;have HP:=zh hp;have HQ:=zh hq;have IH:=zh ih;clear hv hu hcells aAc hcells' bAt hp hq ih s0 s1 s2 s3 s4 h0 hk h7 hq7;by_cases hl:p.items.length=q.items.length
       · have g5:((p.items.length:Int) != (q.items.length:Int))=false:=by simp;omega
         have HN:=zh (show gK p q=jP (p.items.drop 0) (q.items.drop 0) by rw[hS];rfl);have HL:=zh hl;have hla:=Nat.le_of_eq hl;have hlb:=Nat.le_of_eq hl.symm;clear hl hS;go_enter func36,ntmps36;go_wp2_with fail;refine(mO _ _ _ _).mono ?_;rintro e w1 ⟨rfl,hb1⟩;go_wp2_with fail;refine(mO _ _ _ _).mono ?_;rintro e w2 ⟨rfl,hb2⟩;go_wp2_with fail;refine(fV _ _ _ _).mono ?_;rintro e w3 ⟨rfl,hb3⟩;go_wp2_with fail;refine(fV _ _ _ _).mono ?_;rintro e w4 ⟨rfl,hb4⟩;go_wp2_with fail;refine(fV _ _ _ _).mono ?_;rintro e w5 ⟨rfl,hb5⟩;have hB5:=two (two (two (two hb1 hb2) hb3) hb4) hb5;clear hb1 hb2 hb3 hb4 hb5;go_wp2_with fail;go_loopw [94] (fun i wr=>∃ k:Nat,k≤p.items.length∧i=.int .i64 k∧RowKit.Hid (gK p q=jP (p.items.drop k) (q.items.drop k))∧Below w.heap.size w wr) (fun i _=>p.items.length-(intOf i).toNat)
         case atStart=>exact⟨0,Nat.zero_le _,rfl,HN,hB5⟩
         case round =>
          clear hB5;obtain⟨k,hkl,rfl,HK,hB⟩:=hrel;by_cases hlt:k<p.items.length
          · have q3:decide (k<p.items.length)=true:=by simpa using hlt
            have bIc:k<q.items.length:=by omega
            obtain⟨g,rfl,_,hg,hc⟩:=HC.out k hlt;obtain⟨g',rfl,_,hg',hc'⟩:=HC'.out k bIc;have HE:=zh (aOq HL.out hlt);have hmem:p.items[k]∈p.items:=List.getElem_mem _;have bEz:q.items[k]∈q.items:=List.getElem_mem _;have oW:=zh (HD.out k hlt);have bMm:=zh (HD'.out k bIc);obtain⟨y,hy⟩:∃ y,p.items[k]=y:=⟨_,rfl⟩
            obtain⟨z,hz⟩:∃ z,q.items[k]=z:=⟨_,rfl⟩
            rw[hy] at HE hmem oW;rw[hz] at HE bEz bMm;have hmy:=zh (dW HP.out hmem);have hmz:=zh (dW HQ.out bEz);have HCk:=zh (keep hB hg hc);have hc1:=zh hc';clear hy hz hc hc';go_wp2_with fail;refine(oN g _ cap k (F k) _ (by omega) hlt HCk.out).mono ?_;rintro e w6 ⟨rfl,hb6⟩;have hB6:=hB.trans (hb6.mono hB.size);go_wp2_with fail;refine(oN g' _ aPs k (G k) _ (by omega) bIc (keep hB6 hg' hc1.out)).mono ?_;rintro e w7 ⟨rfl,hb7⟩;have hB7:=hB6.trans (hb7.mono hB6.size);go_wp2_with fail;refine(IH.out y hmem z (F k) (G k) _ hmy.out hmz.out (oW.out.later hB7) (bMm.out.later hB7)).mono ?_;rintro e w8 ⟨rfl,hb8⟩;have hB8:=hB7.trans (hb8.mono hB7.size);clear hB hB6 hB7 hb6 hb7 hb8;cases hd:gK y z with
            | true =>
             have HR:=zh (show gK p q=jP (p.items.drop (k+1)) (q.items.drop (k+1)) by rw[HK.out,HE.out,hd];rfl);clear hd;go_wp2_with fail;refine⟨?_,by simp[intOf];omega⟩;first
              | exact⟨k+1,by omega,rfl,HR,hB8⟩
              | ((repeat apply Exists.intro);exact⟨⟨k+1,by omega,rfl,HR,hB8⟩,rfl⟩)
            | false =>
             have HR:=zh (show gK p q=false by rw[HK.out,HE.out,hd];rfl);clear hd;go_wp2_with fail;go_ret;exact⟨by rw[HR.out];rfl,hB8⟩
          · have q3:decide (k<p.items.length)=false:=by simpa using hlt
            have HR:=zh (show gK p q=true by rw[HK.out,List.drop_of_length_le (by omega),List.drop_of_length_le (by omega),oG]);go_wp2_with fail;go_ret;exact⟨by rw[HR.out];rfl,hB⟩
       · have g5:((p.items.length:Int) != (q.items.length:Int))=true:=by simp;omega
         have HN:=zh (show gK p q=false by rw[hS,aIq hl]);clear hl hS;go_enter func36,ntmps36;go_wp2_with fail;refine(mO _ _ _ _).mono ?_;rintro e w1 ⟨rfl,hb1⟩;go_wp2_with fail;refine(mO _ _ _ _).mono ?_;rintro e w2 ⟨rfl,hb2⟩;go_wp2_with fail;refine(fV _ _ _ _).mono ?_;rintro e w3 ⟨rfl,hb3⟩;go_wp2_with fail;refine(fV _ _ _ _).mono ?_;rintro e w4 ⟨rfl,hb4⟩;go_wp2_with fail;go_ret;exact⟨by rw[HN.out];rfl,two (two (two hb1 hb2) hb3) hb4⟩
     · by_cases h1:p.kind=1
       · rw[hv.aRr h1,hu.aRr (by omega),s1 h1];exact aLl _ _ w
       · by_cases h2:p.kind=2
         · rw[hv.aRs h2,hu.aRs (by omega),s2 h2];exact aLm _ _ _ _ w _ rfl
         · rw[hv.rowOf (by omega) h1 h2 h7,hu.rowOf (by omega) (by omega) (by omega) (by omega),s3 (by omega) h1 h2 h7,← hk];exact aUq _ _ _ w _ rfl
   · exact aLi p q v u w hv hu (by omega) (by omega) hk
theorem aDd (p q:Pt) (v u:Value) (w:World) (hp:aL p=true) (hq:aL q=true) (hv:VI w 0 w.heap.size p v) (hu:VI w 0 w.heap.size q u) :
 Calls prog 18 #[v,u] w fun e w'=>e=.returned (.bool (gK p q))∧Below w.heap.size w w':=by
 have HP:=zh hp;have HQ:=zh hq;have HV:=zh hv;have HU:=zh hu;clear hp hq hv hu;go_enter func18,ntmps18;go_wp2_with fail;refine(aVq p q v u _ HP.out HQ.out HV.out HU.out).mono ?_;rintro e w1 ⟨rfl,hb1⟩;go_wp2_with fail;go_ret;exact⟨rfl,hb1⟩
