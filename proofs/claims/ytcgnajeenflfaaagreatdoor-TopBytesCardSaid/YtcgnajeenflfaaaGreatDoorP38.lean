import Derived.Test.YtcgnajeenflfaaaGreatDoorP36
set_option maxRecDepth 100000
set_option maxHeartbeats 4000000
set_option linter.all false
open Go.Proofs.Tryz Go.RowKit
namespace Go.Proofs.YtcgnajeenflfaaaGreatDoor
namespace Lo
open D (isI64 sylB)
open Ta (linesOf linesOf_le linesOf_small)
theorem twoL {W a b:World} (h:Below W.heap.size W a) (k:Below a.heap.size a b):Below W.heap.size W b:=h.trans (k.mono h.size)
theorem keepsL {W w1:World} (hb:Below W.heap.size W w1) {p:Addr} {v:Value} (h:W.cell? p=some v):w1.cell? p=some v:=(hb.cell (World.block_lt_of_cell? W p h)).trans h
def MarkPost (w:World) (e:Ending) (w':World):Prop :=
 ((∃ (x c:Int) (ps:List Int) (v:Value),e=.returned (.agg #[.int .i64 x,.int .i64 c,v])∧Pnt x∧(0≤c∧c≤254)∧(∀ q∈ps,Pnt q)∧ps.length≤65537∧IntsIn w' w.heap.size w'.heap.size v ps)∨e=ugives 40)∧Below w.heap.size w w'
theorem rown {w:World} {base j c:Nat} {a:Option Addr} {ps:List Int} (hj:ps.length=j) (h:OwnN w base (.slice a j c) ps):w.ownsRow base 3 1 (.slice a j c) j (nv ps):=by
 unfold OwnN at h
 rwa [hj] at h
theorem mark_ends {w F:World} {tmps:Array Value} {x c:Int} {v:Value} {ps:List Int} (hb:Blk F w.heap.size 162 #[.int .i64 x,.int .i64 c,v]) (h2:tmps.getD 2 undef=.pointer (some ⟨w.heap.size,0,none⟩)) (hx:Pnt x) (hc:0≤c∧c≤254) (hp:∀ q∈ps,Pnt q)
 (hl:ps.length≤65537) (hv:IntsIn F w.heap.size F.heap.size v ps) (hB:Below w.heap.size w F):bodyPost prog Tryz.f60 (MarkPost w) Exit.ret { tmps:=tmps,defers:=[] } F:=by
 have f0:=hb.cell 0
 have f1:=hb.cell 1
 have f2:=hb.cell 2
 simp at f0 f1 f2
 simp only [Array.getD_eq_getD_getElem?] at h2
 exact bodyPost_ret (v:=.agg #[.int .i64 x,.int .i64 c,v]) (by simp[results,Tryz.f60,Tryz.results60,go_sem,h2,f0,f1,f2]) rfl ⟨.inl ⟨x,c,ps,v,rfl,hx,hc,hp,hl,hv⟩,hB⟩
theorem mark_reads {F:World} {R base:Nat} {x c v u:Value} {ps:List Int} (h:IntsIn F base F.heap.size u ps) (hR:R<base) :
 IntsIn (((F.setCell ⟨R,0,none⟩ x).setCell ⟨R,1,none⟩ c).setCell ⟨R,2,none⟩ v) R (((F.setCell ⟨R,0,none⟩ x).setCell ⟨R,1,none⟩ c).setCell ⟨R,2,none⟩ v).heap.size u ps:=by
 obtain⟨a,cap,rfl,hc,hn,hcells⟩:=h
 exact⟨a,cap,rfl,hc,hn,fun j hj=>by
  obtain⟨g,off,ha,h3,h4,h5⟩:=hcells j hj
  refine⟨g,off,ha,by omega,by simpa using h4,?_⟩
  have e:∀ (W:World) (i:Nat) (y:Value),(W.setCell ⟨R,i,none⟩ y).cell? ⟨g,off+j,none⟩=W.cell? ⟨g,off+j,none⟩:=fun W i y=>World.cell?_of_block (Below.heap_setCell _ _ _ _ (show g≠R by omega))
  rw[e,e,e]
  exact h5⟩
theorem mark_step {w wr w4 w5:World} {base M C j vc g5 cap5:Nat} {va:Option Addr} {ps:List Int} {y:Int} {x c:Value} {ST RT:Array Value} {t1 t2 t3:TypeId} {old:Value}
 (hx5:Below wr.heap.size wr w4) (hg5:(w4.alloc (.cells #[.int .i64 y] 3)).grownBy w5 (Value.slice va j vc).ownBlock) (hO5:w4.ownsRow base 3 1 (.slice va j vc) j (nv ps))
 (hO6:w5.ownsRow base 3 1 (.slice (some ⟨g5,0,none⟩) (j+1) cap5) (j+1) (nv ps++[.int .i64 y])) (hps:ps.length=j) (hM5:Blk w5 M t1 #[x,c,old]) (hMb:M<base) (hCb:C<base) (hwM:w.heap.size<M) (hCM:C≠M) (hbs:base≤wr.heap.size)
 (HC:Blk wr C t2 ST) (HR:Blk wr w.heap.size t3 RT) (HB:Below w.heap.size w wr) :
 Blk (w5.setCell ⟨M,2,none⟩ (.slice (some ⟨g5,0,none⟩) (j+1) cap5)) M t1 #[x,c,.slice (some ⟨g5,0,none⟩) (j+1) cap5]∧OwnN (w5.setCell ⟨M,2,none⟩ (.slice (some ⟨g5,0,none⟩) (j+1) cap5)) base (.slice (some ⟨g5,0,none⟩) (j+1) cap5) (ps++[y]) ∧
 Blk (w5.setCell ⟨M,2,none⟩ (.slice (some ⟨g5,0,none⟩) (j+1) cap5)) C t2 ST∧Blk (w5.setCell ⟨M,2,none⟩ (.slice (some ⟨g5,0,none⟩) (j+1) cap5)) w.heap.size t3 RT ∧
 Below w.heap.size w (w5.setCell ⟨M,2,none⟩ (.slice (some ⟨g5,0,none⟩) (j+1) cap5))∧base≤(w5.setCell ⟨M,2,none⟩ (.slice (some ⟨g5,0,none⟩) (j+1) cap5)).heap.size:=by
 have hs:=hx5.size
 have hs2:=hg5.size
 rw[World.size_alloc] at hs2
 have old_:∀ {k:Nat} {t:TypeId} {cs:Array Value},Blk wr k t cs→k<base→k≠M→Blk (w5.setCell ⟨M,2,none⟩ (.slice (some ⟨g5,0,none⟩) (j+1) cap5)) k t cs:=fun {k t cs} h hk hne =>
  Sc.blk_other ((hg5.block k (by simp;omega) (fun e=>by have:=(World.ownsRow.lt hO5 k e.symm).1;omega)).trans (Blk.below (Blk.below h hx5 h.lt) (zr.alloc lr _) (by omega))) hne 2 _
 have hb4:Below w.heap.size w (w4.alloc (.cells #[.int .i64 y] 3)):=(HB.trans (hx5.mono HB.size)).alloc (by have:=HB.size;omega) _
 refine⟨by simpa using hM5.set_ 2 (.slice (some ⟨g5,0,none⟩) (j+1) cap5),?_,old_ HC hCb hCM,old_ HR (by omega) (by omega),(hb4.grown hg5 hb4.size (fun k e=>by have:=(World.ownsRow.lt hO5 k e).1;omega)).setCell (p:=⟨M,2,none⟩) (by show w.heap.size≤M;omega) _,by simp;omega⟩
 have:=ownsRow_setCell_below hO6 (a:=⟨M,2,none⟩) hMb (.slice (some ⟨g5,0,none⟩) (j+1) cap5)
 unfold OwnN
 rw[List.length_append,hps,← nv_append]
 exact this
theorem mark_put {F:World} {R:Nat} {x c:Int} {v:Value} {a b d:Value} (hR:Blk F R 162 #[a,b,d]) :
 Blk (((F.setCell ⟨R,0,none⟩ (.int .i64 x)).setCell ⟨R,1,none⟩ (.int .i64 c)).setCell ⟨R,2,none⟩ v) R 162 #[.int .i64 x,.int .i64 c,v]:=by
 simpa using ((hR.set_ 0 (.int .i64 x)).set_ 1 (.int .i64 c)).set_ 2 v
theorem mark_any (s:ByteArray) (hs:s.size≤65536) (w:World) (hg:GLd w):Calls prog 60 #[.string s] w (MarkPost w):=by
 obtain⟨W0,hW0⟩:∃ W0,w.alloc (.cells #[.int .i64 0,.int .i64 0,.slice none 0 0] 162)=W0:=⟨_,rfl⟩
 have hb0:Below w.heap.size w W0:=by rw[← hW0];exact zr.alloc lr _
 have HG:=zh hg
 have HS:=zh (Split_any 59 s (by omega) W0 (hg.later hb0))
 have HSm:=zh (linesOf_small 59 s)
 have HB0:=zh hb0
 have HR:Blk W0 w.heap.size 162 #[.int .i64 0,.int .i64 0,.slice none 0 0]:=by rw[← hW0];exact Blk.new _ _ _
 have HR:=zh HR
 have HW0:=zh hW0
 clear hg hb0 hW0
 go_enter func60,ntmps60
 go_wp2_with fail
 rw[HW0.out]
 refine HS.out.mono ?_
 rintro e w1 ⟨rfl,hbl,hb1⟩
 obtain⟨B,hB⟩:∃ B,W0.heap.size=B:=⟨_,rfl⟩
 obtain⟨l,hl⟩:∃ l,linesOf 59 s=l:=⟨_,rfl⟩
 rw[hl,hB] at hbl
 rw[hl] at HSm ⊢
 rw[hB]
 have HB1:=zh (HB0.out.trans (hb1.mono HB0.out.size))
 have HR1:=zh (Blk.below HR.out hb1 HR.out.lt)
 have hz1:=HR1.out.lt
 have hwB:w.heap.size<B:=by rw[← hB];exact HR.out.lt
 obtain⟨n,hn⟩:∃ n,l.length=n:=⟨_,rfl⟩
 rw[hn]
 clear HR HB0 HW0 HS hb1
 by_cases h3:n=3
 case neg =>
  have q1:((n:Int) != 3)=true:=by simp;omega
  clear h3
  go_wp2_with fail
  exact⟨rfl,.inr rfl,HB1.out⟩
 subst h3
 match l,hn,hbl,HSm with
 | [a,b,c],_,hbl,HSm =>
 have ha:a.size≤s.size:=HSm.out a (by simp)
 have hbs:b.size≤s.size:=HSm.out b (by simp)
 have hcs:c.size≤s.size:=HSm.out c (by simp)
 have HL:=zh hbl
 have hBB:=hbl.lt
 have c0:w1.cell? ⟨B,0,none⟩=some (.string a):=by simpa using hbl.cell 0
 have HP:=zh (read_any a (by omega) w1 (HG.out.later HB1.out))
 clear hbl hB
 go_wp2_with fail
 refine HP.out.mono ?_
 rintro e w2 ⟨⟨x,rfl,hx⟩ | he,hb2⟩
 case inr =>
  unfold ugives at he
  subst he
  exact⟨rfl,.inr rfl,HB1.out.trans (hb2.mono HB1.out.size)⟩
 have HX:=zh hx
 have HB2:=zh (HB1.out.trans (hb2.mono HB1.out.size))
 have HL2:=zh (Blk.below HL.out hb2 HL.out.lt)
 have HR2:=zh (Blk.below HR1.out hb2 HR1.out.lt)
 have hz2:w1.heap.size≤w2.heap.size:=hb2.size
 obtain⟨W2,hW2⟩:∃ W2,w2.alloc (.cells #[.int .i64 x,.int .i64 0,.slice none 0 0] 162)=W2:=⟨_,rfl⟩
 obtain⟨M,hM⟩:∃ M,w2.heap.size=M:=⟨_,rfl⟩
 have hb3:Below w2.heap.size w2 W2:=by rw[← hW2];exact zr.alloc lr _
 have HM3:Blk W2 M 162 #[.int .i64 x,.int .i64 0,.slice none 0 0]:=by rw[← hW2,← hM];exact Blk.new _ _ _
 have HM3:=zh HM3
 have HL3:=zh (Blk.below HL2.out hb3 HL2.out.lt)
 have HR3:=zh (Blk.below HR2.out hb3 HR2.out.lt)
 have HB3:=zh (HB2.out.trans (hb3.mono HB2.out.size))
 have HA:=zh (Atoi_any b (by omega) W2 (HG.out.later HB3.out))
 have c1:w2.cell? ⟨B,1,none⟩=some (.string b):=by simpa using HL2.out.cell 1
 have hBM:B<M:=by omega
 have HW2:=zh hW2
 clear HP hx hb2 hb3 c0 hW2
 go_wp2_with fail
 rw[HW2.out]
 refine HA.out.mono ?_
 rintro e w3 ⟨⟨cl,v,rfl,hv⟩,hb4⟩
 have HB4:=zh (HB3.out.trans (hb4.mono HB3.out.size))
 have HM4:=zh (Blk.below HM3.out hb4 HM3.out.lt)
 have HL4:=zh (Blk.below HL3.out hb4 HL3.out.lt)
 have HR4:=zh (Blk.below HR3.out hb4 HR3.out.lt)
 clear HA hb4 c1
 rcases hv with rfl | ⟨T,V,rfl⟩
 case inr =>
  go_wp2_with fail
  go_quiet (fail)
  go_wp2_with fail
  exact⟨rfl,.inr rfl,below_drewN HB4.out nq⟩
 by_cases hc0:cl<0
 · have q1:decide (cl<0)=true:=decide_eq_true hc0
   clear hc0
   go_wp2_with fail
   go_quiet (fail)
   go_wp2_with fail
   exact⟨rfl,.inr rfl,below_drewN HB4.out nq⟩
 by_cases hc1:254<cl
 · have q1:decide (cl<0)=false:=decide_eq_false hc0
   have q2:decide (254<cl)=true:=decide_eq_true hc1
   clear hc0 hc1
   go_wp2_with fail
   go_quiet (fail)
   go_wp2_with fail
   exact⟨rfl,.inr rfl,below_drewN HB4.out nq⟩
 have q1:decide (cl<0)=false:=decide_eq_false hc0
 have q2:decide (254<cl)=false:=decide_eq_false hc1
 have HC:=zh (show 0≤cl∧cl≤254 by omega)
 clear hc0 hc1
 have e1:w3.cell? ⟨B,1,none⟩=some (.string b):=by simpa using HL4.out.cell 1
 have HI:=zh (fun (w':World) (hb:Below w3.heap.size w3 w')=>Itoa_any cl HC.out.1 (by have:=HC.out.2;omega) w' ((HG.out.later HB4.out).later hb))
 have e1d:w3.drew.cell? ⟨B,1,none⟩=some (.string b):=e1
 have hbd:Below w3.heap.size w3 w3.drew:=(Below.refl w3.heap.size w3).drew
 go_wp2_with fail
 go_region_held3 (fun w'=>w'.cell? ⟨B,1,none⟩=some (.string b)∧Below w3.heap.size w3 w') (go_keep) (first
  | (go_at_call 89;refine(HI.out w3.drew hbd).mono ?_;rintro e w9 ⟨p,rfl,hb9⟩;have k1:=keepsL hb9 e1d;have kb:=twoL hbd hb9)
  | (go_simp;go_at_call 89;refine(HI.out w3.drew hbd).mono ?_;rintro e w9 ⟨p,rfl,hb9⟩;have k1:=keepsL hb9 e1d;have kb:=twoL hbd hb9))
 have HB9:=zh (HB4.out.trans (kb.mono HB4.out.size))
 have HM9:=zh (Blk.below HM4.out kb HM4.out.lt)
 have HL9:=zh (Blk.below HL4.out kb HL4.out.lt)
 have HR9:=zh (Blk.below HR4.out kb HR4.out.lt)
 clear kb hbd HI e1
 by_cases hpb:p.toList=b.toList
 case neg =>
  have hq:(p.toList==b.toList)=false:=by simpa using hpb
  clear hpb
  simp only [hq,Bool.not_false]
  go_wp2_with fail
  exact⟨rfl,.inr rfl,HB9.out⟩
 have hq:(p.toList==b.toList)=true:=by simpa using hpb
 have n1:w9.cell? ⟨M,1,none⟩=some (.int .i64 0):=by simpa using HM9.out.cell 1
 have z1:=HM9.out.frozen 1
 have g2:w9.cell? ⟨B,2,none⟩=some (.string c):=by simpa using HL9.out.cell 2
 have hBM':B≠M:=by omega
 have HB10:=zh (HB9.out.setCell (p:=⟨M,1,none⟩) (show w.heap.size≤M by omega) (.int .i64 cl))
 have HM10:=zh (show Blk (w9.setCell ⟨M,1,none⟩ (.int .i64 cl)) M 162 #[.int .i64 x,.int .i64 cl,.slice none 0 0] by simpa using HM9.out.set_ 1 (.int .i64 cl))
 have HL10:=zh (Sc.blk_other HL9.out hBM' 1 (.int .i64 cl))
 have HR10:=zh (Sc.blk_other HR9.out (show w.heap.size≠M by omega) 1 (.int .i64 cl))
 have hz9:=HM9.out.lt
 clear hpb
 simp only [hq,Bool.not_true]
 by_cases hc:c.size=0
 · have hce:c.toList.isEmpty=true:=by
    obtain⟨⟨cl⟩⟩:=c
    cases cl with
    | nil=>rw[← decide_eq_emptyBytes];rfl
    | cons _ _=>simp[ByteArray.size] at hc
   have n0:w9.cell? ⟨M,0,none⟩=some (.int .i64 x):=by simpa using HM9.out.cell 0
   have n2:w9.cell? ⟨M,2,none⟩=some (.slice none 0 0):=by simpa using HM9.out.cell 2
   have r0:w9.cell? ⟨w.heap.size,0,none⟩=some (.int .i64 0):=by simpa using HR9.out.cell 0
   have r1:w9.cell? ⟨w.heap.size,1,none⟩=some (.int .i64 0):=by simpa using HR9.out.cell 1
   have r2:w9.cell? ⟨w.heap.size,2,none⟩=some (.slice none 0 0):=by simpa using HR9.out.cell 2
   have y0:=HR9.out.frozen 0
   have y1:=HR9.out.frozen 1
   have y2:=HR9.out.frozen 2
   have hMR:M≠w.heap.size:=by omega
   have hRM:w.heap.size≠M:=by omega
   have HF:=zh (mark_put (x:=x) (c:=cl) (v:=.slice none 0 0) (Sc.blk_other HR9.out hRM 1 (.int .i64 cl)))
   go_wp2_with fail
   exact mark_ends (ps:=[]) HF.out rfl HX.out HC.out (fun q h=>by cases h) (Nat.zero_le _) (IntsIn.nil _ _ _) (((HB10.out.setCell (p:=⟨w.heap.size,0,none⟩) lr _).setCell (p:=⟨w.heap.size,1,none⟩) lr _).setCell (p:=⟨w.heap.size,2,none⟩) lr _)
 have hce:c.toList.isEmpty=false:=by
  rw[← decide_eq_emptyBytes]
  exact decide_eq_false (fun e=>hc (by rw[e];rfl))
 obtain⟨W10,hW10⟩:∃ W,w9.setCell ⟨M,1,none⟩ (.int .i64 cl)=W:=⟨_,rfl⟩
 rw[hW10] at HB10 HM10 HL10 HR10
 have HW10:=zh hW10
 have HS:=zh (Split_any 32 c (by omega) W10 (HG.out.later HB10.out))
 have HSc:=zh (linesOf_small 32 c)
 have HSl:=zh (linesOf_le 32 c)
 have hz10:w9.heap.size=W10.heap.size:=by rw[← hW10];simp
 clear hW10
 go_wp2_with fail
 rw[HW10.out]
 refine HS.out.mono ?_
 rintro e W11 ⟨rfl,hbl,hb11⟩
 obtain⟨C,hC⟩:∃ C,W10.heap.size=C:=⟨_,rfl⟩
 obtain⟨lc,hlc⟩:∃ lc,linesOf 32 c=lc:=⟨_,rfl⟩
 obtain⟨nc,hnc⟩:∃ nc,lc.length=nc:=⟨_,rfl⟩
 rw[hlc] at HSc HSl hbl ⊢
 rw[hnc] at HSl ⊢
 rw[hC] at hbl ⊢
 have HB11:=zh (HB10.out.trans (hb11.mono HB10.out.size))
 have HM11:=zh (Blk.below HM10.out hb11 HM10.out.lt)
 have HR11:=zh (Blk.below HR10.out hb11 HR10.out.lt)
 have HC11:=zh hbl
 have hz11:C<W11.heap.size:=hbl.lt
 have hncl:nc≤65537:=by have:=HSl.out;omega
 have HNC:=zh hnc
 obtain⟨base,hbase⟩:∃ base,W11.heap.size=base:=⟨_,rfl⟩
 have hMb:M<base:=by omega
 have hCb:C<base:=by omega
 clear hbl hb11 HS HW10 hlc hnc n1 z1 g2 hq e1d k1 hb9 hce hc
 go_wp2_with fail
 go_loopw [59] (fun iv wr=>∃ (j:Nat) (ps:List Int) (v:Value),iv=.int .i64 j∧j≤nc∧ps.length=j∧RowKit.Hid (∀ q∈ps,Pnt q)∧RowKit.Hid (Blk wr M 162 #[.int .i64 x,.int .i64 cl,v])∧RowKit.Hid (OwnN wr base v ps)∧RowKit.Hid (Blk wr C 9 (lc.map Value.string).toArray) ∧
  RowKit.Hid (Blk wr w.heap.size 162 #[.int .i64 0,.int .i64 0,.slice none 0 0])∧RowKit.Hid (Below w.heap.size w wr)∧base≤wr.heap.size) (fun i _=>nc-(intOf i).toNat)
 case atStart=>exact⟨0,[],.slice none 0 0,rfl,Nat.zero_le _,rfl,zh (fun q h=>by cases h),HM11,zh (OwnN.nil _ _),HC11,HR11,HB11,by omega⟩
 case round =>
  obtain⟨j,ps,v,rfl,hj,hps,HP,HM,HO,HC,HR,HB,hbs⟩:=hrel
  obtain⟨va,vc,rfl⟩:=row_slice HO.out
  by_cases hlt:j<nc
  · obtain⟨q,hq⟩:∃ q,lc[j]?=some q:=⟨_,List.getElem?_eq_getElem (by rw[HNC.out];exact hlt)⟩
    have hqs:q.size≤c.size:=HSc.out q (List.mem_of_getElem? hq)
    have cq:wr.cell? ⟨C,j,none⟩=some (.string q):=(HC.out.cell j).trans (by simp[hq])
    have m2:wr.cell? ⟨M,2,none⟩=some (.slice va ps.length vc):=by simpa using HM.out.cell 2
    have zm2:=HM.out.frozen 2
    have hlM:=HM.out.lt
    rw[hps] at m2
    have HRD:=zh (read_any q (by omega) wr.drew (HG.out.later HB.out.drew))
    obtain⟨i0,hinf,hz0,hz1,hz2⟩:=info_parts infoInt
    have HO4:=HO.out
    rw[hps] at HO4
    clear hq
    go_wp2_with fail
    go_region_law (first
     | (go_simp;go_at_call 87;refine HRD.out.mono ?_;intro e w4 hpg;obtain⟨hpg,hx4⟩:=hpg;rcases hpg with ⟨y,rfl,hy⟩ | he;rotate_left;(unfold ugives at he;subst he;go_wp2_with fail;(exact⟨rfl,.inr rfl,HB.out.drew.trans (hx4.mono HB.out.size)⟩));
         have hx5:Below wr.heap.size wr w4:=⟨hx4.os,hx4.tape,hx4.output,hx4.size,hx4.block⟩;have hO5:=rown hps (OwnN.below HO4 hx5);have hs5:=hx5.size;have hMM:=Blk.below HM.out hx5 hlM;have p4:=keepsL hx5 m2;have b4:=Nat.lt_of_lt_of_le hlM hx5.size)
     | (refine step_append_lies _ rfl (.tmp 64) (.tmp 67) 42 rfl base 3 i0 (.int .i64 0) 1 8 underlying42 hinf hz0 hz1 hz2 rfl (by decide) (.slice va j vc) j (nv ps) (by simp[Act.eval,Act.put]) (hO5.alloc _) ⟨w4.heap.size,0,none⟩ 1 1 [.int .i64 y] (by simp[Act.eval,Act.put]) rfl (cell_one_new _ _ _) (by intro u hu;rw[List.mem_singleton.1 hu];rfl) (by decide) (by unfold maxLen;omega) (by omega) (by simp;omega) _ rfl ?_;intro g5 cap5 w5 hO6 hg5 hlies hgl;
         have hM5:Blk w5 M 162 #[.int .i64 x,.int .i64 cl,.slice va j vc]:=(by rw[hps] at hMM;exact(hg5.block M (by simp;omega) (fun e=>by have:=(World.ownsRow.lt hO5 M e.symm).1;omega)).trans (Blk.below hMM (zr.alloc lr _) b4));
         have p5:=hM5.cell 2;have z5:=hM5.frozen 2;simp at p5))
    all_goals
     obtain⟨s1,s2,s3,s4,s5,s6⟩:=mark_step hx5 hg5 hO5 hO6 hps hM5 hMb hCb (show w.heap.size<M by omega) (show C≠M by omega) hbs HC.out HR.out HB.out
     have S1:=zh s1
     have S2:=zh s2
     have S3:=zh s3
     have S4:=zh s4
     have S5:=zh s5
     have HPY:=zh (show ∀ q∈ps++[y],Pnt q from fun q hq=>by
      rcases List.mem_append.1 hq with h | h
      · exact HP.out q h
      · rw[List.mem_singleton.1 h];exact hy)
     clear s1 s2 s3 s4 s5 hy hO5 hO6 hMM
     go_wp2_with fail
     exact⟨⟨j+1,ps++[y],_,by simp,by omega,by simp[hps],HPY,S1,S2,S3,S4,S5,s6⟩,by simp[intOf];omega⟩
  · have m2:wr.cell? ⟨M,2,none⟩=some (.slice va ps.length vc):=by simpa using HM.out.cell 2
    have hf:=mark_put (x:=x) (c:=cl) (v:=.slice va ps.length vc) HR.out
    have hv:=HO.out.reads
    rw[hps] at m2 hf hv
    have HF:=zh hf
    have HV:=zh hv
    have HPS:=zh (show ps.length≤65537 by omega)
    clear hf hv hps
    obtain rfl:j=nc:=by omega
    have m0:wr.cell? ⟨M,0,none⟩=some (.int .i64 x):=by simpa using HM.out.cell 0
    have m1:wr.cell? ⟨M,1,none⟩=some (.int .i64 cl):=by simpa using HM.out.cell 1
    have r0:wr.cell? ⟨w.heap.size,0,none⟩=some (.int .i64 0):=by simpa using HR.out.cell 0
    have r1:wr.cell? ⟨w.heap.size,1,none⟩=some (.int .i64 0):=by simpa using HR.out.cell 1
    have r2:wr.cell? ⟨w.heap.size,2,none⟩=some (.slice none 0 0):=by simpa using HR.out.cell 2
    have y0:=HR.out.frozen 0
    have y1:=HR.out.frozen 1
    have y2:=HR.out.frozen 2
    go_wp2_with fail
    exact mark_ends HF.out rfl HX.out ‹RowKit.Hid (0≤cl∧cl≤254)›.out HP.out HPS.out (mark_reads HV.out (by omega)) (((HB.out.setCell (p:=⟨w.heap.size,0,none⟩) lr _).setCell (p:=⟨w.heap.size,1,none⟩) lr _).setCell (p:=⟨w.heap.size,2,none⟩) lr _)
end Lo
namespace D
open Go.Maps Go.ChangeMaps
theorem OwnN.blocks {w w':World} {base:Nat} {v:Value} {l:List Int} (h:OwnN w base v l) (hb:∀ k,base≤k→w'.heap[k]?=w.heap[k]?):OwnN w' base v l:=by
 refine⟨h.1,?_⟩
 rcases h.2 with hn | ⟨g,cap,cur,rfl,hg,hgg,rest⟩
 · exact .inl hn
 · exact .inr ⟨g,cap,cur,rfl,hg,(hb g hg).trans hgg,rest⟩
theorem OwnN.pop {w:World} {base g cap m:Nat} {L:List Int} {p:Int} (h:OwnN w base (.slice (some ⟨g,0,none⟩) (m+1) cap) (L++[p])) (hm:L.length=m):OwnN w base (.slice (some ⟨g,0,none⟩) m cap) L:=by
 unfold OwnN at h ⊢
 rw[List.length_append,List.length_singleton,hm,← nv_append] at h
 rw[hm]
 exact ownsRow_pop (by rw[nv_length,hm,Nat.mul_one]) h
theorem OwnN.some_ {w:World} {base m:Nat} {v:Value} {L:List Int} {p:Int} (h:OwnN w base v (L++[p])) (hm:L.length=m):∃ g cap,v=.slice (some ⟨g,0,none⟩) (m+1) cap:=by
 rcases h.2 with ⟨_,h0⟩ | ⟨g,cap,_,rfl,_⟩
 · simp at h0
 · exact⟨g,cap,by rw[List.length_append,List.length_singleton,hm]⟩
theorem OwnN.last {w:World} {base g cap m:Nat} {L:List Int} {p:Int} (h:OwnN w base (.slice (some ⟨g,0,none⟩) (m+1) cap) (L++[p])) (hm:L.length=m):g<w.heap.size∧w.cell? ⟨g,m,none⟩=some (.int .i64 p)∧m+1≤cap:=by
 obtain⟨a,cap',he,hc,_,hcells⟩:=h.reads
 injection he with e1 e2 e3
 subst e3
 obtain⟨g',off,ha,_,h4,h5⟩:=hcells m (by simp;omega)
 rw[← e1] at ha
 injection ha with ha
 injection ha with h6 h7
 subst h6 h7
 refine⟨h4,?_,by omega⟩
 rw[Nat.zero_add] at h5
 rw[h5]
 subst hm
 simp
theorem DataAt.looks {w:World} {lo hi:Nat} {v:Value} {D:Dm} (h:DataAt w lo hi v D) :
 ∃ pd b,v=.pointer (some ⟨pd,0,none⟩)∧pd<hi∧b<hi∧w.cell? ⟨pd,0,none⟩=some (.map (some b)) ∧
  ∀ x,isI64 x→∃ (y:Int) (a:Option Addr) (cap:Nat),IntsIn w lo hi (.slice a (partsOf D x).length cap) (partsOf D x) ∧
   ∀ w',w'.heap[b]?=w.heap[b]?→(Instr.lookup 155 (.map (some b)) (.int .i64 x) false).run prog w'=.ok (.agg #[.int .i64 y,.int .i64 (classM D x),.slice a (partsOf D x).length cap]) w':=by
 obtain⟨pd,b,f,n,rfl,h1,h2,h3,h4,h5,h6,h7⟩:=h
 refine⟨pd,b,rfl,h1.2,h3.2,h2,fun x hx=>?_⟩
 cases hd:D x with
 | none =>
  refine⟨0,none,0,by simpa[partsOf,hd] using IntsIn.nil w lo hi,fun w' hw=>?_⟩
  have hl:=(h4.of_block hw).look (int_keyed underlying3) underlying155 (Tryz.zeroValue162 _) (keyOf_int_mk underlying3 (wf64 hx)) false
  rw[h6 x hd] at hl
  simpa[lookR,classM,partsOf,hd] using hl
 | some cl =>
  obtain⟨c,l⟩:=cl
  obtain⟨s,hs,hi⟩:=h7 x c l hd
  obtain⟨a,cap,rfl,_⟩:=hi.form
  refine⟨x,a,cap,by simpa[partsOf,hd] using hi,fun w' hw=>?_⟩
  have hl:=(h4.of_block hw).look (int_keyed underlying3) underlying155 (Tryz.zeroValue162 _) (keyOf_int_mk underlying3 (wf64 hx)) false
  rw[hs] at hl
  simpa[lookR,classM,partsOf,hd] using hl
theorem zeroBool (w:World):(zeroValue 4).run prog w=.ok (.bool false) w:=Tryz.zeroValue4 _
theorem leads_any {D:Dm} (wp:Wp D) (K:List Int) (hk:∀ y,partsOf D y≠[]→y∈K) (hn:∀ y,(partsOf D y).length≤65537) (hkl:K.length≤4096) (v:Value) (x:Int) (w:World) (hx:isI64 x) (hd:DataAt w 0 w.heap.size v D) :
 Calls prog 61 #[v,.int .i64 x] w fun e w'=>(∃ b:Bool,e=.returned (.bool b)∧(b=false→¬ Lead D x x))∧Below w.heap.size w w':=by
 obtain⟨pd,b,rfl,h1,h2,h3,h4⟩:=hd.looks
 have HL:=zh h4
 obtain⟨y,a,cap,hi,hlk⟩:=h4 x hx
 have HPI:=zh (show ∀ k,∀ q∈partsOf D k,isI64 q from fun k q hq=>by have:=wp.at hq;unfold isI64;omega)
 have hR0:=rest_le (n:=65537) K hn
 obtain⟨N0,hN0⟩:∃ N0,(partsOf D x).length+rest D K (fun _=>false)=N0:=⟨_,rfl⟩
 have HN:=zh (show N0≤300000000 by have h1:=hn x;have h2:K.length*65537≤4096*65537:=Nat.mul_le_mul_right _ hkl;omega)
 have HK:=zh hk
 have HNN:=zh hn
 have HE:=zh hN0
 have lk:=hlk (w.alloc (.map #[] 0)) ((Below.refl w.heap.size w).alloc lr (.map #[] 0) |>.block b h2)
 have fd:=mark2 y (classM D x) a (partsOf D x).length cap
 have HI:=zh hi
 clear hi hlk h4 hR0 hN0 hk hn wp hd
 have hmk:∀ w:World,(Instr.makeMap 226 none).run prog w=.ok (.map (some w.heap.size)) (w.alloc (.map #[] 0)):=fun _=>rfl
 go_enter func61,ntmps61
 go_wp2_with fail
 have hb1:Below w.heap.size w (w.alloc (.map #[] 0)):=zr.alloc lr _
 have hm1:=MapIs.made prog 3 (Value.int .i64) w
 refine(cloneN_any (.slice a (partsOf D x).length cap) (partsOf D x) (w.alloc (.map #[] 0)) 0 w.heap.size (HI.out.later hb1) hb1.size (by have:=HNN.out x;omega)).mono ?_
 rintro e w1 ⟨u,rfl,hu,hb2⟩
 have HB1:=zh (hb1.trans (hb2.mono hb1.size))
 have HM1:=zh (hm1.keep hb2)
 have HU:=zh (show OwnN w1 (w.heap.size+1) u (partsOf D x) from hu.low (by simp))
 clear hb1 hm1 hu hb2 lk fd
 go_wp2_with fail
 go_loopg [6] N0 (fun k lv wr=>∃ (L:List Int) (M:Int→Bool) (f:Int→Option Value) (n:Nat),RowKit.Hid (OwnN wr (w.heap.size+1) lv L)∧RowKit.Hid (MapIs prog 3 (Value.int .i64) wr w.heap.size f n)∧Below w.heap.size w wr∧n+k≤N0 ∧
  RowKit.Hid ((∀ y,f y=if M y then some (.bool true) else none)∧Met D x M L∧L.length+rest D K M≤k∧∀ q∈L,isI64 q))
 case atStart=>exact⟨partsOf D x,fun _=>false,fun _=>none,0,HU,HM1,HB1.out,by omega,zh ⟨fun _=>rfl,Met.first D x,Nat.le_of_eq HE.out,HPI.out x⟩⟩
 case round =>
  obtain⟨L,M,f,n,HO,HM,hB,hnk,HX⟩:=hrel
  by_cases hL:L=[]
  · subst hL
    obtain⟨a7,cap7,rfl⟩:=row_slice HO.out
    go_wp2_with fail
    go_ret
    exact⟨⟨false,rfl,fun _=>HX.out.2.1.done⟩,hB⟩
  obtain⟨L1,p,rfl⟩:∃ L1 p,L=L1++[p]:=⟨L.dropLast,L.getLast hL,(List.dropLast_concat_getLast hL).symm⟩
  obtain⟨m,hm⟩:∃ m,L1.length=m:=⟨_,rfl⟩
  have HO':=HO.out
  obtain⟨g,cap7,rfl⟩:=OwnN.some_ HO' hm
  obtain⟨hg,hc,hcap⟩:=OwnN.last HO' hm
  have HP:=zh (OwnN.pop HO' hm)
  have hmN:m+1≤300000000:=by
   have h1:=HX.out.2.2.1
   have h2:=HN.out
   rw[List.length_append,List.length_singleton] at h1
   omega
  have hpI:isI64 p:=HX.out.2.2.2 p (by simp)
  have cpd:wr.cell? ⟨pd,0,none⟩=some (.map (some b)):=(hB.cell (p:=⟨pd,0,none⟩) h1).trans h3
  have lkm:=HM.out.look (int_keyed underlying3) underlying226 (zeroBool wr) (keyOf_int_mk underlying3 (wf64 hpI)) false
  rw[HX.out.1 p] at lkm
  have q1:decide ((0:Int)<(m:Int)+1)=true:=decide_eq_true (by omega)
  clear HO' hL
  by_cases hpx:p=x
  · subst hpx
    go_wp2_with fail
    go_ret
    exact⟨⟨true,rfl,fun h=>by cases h⟩,hB⟩
  have q2:(p==x)=false:=by simpa using hpx
  have HPX:=zh hpx
  clear hpx
  cases hMp:M p with
  | true =>
   rw[hMp] at lkm
   simp only [lookR,if_true] at lkm
   have HMp:=zh hMp
   clear hMp
   go_wp2_with fail
   go_roundg (gk-1)
   case rel=>exact⟨L1,M,f,n,HP,HM,hB,by omega,zh ⟨HX.out.1,HX.out.2.1.skip HMp.out,by have:=HX.out.2.2.1;rw[List.length_append,List.length_singleton] at this;omega,fun q hq=>HX.out.2.2.2 q (by simp[hq])⟩⟩
   case measure=>have:=HX.out.2.2.1;rw[List.length_append,List.length_singleton] at this;omega
  | false =>
   rw[hMp] at lkm
   simp only [lookR,Bool.false_eq_true,if_false] at lkm
   have HMp:=zh hMp
   clear hMp
   obtain⟨w2,hst,hm2,o,ho⟩:=HM.out.store (int_keyed underlying3) underlying226 (fun x y h=>by injection h) (by have:=HN.out;unfold maxLen;omega) (keyOf_int_mk underlying3 (wf64 hpI)) (.bool true)
   have HM2:=zh hm2
   have hsz2:w2.heap.size=wr.heap.size:=by rw[ho,setBlock_size]
   have hB2:Below w.heap.size wr w2:=by rw[ho];exact setBlock_below o lr
   have HP2:=zh (OwnN.blocks HP.out (w':=w2) (fun k hk=>by rw[ho];exact setBlock_other o (by omega)))
   have cpd2:w2.cell? ⟨pd,0,none⟩=some (.map (some b)):=(hB2.cell (p:=⟨pd,0,none⟩) (by show pd<w.heap.size;omega)).trans cpd
   obtain⟨y2,a2,cap2,hi2,hlk2⟩:=HL.out p hpI
   have hBw2:Below w.heap.size w w2:=hB.trans hB2
   have lk2:=hlk2 w2 (hBw2.block b h2)
   have fd2:=mark2 y2 (classM D p) a2 (partsOf D p).length cap2
   have hi3:=hi2.later hBw2
   have hrp:=rest_put HMp.out (HK.out p)
   have HRP:=zh hrp
   have hlen:L1.length+(partsOf D p).length≤1099511627776:=by
    have h1:=HX.out.2.2.1
    have h2:=HN.out
    rw[List.length_append,List.length_singleton] at h1
    omega
   have HHM:=zh hm
   have hbs2:w.heap.size+1≤w2.heap.size:=by have:=HM.out.lt;omega
   have HP3:=HP2.out
   rw[← hm] at HP3
   clear hi2 hlk2 ho hm2 hrp
   go_wp2_with (at_builtin;refine wpList_append_ints rfl (.tmp 40) (.tmp 47) rfl rfl HP2.out rfl hi3 hlen zr hbs2 ?_;intro c3 cap3 w3 hO3 hB3 _ _)
   have hf:f p=none:=by rw[HX.out.1 p,HMp.out];rfl
   have hlk:L1.length+rest D K M+1≤gk:=by have h1:=HX.out.2.2.1;rw[List.length_append,List.length_singleton] at h1;omega
   go_roundg (gk-1)
   case rel =>
    refine⟨L1++partsOf D p,fun y=>decide (y=p) || M y,_,_,zh (by rw[← HHM.out];exact hO3),zh (HM2.out.later hB3 (Nat.lt_succ_self _)),hBw2.trans (hB3.mono (Nat.le_succ _)),?_,zh ⟨fun y=>?_,HX.out.2.1.take HPX.out,?_,?_⟩⟩
    · rw[if_pos hf];omega
    · by_cases hy:y=p
      · subst hy;simp[putM_same]
      · rw[putM_other _ _ hy,HX.out.1 y];simp[hy]
    · have:=HRP.out;rw[List.length_append];omega
    · intro q hq
      rcases List.mem_append.1 hq with hq | hq
      · exact HX.out.2.2.2 q (by simp[hq])
      · exact HPI.out p q hq
   case measure=>omega
end D
namespace Sc
open V (Same Pt VI mayB mayB_ok)
def GErr (w:World):Prop:=w.cell? ⟨1,0,none⟩=some (.iface 197 (.agg #[.pointer (some ⟨11,36,none⟩)]))
theorem GErr.later {w w':World} (h:GErr w) (hb:Below w.heap.size w w'):GErr w':=V.keeps hb h
theorem step_append_row {P:Program} {ops:Array Oper} {o:Oper} {a:Act} {w:World} {K:Act→World→Prop} {Q:Exit→Act→World→Prop} {E:Prop} (hgd:o.guard=none) (s x:Operand) (t:TypeId)
 (ho:o.op=.call { callee:=.builtin .append,args:=#[s,x],argTypes:=#[t,t] }) (e:TypeId) (z:Value) (size bytes:Nat) (ht:P.underlying t=some (.slice e))
 (hinfo:(P.info? e).map (fun i=>(i.zero,i.size,i.bytes))=some (some z,size,bytes)) (hzs:z.cells.size=size) (hsz:0<size)
 {base n:Nat} {v:Value} {xs:List Value} (hs:a.eval s=v) (hown:w.ownsRow base e size v n xs) {lo hi m:Nat} {u:Value} {news:List Value} (hx:a.eval x=u) (hu:RowIn size w lo hi u m news) (h1:∀ u∈news,u.oneCell'=true)
 (hlen:n+m≤1099511627776) (hby:bytes≤64) (hbase:base≤w.heap.size)
 (h:∀ c cap w',w'.ownsRow base e size (.slice c (n+m) cap) (n+m) (xs++news)→w.grownBy w' v.ownBlock→K (a.put o.dst (.slice c (n+m) cap)) w') :
 if Region.wanted o (yielded ops a.tmps)=true then Oper.wp P o a w K Q else E:=by
 have hw:Region.wanted o (yielded ops a.tmps)=true:=by simp[Region.wanted,hgd]
 rw[if_pos hw]
 obtain⟨i0,hi,hz0,hz1,hz2⟩:=info_parts hinfo
 obtain⟨hl,ad,cap,rfl,hc,hn,hcells⟩:=hu
 cases ad with
 | none =>
  obtain rfl:=hn rfl
  obtain rfl:m=0:=by omega
  have hm:news=[]:=List.eq_nil_of_length_eq_zero (by omega)
  subst hm
  obtain⟨c,cap',rfl⟩:=row_slice hown
  have hrun:=run_append_owned_none (P:=P) (w:=w) base t o.type e i0 size ht hi (.slice c n cap') n xs hown
  unfold Oper.wp
  simp[execOp,ho,resolve,invoke,builtin,hs,hx,hrun,Result.andThen]
  exact h c cap' w (by simpa using hown) ⟨rfl,rfl,rfl,Nat.le_refl _,fun _ _ _=>rfl⟩
 | some ad =>
  have hnews:∀ j u,news[j]?=some u→w.cell? (ad.add j)=some u:=by
   intro j u hu
   obtain⟨hj,rfl⟩:=List.getElem?_eq_some_iff.1 hu
   obtain⟨g,off,ha,_,_,h3⟩:=hcells j hj
   cases ha
   by_cases h0:j=0
   · subst h0;simpa[Addr.add] using h3
   · simpa[Addr.add,h0] using h3
  refine wp_append_own w s x t ho base e i0 z size bytes ht hi hz0 hz1 hz2 hzs hsz v n xs hs hown ad m cap news hx hl hnews h1 (Nat.le_trans hlen (by decide)) (Nat.le_trans (Nat.mul_le_mul hlen hby) (by decide)) hbase (fun v' w' h1 h2 _=>?_)
  obtain⟨c,cap',rfl⟩:=row_slice h1
  exact h c cap' w' h1 h2
theorem blk_alloc {w:World} {g:Nat} {t:TypeId} {cs:Array Value} (h:Blk w g t cs) (o:Obj):Blk (w.alloc o) g t cs:=Blk.below h (zr.alloc lr o) h.lt
theorem blk_one {w:World} {g:Nat} {t:TypeId} {v:Value} (h:Blk w g t #[v]) (u:Value):Blk (w.setCell ⟨g,0,none⟩ u) g t #[u]:=by simpa using h.set_ 0 u
theorem as_fault (e:Addr) (g:Nat) (w:World) (hg:GErr w) (hb:Blk w g 39 #[.pointer none]) :
 Calls prog 42 #[.iface 39 (.pointer (some e)),.iface 114 (.pointer (some ⟨g,0,none⟩))] w fun ev w'=>ev=.returned (.bool true)∧Blk w' g 39 #[.pointer (some e)]∧Xv (· = g) w w':=by
 refine(as_hit e ⟨g,0,none⟩ (.pointer none) w hg (by simpa using hb.cell 0) (hb.frozen 0)).mono ?_
 rintro ev w' ⟨rfl,rfl⟩
 refine⟨rfl,?_,?_⟩
 · exact blk_one (blk_alloc (blk_alloc (blk_alloc (blk_alloc hb _) _) _) _) _
 · exact((((((Xv.refl (· = g) w).alloc _).alloc _).alloc _).alloc _).set_ (fun _=>rfl) 0 _)
theorem moved_any (fb:Nat) (c a:Int) (pv why:Value) (lp:List Int) (bad:Nat→Prop) (at_ pl:Nat) (w:World) (hG:GErr w) (hb:Blk w fb 44 #[.int .i64 c,.int .i64 a,pv,why]) (hp:IntsP w bad pv lp) (hlp:lp.length≤17) (ha:0≤a) (ham:a+at_≤9000000) :
 Calls prog 23 #[.iface 39 (.pointer (some ⟨fb,0,none⟩)),.int .i64 (at_:Int),.int .i64 (pl:Int)] w fun e w'=>∃ (f2:Nat) (pv2:Value),w.heap.size≤f2∧e=.returned (.iface 39 (.pointer (some ⟨f2,0,none⟩)))∧Blk w' f2 44 #[.int .i64 c,.int .i64 (a+at_),pv2,.iface 39 (.pointer (some ⟨fb,0,none⟩))]∧Below w.heap.size w w':=by
 obtain⟨pa,pc,rfl,_⟩:=hp.form
 have HP:=zh hp
 have HB:=zh hb
 have hfl:=hb.lt
 have hne:fb≠w.heap.size:=by omega
 have HA:=zh (as_fault ⟨fb,0,none⟩ w.heap.size (w.alloc (.cells #[.pointer none] 39)) (hG.later (zr.alloc lr _)) (Blk.new _ _ _))
 have hw:IntKind.i64.wrap (a+(at_:Int))=a+at_:=wrap_small _ (by omega) (by omega)
 have hw2:wrap64 (a+(at_:Int))=a+at_:=by unfold wrap64;omega
 clear hp hb
 go_enter func23,ntmps23
 go_wp2_with fail
 refine HA.out.mono ?_
 rintro e W2 ⟨rfl,hgb,hx⟩
 have HX:=zh ((zr.alloc lr _).trans (hx.below (B:=w.heap.size) (fun k hk e=>by omega) (by simp)))
 have HB2:=zh (hx.blk hne (Blk.below HB.out (zr.alloc lr _) hfl))
 have HP2:=zh (HP.out.below (bad':=bad) HX.out (fun _ _ e=>e))
 have p0:W2.cell? ⟨w.heap.size,0,none⟩=some (.pointer (some ⟨fb,0,none⟩)):=hgb.cell 0
 have q0:W2.cell? ⟨fb,0,none⟩=some (.int .i64 c):=HB2.out.cell 0
 have q1:W2.cell? ⟨fb,1,none⟩=some (.int .i64 a):=HB2.out.cell 1
 have q2:W2.cell? ⟨fb,2,none⟩=some (.slice pa lp.length pc):=HB2.out.cell 2
 clear hgb hx
 have P0:=zh p0
 have Q0:=zh q0
 have Q1:=zh q1
 have Q2:=zh q2
 go_wp2_with fail
 refine wp_region_held_drew (S:=fun w'=>w'.cell? ⟨w.heap.size,0,none⟩=some (.pointer (some ⟨fb,0,none⟩))∧w'.cell? ⟨fb,0,none⟩=some (.int .i64 c)∧w'.cell? ⟨fb,1,none⟩=some (.int .i64 a)∧w'.cell? ⟨fb,2,none⟩=some (.slice pa lp.length pc)∧Below W2.heap.size W2 w') (by kernel_rfl) ⟨p0,q0,q1,q2,(Below.refl _ W2).drew⟩ (fun hHeld=>?_)
 refine tx 0 ?v0 rfl (by kernel_rfl) tq (by rfl) ?hy0 (by assumption) ?rest0
 case hy0=>(rintro wS ⟨p0,q0,q1,q2,kb⟩;go_simp;try with_reducible rfl)
 try simp[Act.put]
 refine tx 1 ?v1 rfl (by kernel_rfl) tq (by rfl) ?hy1 (by assumption) ?rest1
 case hy1=>(rintro wS ⟨p0,q0,q1,q2,kb⟩;go_simp;try with_reducible rfl)
 try simp[Act.put]
 refine tx 2 ?v2 rfl (by kernel_rfl) tq (by rfl) ?hy2 (by assumption) ?rest2
 case hy2=>(rintro wS ⟨p0,q0,q1,q2,kb⟩;go_simp;try with_reducible rfl)
 try simp[Act.put]
 refine tx 3 ?v3 rfl (by kernel_rfl) tq (by rfl) ?hy3 (by assumption) ?rest3
 case hy3=>(rintro wS ⟨p0,q0,q1,q2,kb⟩;go_simp;try with_reducible rfl)
 try simp[Act.put]
 refine tx 4 ?v4 rfl (by kernel_rfl) tq (by rfl) ?hy4 (by assumption) ?rest4
 case hy4=>(rintro wS ⟨p0,q0,q1,q2,kb⟩;go_simp;try with_reducible rfl)
 try simp[Act.put]
 refine tx 5 ?v5 rfl (by kernel_rfl) tq (by rfl) ?hy5 (by assumption) ?rest5
 case hy5=>(rintro wS ⟨p0,q0,q1,q2,kb⟩;go_simp;try with_reducible rfl)
 try simp[Act.put]
 refine tx 6 ?v6 rfl (by kernel_rfl) tq (by rfl) ?hy6 (by assumption) ?rest6
 case hy6=>(rintro wS ⟨p0,q0,q1,q2,kb⟩;go_simp;try with_reducible rfl)
 try simp[Act.put]
 refine tx 7 ?v7 rfl (by kernel_rfl) tq (by rfl) ?hy7 (by assumption) ?rest7
 case hy7=>(rintro wS ⟨p0,q0,q1,q2,kb⟩;go_simp;try with_reducible rfl)
 try simp[Act.put]
 refine tx 8 ?v8 rfl (by kernel_rfl) tq (by rfl) ?hy8 (by assumption) ?rest8
 case hy8=>(rintro wS ⟨p0,q0,q1,q2,kb⟩;go_simp;try with_reducible rfl)
 try simp[Act.put]
 refine tx 9 ?v9 rfl (by kernel_rfl) tq (by rfl) ?hy9 (by assumption) ?rest9
 case hy9=>(rintro wS ⟨p0,q0,q1,q2,kb⟩;go_simp;try with_reducible rfl)
 try simp[Act.put]
 refine tx 10 ?v10 rfl (by kernel_rfl) tq (by rfl) ?hy10 (by assumption) ?rest10
 case hy10=>(rintro wS ⟨p0,q0,q1,q2,kb⟩;go_simp;try with_reducible rfl)
 try simp[Act.put]
 refine tx 12 ?v12 rfl (by kernel_rfl) tq (by rfl) ?hy12 (by assumption) ?rest12
 case hy12=>(rintro wS ⟨p0,q0,q1,q2,kb⟩;go_simp;try with_reducible rfl)
 try simp[Act.put]
 refine tx 13 ?v13 rfl (by kernel_rfl) tq (by rfl) ?hy13 (by assumption) ?rest13
 case hy13=>(rintro wS ⟨p0,q0,q1,q2,kb⟩;go_simp;try with_reducible rfl)
 try simp[Act.put]
 refine tx 14 ?v14 rfl (by kernel_rfl) tq (by rfl) ?hy14 (by assumption) ?rest14
 case hy14=>(rintro wS ⟨p0,q0,q1,q2,kb⟩;go_simp;try with_reducible rfl)
 try simp[Act.put]
 refine tx 15 ?v15 rfl (by kernel_rfl) tq (by rfl) ?hy15 (by assumption) ?rest15
 case hy15=>(rintro wS ⟨p0,q0,q1,q2,kb⟩;go_simp;try with_reducible rfl)
 try simp[Act.put]
 refine tx 17 ?v17 rfl (by kernel_rfl) tq (by rfl) ?hy17 (by assumption) ?rest17
 case hy17=>(rintro wS ⟨p0,q0,q1,q2,kb⟩;go_simp;try with_reducible rfl)
 try simp[Act.put]
 refine wpAnyH_ready (rs:=[11]) (by kernel_rfl) (by simp) ?_
 refine AllReadyH.cons rfl (fun K hK=>?_) AllReadyH.nil
 go_simp
 obtain⟨p0,q0,q1,q2,kb⟩:=hHeld
 have hbw:Below W2.heap.size W2 (W2.alloc (.cells #[.int .i64 (pl:Int)] 3)).drew:=(zr.alloc lr _).drew
 replace p0:=V.keeps hbw p0
 replace q0:=V.keeps hbw q0
 replace q1:=V.keeps hbw q1
 replace q2:=V.keeps hbw q2
 replace kb:=hbw
 refine hK.out _ _ ⟨p0,q0,q1,q2,kb⟩ (fun hHeld=>?_)
 try simp[Act.put]
 refine wpAnyH_ready (rs:=[16]) (by kernel_rfl) (by simp) ?_
 refine AllReadyH.cons rfl (fun K hK=>?_) AllReadyH.nil
 obtain⟨p0,q0,q1,q2,kb⟩:=hHeld
 have hown:=(OwnN.one W2 W2.heap.size (pl:Int) lr)
 have hrow:=RowIn.ints (HP2.out.below hbw (bad':=bad) (fun _ _ e=>e)).reads rfl
 refine step_append_row rfl (.tmp 24) (.tmp 28) 42 rfl 3 (.int .i64 0) 1 8 underlying42 infoInt rfl (by decide) (by simp[Act.eval]) (show (W2.alloc (.cells #[.int .i64 (pl:Int)] 3)).drew.ownsRow W2.heap.size 3 1 (.slice (some ⟨W2.heap.size,0,none⟩) 1 1) 1 (nv [(pl:Int)]) from hown) (by simp[Act.eval]) hrow (nv_one _) (by omega) (by decide) (by simp) ?_
 intro c9 cap9 w9 hO9 hg9
 have hb9:Below W2.heap.size W2 w9:=hbw.grown hg9 (by simp) (fun k hk=>(World.ownsRow.lt (show (W2.alloc (.cells #[.int .i64 (pl:Int)] 3)).drew.ownsRow W2.heap.size 3 1 (.slice (some ⟨W2.heap.size,0,none⟩) 1 1) 1 (nv [(pl:Int)]) from hown) k hk).1)
 have r0:w9.cell? ⟨w.heap.size,0,none⟩=some (.pointer (some ⟨fb,0,none⟩)):=V.keeps hb9 P0.out
 have r1:w9.cell? ⟨fb,0,none⟩=some (.int .i64 c):=V.keeps hb9 Q0.out
 have r2:w9.cell? ⟨fb,1,none⟩=some (.int .i64 a):=V.keeps hb9 Q1.out
 have r3:w9.cell? ⟨fb,2,none⟩=some (.slice pa lp.length pc):=V.keeps hb9 Q2.out
 refine hK.out _ _ ⟨r0,r1,r2,r3,hb9⟩ (fun hHeld=>?_)
 try simp[Act.put]
 refine tx 18 ?v18b rfl (by kernel_rfl) tq (by rfl) ?hy18b (by assumption) ?rest18b
 case hy18b=>(rintro wS ⟨p0,q0,q1,q2,kb⟩;go_simp;try with_reducible rfl)
 try simp[Act.put]
 refine wpAnyH_ready (rs:=[19]) (by kernel_rfl) (by simp) ?_
 refine AllReadyH.cons rfl (fun K hK=>?_) AllReadyH.nil
 go_simp
 have hbA:Below W2.heap.size W2 (w9.alloc (.cells #[.int .i64 c,.int .i64 (a+(at_:Int)),.slice c9 (1+lp.length) cap9,.iface 39 (.pointer (some ⟨fb,0,none⟩))] 44)):=hb9.alloc hb9.size _
 refine hK.out _ _ ⟨V.keeps hbA P0.out,V.keeps hbA Q0.out,V.keeps hbA Q1.out,V.keeps hbA Q2.out,hbA⟩ (fun hHeld=>?_)
 try simp[Act.put]
 refine tx 20 ?v20c rfl (by kernel_rfl) tq (by rfl) ?hy20c (by assumption) ?rest20c
 case hy20c=>(rintro wS ⟨p0,q0,q1,q2,kb⟩;go_simp;try with_reducible rfl)
 try simp[Act.put]
 refine tx 21 ?v21c rfl (by kernel_rfl) tq (by rfl) ?hy21c (by assumption) ?rest21c
 case hy21c=>(rintro wS ⟨p0,q0,q1,q2,kb⟩;go_simp;try with_reducible rfl)
 try simp[Act.put]
 refine wpAnyH_done (by kernel_rfl) ?_ _
 go_wp2_with fail
 go_ret
 exact⟨w9.heap.size,.slice c9 (1+lp.length) cap9,Nat.le_trans HX.out.size hb9.size,rfl,Blk.new _ _ _,HX.out.trans (hbA.mono HX.out.size)⟩
