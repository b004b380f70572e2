import Derived.LaidSub
import Derived.Test.YtcgnajeenflfaaaGreatDoorP38
set_option maxRecDepth 100000
set_option maxHeartbeats 4000000
set_option linter.all false
open Go.Proofs.Tryz Go.RowKit
namespace Go.Proofs.YtcgnajeenflfaaaGreatDoor
namespace Lo
open D (isI64)
open Ta (El ev elemsV elemsV_len chunkE linesOf linesOf_le linesOf_small linesOf_len cutP cutE lineP lineE isPtB)
theorem cut_small (s:ByteArray):(cutP s).size≤s.size∧(cutE s).size≤s.size:=by
 obtain⟨⟨l⟩⟩:=s
 unfold cutP cutE
 show (Lib.cut l [59]).1.toArray.size≤l.toArray.size∧(Lib.cut l [59]).2.1.toArray.size≤l.toArray.size
 unfold Lib.cut
 split
 · simp;omega
 · simp
def EntPost (s:ByteArray) (w:World) (e:Ending) (w':World):Prop :=
 (∃ (a1 a2:Option Addr) (n1 c1 n2 c2:Nat) (b:Bool),e=.returned (.tuple #[.agg #[.slice a1 n1 c1,.slice a2 n2 c2],.bool b]) ∧
  (b=true→IntsIn w' w.heap.size w'.heap.size (.slice a1 n1 c1) (lineP s)∧(lineP s).length≤8∧1≤(lineP s).length∧(∀ x∈lineP s,isPtB x=true)∧(lineE s).length≤16∧RowIn 4 w' w.heap.size w'.heap.size (.slice a2 n2 c2) (lineE s).length (ev (lineE s))))∧Below w.heap.size w w'
theorem ent_ends {s:ByteArray} {w F:World} {tmps:Array Value} {b:Bool} {a1 a2:Option Addr} {n1 c1 n2 c2:Nat} (hb:Blk F w.heap.size 172 #[.slice a1 n1 c1,.slice a2 n2 c2]) (h2:tmps.getD 2 undef=.pointer (some ⟨w.heap.size,0,none⟩)) (h3:tmps.getD 3 undef=.bool b)
 (hp:b=true→IntsIn F w.heap.size F.heap.size (.slice a1 n1 c1) (lineP s)∧(lineP s).length≤8∧1≤(lineP s).length∧(∀ x∈lineP s,isPtB x=true)∧(lineE s).length≤16∧RowIn 4 F w.heap.size F.heap.size (.slice a2 n2 c2) (lineE s).length (ev (lineE s)))
 (hB:Below w.heap.size w F):bodyPost prog Tryz.f63 (EntPost s w) Exit.ret { tmps:=tmps,defers:=[] } F:=by
 have f0:=hb.cell 0
 have f1:=hb.cell 1
 simp at f0 f1
 simp only [Array.getD_eq_getD_getElem?] at h2 h3
 exact bodyPost_ret (v:=.tuple #[.agg #[.slice a1 n1 c1,.slice a2 n2 c2],.bool b]) (by simp[results,Tryz.f63,Tryz.results63,go_sem,h2,h3,f0,f1]) rfl ⟨⟨a1,a2,n1,c1,n2,c2,b,rfl,hp⟩,hB⟩
theorem region_1e {P:Program} {c:Code} {Q:Exit→Act→World→Prop} {a:Act} {w:World} {A:Act} {W:World} (h:c.wp P (fun e a' w'=>e=.normal∧a'=A∧w'=W) a w) (hk:Q .normal A W):c.wp P Q a w :=
 wp_mono h fun e a' w' ⟨h1,h2,h3⟩=>by subst h1 h2 h3;exact hk
theorem ints_hi {w w':World} {lo hi:Nat} {v:Value} {l:List Int} (h:IntsIn w lo hi v l) (hk:∀ k,lo≤k→k<hi→w'.heap[k]?=w.heap[k]?):IntsIn w' lo hi v l:=by
 obtain⟨a,cap,rfl,hc,hn,hcells⟩:=h
 exact⟨a,cap,rfl,hc,hn,fun j hj=>by obtain⟨g,off,ha,h3,h4,h5⟩:=hcells j hj;exact⟨g,off,ha,h3,h4,(World.cell?_of_block (a:=⟨g,off+j,none⟩) (hk g h3 h4)).trans h5⟩⟩
theorem row_hi {size n:Nat} {w w':World} {lo hi:Nat} {v:Value} {xs:List Value} (h:RowIn size w lo hi v n xs) (hk:∀ k,lo≤k→k<hi→w'.heap[k]?=w.heap[k]?):RowIn size w' lo hi v n xs:=by
 obtain⟨hl,a,cap,rfl,hc,hn,hcells⟩:=h
 exact⟨hl,a,cap,rfl,hc,hn,fun j hj=>by obtain⟨g,off,ha,h3,h4,h5⟩:=hcells j hj;exact⟨g,off,ha,h3,h4,(World.cell?_of_block (a:=⟨g,off+j,none⟩) (hk g h3 h4)).trans h5⟩⟩
theorem ent_grown {w4 w5:World} {base M j vc:Nat} {va:Option Addr} {ps:List Int} {y:Int} {t1:TypeId} {cs:Array Value} (hO5:w4.ownsRow base 3 1 (.slice va j vc) j (nv ps)) (hg5:(w4.alloc (.cells #[.int .i64 y] 3)).grownBy w5 (Value.slice va j vc).ownBlock) (h:Blk w4 M t1 cs) (hMb:M<base):Blk w5 M t1 cs :=
 (hg5.block M (by have:=h.lt;simp;omega) (fun e=>by have:=(World.ownsRow.lt hO5 M e.symm).1;omega)).trans (Blk.below h (zr.alloc lr _) h.lt)
theorem ent_step {w wr w4 w5:World} {base M C j vc cap5:Nat} {va g5:Option Addr} {ps:List Int} {y:Int} {x:Value} {ST RT:Array Value} {t1 t2 t3:TypeId} {old:Value}
 (hx5:Below wr.heap.size wr w4) (hg5:(w4.alloc (.cells #[.int .i64 y] 3)).grownBy w5 (Value.slice va j vc).ownBlock) (hO5:w4.ownsRow base 3 1 (.slice va j vc) j (nv ps))
 (hO6:w5.ownsRow base 3 1 (.slice g5 (j+1) cap5) (j+1) (nv ps++[.int .i64 y])) (hps:ps.length=j) (hM5:Blk w5 M t1 #[old,x]) (hMb:M<base) (hCb:C<base) (hwM:w.heap.size<M) (hCM:C≠M) (hbs:base≤wr.heap.size)
 (HC:Blk wr C t2 ST) (HR:Blk wr w.heap.size t3 RT) (HB:Below w.heap.size w wr) :
 Blk (w5.setCell ⟨M,0,none⟩ (.slice g5 (j+1) cap5)) M t1 #[.slice g5 (j+1) cap5,x]∧OwnN (w5.setCell ⟨M,0,none⟩ (.slice g5 (j+1) cap5)) base (.slice g5 (j+1) cap5) (ps++[y]) ∧
 Blk (w5.setCell ⟨M,0,none⟩ (.slice g5 (j+1) cap5)) C t2 ST∧Blk (w5.setCell ⟨M,0,none⟩ (.slice g5 (j+1) cap5)) w.heap.size t3 RT ∧
 Below w.heap.size w (w5.setCell ⟨M,0,none⟩ (.slice g5 (j+1) cap5))∧base≤(w5.setCell ⟨M,0,none⟩ (.slice g5 (j+1) cap5)).heap.size:=by
 have hs:=hx5.size
 have hs2:=hg5.size
 rw[World.size_alloc] at hs2
 have old_:∀ {k:Nat} {t:TypeId} {cs:Array Value},Blk wr k t cs→k<base→k≠M→Blk (w5.setCell ⟨M,0,none⟩ (.slice g5 (j+1) cap5)) k t cs:=fun {k t cs} h hk hne =>
  Sc.blk_other (ent_grown hO5 hg5 (Blk.below h hx5 h.lt) hk) hne 0 _
 have hb4:Below w.heap.size w (w4.alloc (.cells #[.int .i64 y] 3)):=(HB.trans (hx5.mono HB.size)).alloc (by have:=HB.size;omega) _
 refine⟨by simpa using hM5.set_ 0 (.slice g5 (j+1) cap5),?_,old_ HC hCb hCM,old_ HR (by omega) (by omega),(hb4.grown hg5 hb4.size (fun k e=>by have:=(World.ownsRow.lt hO5 k e).1;omega)).setCell (p:=⟨M,0,none⟩) (by show w.heap.size≤M;omega) _,by simp;omega⟩
 have:=ownsRow_setCell_below hO6 (a:=⟨M,0,none⟩) hMb (.slice g5 (j+1) cap5)
 unfold OwnN
 rw[List.length_append,hps,← nv_append]
 exact this
theorem entry_any (s:ByteArray) (hs:s.size≤65536) (w:World) (hg:GLd w):Calls prog 63 #[.string s] w (EntPost s w):=by
 obtain⟨W0,hW0⟩:∃ W0,w.alloc (.cells #[.slice none 0 0,.slice none 0 0] 172)=W0:=⟨_,rfl⟩
 have hb0:Below w.heap.size w W0:=by rw[← hW0];exact zr.alloc lr _
 have HG:=zh hg
 have HR:Blk W0 w.heap.size 172 #[.slice none 0 0,.slice none 0 0]:=by rw[← hW0];exact Blk.new _ _ _
 have HR:=zh HR
 have HB0:=zh hb0
 have HW0:=zh hW0
 have HC:=zh (Cut_any s (by omega) W0 (hg.later hb0))
 have hcs:=cut_small s
 obtain⟨p,hp⟩:∃ p,cutP s=p:=⟨_,rfl⟩
 obtain⟨q,hq⟩:∃ q,cutE s=q:=⟨_,rfl⟩
 rw[hp,hq] at hcs HC
 have HPQ:=zh (And.intro hp hq)
 obtain⟨hps,hqs⟩:=hcs
 clear hg hb0 hW0 hp hq
 go_enter func63,ntmps63
 go_wp2_with fail
 rw[HW0.out]
 refine HC.out.mono ?_
 rintro e w1 ⟨b,rfl,hb1⟩
 have HB1:=zh (HB0.out.trans (hb1.mono HB0.out.size))
 have HR1:=zh (Blk.below HR.out hb1 HR.out.lt)
 clear hb1
 cases b with
 | false =>
  have r0:w1.cell? ⟨w.heap.size,0,none⟩=some (.slice none 0 0):=by simpa using HR1.out.cell 0
  have r1:w1.cell? ⟨w.heap.size,1,none⟩=some (.slice none 0 0):=by simpa using HR1.out.cell 1
  have y0:=HR1.out.frozen 0
  have y1:=HR1.out.frozen 1
  have HF:=zh (show Blk ((w1.setCell ⟨w.heap.size,0,none⟩ (.slice none 0 0)).setCell ⟨w.heap.size,1,none⟩ (.slice none 0 0)) w.heap.size 172 #[.slice none 0 0,.slice none 0 0] by simpa using (HR1.out.set_ 0 (.slice none 0 0)).set_ 1 (.slice none 0 0))
  go_wp2_with fail
  exact ent_ends (b:=false) HF.out rfl rfl (fun h=>by cases h) ((HB1.out.setCell (p:=⟨w.heap.size,0,none⟩) lr _).setCell (p:=⟨w.heap.size,1,none⟩) lr _)
 | true =>
 obtain⟨M,hM⟩:∃ M,w1.heap.size=M:=⟨_,rfl⟩
 obtain⟨W2,hW2⟩:∃ W2,w1.alloc (.cells #[.slice none 0 0,.slice none 0 0] 172)=W2:=⟨_,rfl⟩
 have hb2:Below w1.heap.size w1 W2:=by rw[← hW2];exact zr.alloc lr _
 have HM2:=zh (show Blk W2 M 172 #[.slice none 0 0,.slice none 0 0] by rw[← hW2,← hM];exact Blk.new _ _ _)
 have HB2:=zh (HB1.out.trans (hb2.mono HB1.out.size))
 have HR2:=zh (Blk.below HR1.out hb2 HR1.out.lt)
 have HS:=zh (Split_any 32 p (by omega) W2 (HG.out.later HB2.out))
 have hwM:w.heap.size<M:=by have:=HR1.out.lt;omega
 have HW2:=zh hW2
 have HMM:=zh hM
 have HSp:=zh (linesOf_small 32 p)
 have HSl:=zh (linesOf_le 32 p)
 have HLP:=zh (show lineP s=(linesOf 32 p).map fun t=>sgnV t.data.toList by rw[← HPQ.out.1];rfl)
 have HLN:=zh (show 1≤(linesOf 32 p).length by rw[linesOf_len];omega)
 obtain⟨lc,hlc⟩:∃ lc,linesOf 32 p=lc:=⟨_,rfl⟩
 obtain⟨nc,hnc⟩:∃ nc,lc.length=nc:=⟨_,rfl⟩
 rw[hlc] at HSp HSl HLP HLN HS
 rw[hnc] at HSl HLN HS
 have hz2:M<W2.heap.size:=HM2.out.lt
 clear hb2 hM hW2 hlc
 go_wp2_with fail
 simp only [HMM.out,HW2.out]
 refine HS.out.mono ?_
 rintro e W3 ⟨rfl,hbl,hb3⟩
 obtain⟨C,hC⟩:∃ C,W2.heap.size=C:=⟨_,rfl⟩
 rw[hC] at hbl ⊢
 have HB3:=zh (HB2.out.trans (hb3.mono HB2.out.size))
 have HM3:=zh (Blk.below HM2.out hb3 HM2.out.lt)
 have HR3:=zh (Blk.below HR2.out hb3 HR2.out.lt)
 have HC3:=zh hbl
 have hz3:C<W3.heap.size:=hbl.lt
 have hncl:nc≤65537:=by have:=HSl.out;omega
 have HNC:=zh hnc
 obtain⟨base,hbase⟩:∃ base,W3.heap.size=base:=⟨_,rfl⟩
 have hMb:M<base:=by omega
 have hCb:C<base:=by omega
 have hCM:C≠M:=by omega
 have hbs3:base≤W3.heap.size:=Nat.le_of_eq hbase.symm
 clear hbl hb3 HS hnc hC hbase
 go_wp2_with fail
 go_loopw [24] (fun iv wr=>∃ (j:Nat) (ps:List Int) (v:Value),iv=.int .i64 j∧j≤nc∧ps.length=j∧RowKit.Hid (ps=(lc.take j).map (fun t=>sgnV t.data.toList)∧∀ x∈ps,isPtB x=true)∧RowKit.Hid (Blk wr M 172 #[v,.slice none 0 0])∧RowKit.Hid (OwnN wr base v ps)∧RowKit.Hid (Blk wr C 9 (lc.map Value.string).toArray) ∧
  RowKit.Hid (Blk wr w.heap.size 172 #[.slice none 0 0,.slice none 0 0])∧RowKit.Hid (Below w.heap.size w wr)∧base≤wr.heap.size) (fun i _=>nc-(intOf i).toNat)
 case atStart=>exact⟨0,[],.slice none 0 0,rfl,Nat.zero_le _,rfl,zh ⟨rfl,fun q h=>by cases h⟩,HM3,zh (OwnN.nil _ _),HC3,HR3,HB3,hbs3⟩
 case round =>
  obtain⟨j,ps,v,rfl,hj,hpj,HP,HM,HO,HC,HR,HB,hbs⟩:=hrel
  obtain⟨va,vc,rfl⟩:=row_slice HO.out
  by_cases hlt:j<nc
  case neg =>
   have hjn:nc=j:=by omega
   subst hjn
   have HLS:=zh (show lineP s=ps by rw[HLP.out,HP.out.1,← HNC.out,List.take_length])
   have HEL:=zh (elements_any q wr (by omega) (HG.out.later HB.out))
   have hpm:=HO.out.reads
   have hMr:=HM.out
   rw[hpj] at hpm hMr
   have HPM:=zh hpm
   have HMr:=zh hMr
   clear hpm hMr hlt hj
   go_wp2_with fail
   refine HEL.out.mono ?_
   rintro e w4 ⟨h,hb4⟩
   have HB4:=zh (HB.out.trans (hb4.mono HB.out.size))
   have HR4:=zh (Blk.below HR.out hb4 HR.out.lt)
   have HM4:=zh (Blk.below HMr.out hb4 HMr.out.lt)
   have HP4:=zh (HPM.out.later hb4)
   have hs4:=hb4.size
   have m1:w4.cell? ⟨M,1,none⟩=some (.slice none 0 0):=by simpa using HM4.out.cell 1
   have z1:=HM4.out.frozen 1
   have hMR:M≠w.heap.size:=by omega
   have hRM:w.heap.size≠M:=by omega
   clear hb4
   have key:∀ (a2:Option Addr) (n2 c2:Nat) (W5:World),w4.setCell ⟨M,1,none⟩ (.slice a2 n2 c2)=W5→Blk W5 M 172 #[.slice va nc vc,.slice a2 n2 c2]∧Blk W5 w.heap.size 172 #[.slice none 0 0,.slice none 0 0]∧Below w.heap.size w W5∧W5.heap.size=w4.heap.size ∧
    (Below M w4 W5)∧Blk ((W5.setCell ⟨w.heap.size,0,none⟩ (.slice va nc vc)).setCell ⟨w.heap.size,1,none⟩ (.slice a2 n2 c2)) w.heap.size 172 #[.slice va nc vc,.slice a2 n2 c2]:=by
    intro a2 n2 c2 W5 hW5
    subst hW5
    have hr:=Sc.blk_other HR4.out hRM 1 (.slice a2 n2 c2)
    exact⟨by simpa using HM4.out.set_ 1 (.slice a2 n2 c2),hr,HB4.out.setCell (p:=⟨M,1,none⟩) (by show w.heap.size≤M;omega) _,by simp,zr.setCell (p:=⟨M,1,none⟩) lr _,by simpa using (hr.set_ 0 (.slice va nc vc)).set_ 1 (.slice a2 n2 c2)⟩
   have HKEY:=zh key
   clear key
   rcases h with ⟨v2,es,rfl,he,hel,ho⟩ | rfl
   · obtain⟨a2,c2,rfl⟩:=row_slice ho
     obtain⟨n2,hn2⟩:∃ n2,es.length=n2:=⟨_,rfl⟩
     have HES:=zh (show lineE s=es by rw[he,← HPQ.out.2];rfl)
     have hro:=RowIn.own ho
     rw[hn2] at hro ⊢
     have HRO:=zh hro
     have HN2:=zh (And.intro hn2 hel)
     clear ho hro he hn2 hel
     obtain⟨W5,hW5⟩:∃ W5,w4.setCell ⟨M,1,none⟩ (.slice a2 n2 c2)=W5:=⟨_,rfl⟩
     obtain⟨k1,k2,k3,k4,k5,k6⟩:=HKEY.out a2 n2 c2 W5 hW5
     have K1:=zh k1
     have K3:=zh k3
     have K4:=zh (And.intro k4 k5)
     have K6:=zh k6
     have n0:W5.cell? ⟨M,0,none⟩=some (.slice va nc vc):=by simpa using k1.cell 0
     have n1:W5.cell? ⟨M,1,none⟩=some (.slice a2 n2 c2):=by simpa using k1.cell 1
     have r0:W5.cell? ⟨w.heap.size,0,none⟩=some (.slice none 0 0):=by simpa using k2.cell 0
     have r1:W5.cell? ⟨w.heap.size,1,none⟩=some (.slice none 0 0):=by simpa using k2.cell 1
     have y0:=k2.frozen 0
     have y1:=k2.frozen 1
     have HW5:=zh hW5
     clear k1 k2 k3 k4 k5 k6 hW5
     go_wp2_with fail
     rw[HW5.out]
     apply region_1e
     case h =>
      go_region
      all_goals exact⟨rfl,rfl,rfl⟩
     go_wp2_with fail
     have hW5:∀ k,base≤k→((W5.setCell ⟨w.heap.size,0,none⟩ (.slice va nc vc)).setCell ⟨w.heap.size,1,none⟩ (.slice a2 n2 c2)).drew.heap[k]?=w4.heap[k]?:=fun k hk=>by
      have e1:∀ (W:World) (i:Nat) (y:Value) (g:Nat),k≠g→(W.setCell ⟨g,i,none⟩ y).heap[k]?=W.heap[k]?:=fun W i y g hg=>Below.heap_setCell _ _ _ _ hg
      show ((W5.setCell ⟨w.heap.size,0,none⟩ (.slice va nc vc)).setCell ⟨w.heap.size,1,none⟩ (.slice a2 n2 c2)).heap[k]?=w4.heap[k]?
      rw[e1 _ _ _ _ (by omega),e1 _ _ _ _ (by omega),← HW5.out,e1 _ _ _ _ (by omega)]
     have hz5:((W5.setCell ⟨w.heap.size,0,none⟩ (.slice va nc vc)).setCell ⟨w.heap.size,1,none⟩ (.slice a2 n2 c2)).drew.heap.size=w4.heap.size:=by
      show ((W5.setCell ⟨w.heap.size,0,none⟩ (.slice va nc vc)).setCell ⟨w.heap.size,1,none⟩ (.slice a2 n2 c2)).heap.size=w4.heap.size
      have:=K4.out.1
      simpa using this
     refine ent_ends (b:=decide ((nc:Int)≤8)) (show Blk (World.drew _) _ _ _ from K6.out) rfl rfl (fun hb=>?_) (((K3.out.setCell (p:=⟨w.heap.size,0,none⟩) lr _).setCell (p:=⟨w.heap.size,1,none⟩) lr _).drew)
     have h8:(nc:Int)≤8:=of_decide_eq_true hb
     have hps:ps.length=nc:=hpj
     rw[HLS.out,HES.out]
     refine⟨(ints_hi HP4.out (fun k h1 _=>hW5 k h1)).wide (by omega) (by rw[hz5];exact hs4),by omega,by have:=HLN.out;omega,HP.out.2,HN2.out.2,?_⟩
     rw[HN2.out.1]
     exact(row_hi HRO.out (fun k h1 _=>hW5 k (by omega))).wide (by omega) (Nat.le_of_eq hz5.symm)
   · obtain⟨W5,hW5⟩:∃ W5,w4.setCell ⟨M,1,none⟩ (.slice none 0 0)=W5:=⟨_,rfl⟩
     obtain⟨k1,k2,k3,k4,k5,k6⟩:=HKEY.out none 0 0 W5 hW5
     have K3:=zh k3
     have K6:=zh k6
     have n0:W5.cell? ⟨M,0,none⟩=some (.slice va nc vc):=by simpa using k1.cell 0
     have n1:W5.cell? ⟨M,1,none⟩=some (.slice none 0 0):=by simpa using k1.cell 1
     have r0:W5.cell? ⟨w.heap.size,0,none⟩=some (.slice none 0 0):=by simpa using k2.cell 0
     have r1:W5.cell? ⟨w.heap.size,1,none⟩=some (.slice none 0 0):=by simpa using k2.cell 1
     have y0:=k2.frozen 0
     have y1:=k2.frozen 1
     have HW5:=zh hW5
     clear k1 k2 k3 k4 k5 k6 hW5
     go_wp2_with fail
     rw[HW5.out]
     apply region_1e
     case h =>
      go_region
      all_goals exact⟨rfl,rfl,rfl⟩
     go_wp2_with fail
     exact ent_ends (b:=false) (show Blk (World.drew _) _ _ _ from K6.out) rfl rfl (fun hb=>by cases hb) (((K3.out.setCell (p:=⟨w.heap.size,0,none⟩) lr _).setCell (p:=⟨w.heap.size,1,none⟩) lr _).drew)
  obtain⟨t,ht⟩:∃ t,lc[j]?=some t:=⟨_,List.getElem?_eq_getElem (by rw[HNC.out];exact hlt)⟩
  have hts:t.size≤p.size:=HSp.out t (List.mem_of_getElem? ht)
  have cq:wr.cell? ⟨C,j,none⟩=some (.string t):=(HC.out.cell j).trans (by simp[ht])
  have HGr:=zh (HG.out.later HB.out)
  have HPI:=zh (ParseInt_any t (by omega) wr HGr.out.errs)
  have HT:=zh ht
  clear ht
  go_wp2_with fail
  refine HPI.out.mono ?_
  rintro e w4 ⟨h,hb4⟩
  have HB4:=zh (HB.out.trans (hb4.mono HB.out.size))
  have HR4:=zh (Blk.below HR.out hb4 HR.out.lt)
  have HX4:=zh hb4
  have bad:∀ (F:World),Blk F w.heap.size 172 #[.slice none 0 0,.slice none 0 0]→F.cell? ⟨w.heap.size,0,none⟩=some (.slice none 0 0)∧F.cell? ⟨w.heap.size,1,none⟩=some (.slice none 0 0)∧F.frozen? ⟨w.heap.size,0,none⟩=false∧F.frozen? ⟨w.heap.size,1,none⟩=false ∧
   Blk ((F.setCell ⟨w.heap.size,0,none⟩ (.slice none 0 0)).setCell ⟨w.heap.size,1,none⟩ (.slice none 0 0)) w.heap.size 172 #[.slice none 0 0,.slice none 0 0]:=fun F hF =>
   ⟨by simpa using hF.cell 0,by simpa using hF.cell 1,hF.frozen 0,hF.frozen 1,by simpa using (hF.set_ 0 (.slice none 0 0)).set_ 1 (.slice none 0 0)⟩
  have HBAD:=zh bad
  clear hb4 bad
  rcases h with ⟨a,rfl,h1,h2⟩ | ⟨a,T,V,rfl,h1⟩
  case inr =>
   obtain⟨r0,r1,y0,y1,hf⟩:=HBAD.out w4 HR4.out
   have HF:=zh hf
   clear hf h1
   go_wp2_with fail
   exact ent_ends (b:=false) HF.out rfl rfl (fun h=>by cases h) ((HB4.out.setCell (p:=⟨w.heap.size,0,none⟩) lr _).setCell (p:=⟨w.heap.size,1,none⟩) lr _)
  have HD:=zh (hex_any a w4 h1 ((HG.out.later HB4.out).bru))
  have H2:=zh h2
  clear h1 h2
  go_wp2_with fail
  refine HD.out.mono ?_
  rintro e w5 ⟨z,rfl,_,hb5⟩
  have HB5:=zh (HB4.out.trans (hb5.mono HB4.out.size))
  have HR5:=zh (Blk.below HR4.out hb5 HR4.out.lt)
  have HX5:=zh (HX4.out.trans (hb5.mono HX4.out.size))
  clear hb5
  by_cases hzt:z.toList=t.toList
  case neg =>
   obtain⟨r0,r1,y0,y1,hf⟩:=HBAD.out w5 HR5.out
   have HF:=zh hf
   clear hf
   go_wp2_with fail
   exact ent_ends (b:=false) HF.out rfl rfl (fun h=>by cases h) ((HB5.out.setCell (p:=⟨w.heap.size,0,none⟩) lr _).setCell (p:=⟨w.heap.size,1,none⟩) lr _)
  go_wp2_with fail
  refine(Ta.isPoint_any a w5).mono ?_
  rintro e w6 ⟨rfl,rfl⟩
  cases hip:isPtB a with
  | false =>
   obtain⟨r0,r1,y0,y1,hf⟩:=HBAD.out w6 HR5.out
   have HF:=zh hf
   clear hf
   go_wp2_with fail
   exact ent_ends (b:=false) HF.out rfl rfl (fun h=>by cases h) ((HB5.out.setCell (p:=⟨w.heap.size,0,none⟩) lr _).setCell (p:=⟨w.heap.size,1,none⟩) lr _)
  | true =>
   have HIP:=zh hip
   clear hip
   have hX:=HX5.out
   have hO6:=rown hpj (by have h:=OwnN.below HO.out hX;rw[hpj] at h;exact h)
   have HM6:=zh (show Blk w6 M 172 #[.slice va j vc,.slice none 0 0] by have h:=Blk.below HM.out hX HM.out.lt;rw[hpj] at h;exact h)
   have m0:w6.cell? ⟨M,0,none⟩=some (.slice va j vc):=by simpa using HM6.out.cell 0
   have HLIT:=RowIn.lit w6 3 #[.int .i64 a] 1 1 rfl
   have hs6:=hX.size
   have HO6:=zh hO6
   have HXX:=zh hX
   clear hX hO6
   go_wp2_with (at_builtin;refine wpList_append_at rfl (.tmp 48) (.tmp 50) 42 rfl 3 (.int .i64 0) 1 8 underlying42 infoInt rfl (by decide) rfl (World.ownsRow.alloc HO6.out _) rfl HLIT (fun u hu=>by rw[List.mem_singleton.1 hu];rfl) (by omega) (by decide) (by simp;omega) ?_;intro c7 cap7 w7 hO7 hg7 hat7;have hM7:=ent_grown HO6.out hg7 HM6.out hMb;have p7:=hM7.cell 0;have z7:=hM7.frozen 0;simp at p7)
   obtain⟨s1,s2,s3,s4,s5,s6⟩:=ent_step HXX.out hg7 HO6.out hO7 hpj hM7 hMb hCb hwM hCM hbs HC.out HR.out HB.out
   have HPY:=zh (show ps++[a]=(lc.take (j+1)).map (fun t=>sgnV t.data.toList)∧∀ x∈ps++[a],isPtB x=true from⟨by
    rw[List.take_add_one,HT.out,Option.toList_some,List.map_append,← HP.out.1,List.map_singleton,← H2.out],fun x hx=>by
    rcases List.mem_append.1 hx with h | h
    · exact HP.out.2 x h
    · rw[List.mem_singleton.1 h];exact HIP.out⟩)
   exact⟨⟨j+1,ps++[a],_,by simp,by omega,by simp[hpj],HPY,zh s1,zh s2,zh s3,zh s4,zh s5,s6⟩,by simp[intOf];omega⟩
end Lo
namespace D
open Go.Maps Go.ChangeMaps
def Known (D:Dm) (f:Int→Option Value):Prop:=∀ k u,f k=some u→u=.int .i64 (capM D k:Nat)
theorem Known.put {D:Dm} {f:Int→Option Value} (h:Known D f) (x:Int):Known D (putM f x (.int .i64 (capM D x:Nat))):=by
 intro k u hk
 by_cases hx:k=x
 · subst hx;rw[putM_same] at hk;cases hk;rfl
 · rw[putM_other _ _ hx] at hk;exact h k u hk
def unk (f:Int→Option Value):Nat:=((List.range 1114112).map (fun k:Nat=>(k:Int))).countP fun k=>(f k).isNone
theorem unk_le (f:Int→Option Value) (x:Int) (u:Value):unk (putM f x u)≤unk f:=by
 unfold unk
 refine List.countP_mono_left fun k _ h=>?_
 by_cases hx:k=x
 · subst hx;rw[putM_same] at h;cases h
 · rwa [putM_other _ _ hx] at h
theorem unk_lt {f:Int→Option Value} {x:Int} {u:Value} (h0:0≤x) (h1:x≤1114111) (hf:f x=none):unk (putM f x u)<unk f:=by
 unfold unk
 refine countP_lt (a:=x) (fun k _ h=>?_) (List.mem_map.2 ⟨x.toNat,List.mem_range.2 (by omega),by omega⟩) (by rw[putM_same];rfl) (by rw[hf];rfl)
 by_cases hx:k=x
 · subst hx;rw[putM_same] at h;cases h
 · rwa [putM_other _ _ hx] at h
theorem unk_top (f:Int→Option Value):unk f≤1114112:=by
 unfold unk
 refine Nat.le_trans (List.countP_le_length) ?_
 rw[List.length_map,List.length_range]
 exact Nat.le_refl _
def Memo (D:Dm) (bk:Nat) (w:World):Prop:=∃ f m,MapIs prog 3 (Value.int .i64) w bk f m∧Known D f∧m+unk f≤1114112
theorem Memo.new (D:Dm) (w:World):Memo D w.heap.size (w.alloc (.map #[] 0)):=⟨_,_,MapIs.made ..,fun k u h=>by(cases h),by rw[Nat.zero_add];exact unk_top _⟩
theorem Memo.later {D:Dm} {bk:Nat} {w w':World} (h:Memo D bk w) (hb:Below w.heap.size w w'):Memo D bk w':=by
 obtain⟨f,m,h1,h2,h3⟩:=h
 exact⟨f,m,h1.keep hb,h2,h3⟩
theorem Memo.lt {D:Dm} {bk:Nat} {w:World} (h:Memo D bk w):bk<w.heap.size:=by
 obtain⟨f,m,h1,h2,h3⟩:=h
 exact h1.lt
theorem zeroInt (w:World):(zeroValue 3).run prog w=.ok (.int .i64 0) w:=Tryz.zeroValue3 _
theorem Memo.look {D:Dm} {bk:Nat} {w:World} (h:Memo D bk w) (x:Int) (hx:isI64 x) :
 (Instr.lookup 158 (.map (some bk)) (.int .i64 x) true).run prog w=.ok (.tuple #[.int .i64 (capM D x:Nat),.bool true]) w ∨
 (Instr.lookup 158 (.map (some bk)) (.int .i64 x) true).run prog w=.ok (.tuple #[.int .i64 0,.bool false]) w:=by
 obtain⟨f,m,h1,h2,h3⟩:=h
 have hl:=h1.look (int_keyed underlying3) underlying158 (zeroInt w) (keyOf_int_mk underlying3 (wf64 hx)) true
 cases hf:f x with
 | none=>rw[hf] at hl;exact .inr hl
 | some u=>rw[hf] at hl;rw[h2 x u hf] at hl;exact .inl hl
theorem Memo.store {D:Dm} {bk:Nat} {w:World} (h:Memo D bk w) (x:Int) (h0:0≤x) (h1:x≤1114111) :
 ∃ w',(Instr.mapUpdate 158 (.map (some bk)) (.int .i64 x) (.int .i64 (capM D x:Nat))).run prog w=.ok () w'∧Memo D bk w'∧Below bk w w':=by
 obtain⟨f,m,g1,g2,g3⟩:=h
 obtain⟨w',a1,a2,o,a3⟩:=g1.store (int_keyed underlying3) underlying158 (fun x y h=>by injection h) (by unfold maxLen;omega) (keyOf_int_mk underlying3 (wf64 (x:=x) (by unfold isI64;omega))) (.int .i64 (capM D x:Nat))
 refine⟨w',a1,⟨_,_,a2,g2.put x,?_⟩,by rw[a3];exact setBlock_below o lr⟩
 by_cases hf:f x=none
 · rw[if_pos hf];have:=unk_lt (u:=.int .i64 (capM D x:Nat)) h0 h1 hf;omega
 · rw[if_neg hf];have:=unk_le f x (.int .i64 (capM D x:Nat));omega
def SizePost (D:Dm) (bk:Nat) (x:Int) (w:World) (e:Ending) (w':World):Prop:=e=.returned (.int .i64 (capM D x:Nat))∧Below bk w w'∧Memo D bk w'
theorem size_f {D:Dm} (wp:Wp D) {r:Int→Nat} (hr:∀ x,∀ q∈partsOf D x,r q<r x) (hb:∀ x,r x≤4500) (hn:∀ y,(partsOf D y).length≤65537) (v:Value) (bk:Nat):∀ (n:Nat) (x:Int) (w:World),r x<n→0≤x→x≤1114111→sylB x=false→DataAt w 0 bk v D→Memo D bk w →
 Calls prog 62 #[v,.int .i64 x,.map (some bk)] w (SizePost D bk x w):=by
 intro n
 induction n with
 | zero=>intro x w h;omega
 | succ n ih =>
  intro x w hx h0 h1' hs hd hm
  have IH:=zh ih
  have HD:=zh hd
  have HM:=zh hm
  obtain⟨pd,b,rfl,hpd,hbb,hcp,hlk⟩:=hd.looks
  obtain⟨y,a,cap,hi,hlk2⟩:=hlk x (by unfold isI64;omega)
  have lk:=hlk2 w rfl
  have hbk:=hm.lt
  have fd:=mark2 y (classM D x) a (partsOf D x).length cap
  obtain⟨a',cap',e1,hcap,hcell⟩:=IntsIn.get hi
  injection e1 with e1 e2 e3
  subst e1 e3
  have HC:=zh hcell
  have HQ:=zh (show ∀ q∈partsOf D x,r q<n∧0≤q∧q≤1114111∧sylB q=false from fun q hq=>by have h2:=hr x q hq;have h3:=wp.at hq;exact⟨by omega,h3.2.2.1,h3.2.2.2,h3.2.1⟩)
  have HNX:=zh (hn x)
  rcases hm.look x (by unfold isI64;omega) with lm | lm
  · clear ih hd hm hlk hlk2 hi hcell
    go_enter func62,ntmps62
    go_wp2_with fail
    go_ret
    exact⟨rfl,zr,HM.out⟩
  · clear ih hd hm hlk hlk2 hi hcell
    go_enter func62,ntmps62
    go_wp2_with fail
    go_loopw [9,28] (fun o i wr=>∃ (j c:Nat),j≤(partsOf D x).length∧i=.int .i64 j∧o=.int .i64 c∧c≤19∧Below bk w wr∧Memo D bk wr∧RowKit.Hid (c=capL D ((partsOf D x).take j))) (fun _ i _=>(partsOf D x).length-(intOf i).toNat)
    case atStart=>exact⟨0,0,Nat.zero_le _,rfl,rfl,by omega,zr,HM.out,zh (by rw[List.take_zero];rfl)⟩
    case round =>
     obtain⟨j,c,hj,rfl,rfl,hc19,hB,hMe,HCL⟩:=hrel
     by_cases hlt:j<(partsOf D x).length
     · obtain⟨g,off,rfl,_,hg,hc⟩:=HC.out j hlt
       have hc':=(hB.cell (p:=⟨g,off+j,none⟩) hg).trans hc
       have hq:=HQ.out _ (List.getElem_mem hlt)
       have HIQ:=zh (IH.out (partsOf D x)[j] wr hq.1 hq.2.1 hq.2.2.1 hq.2.2.2 (HD.out.later hB lr) hMe)
       obtain⟨cq,hcq⟩:∃ cq,capM D (partsOf D x)[j]=cq:=⟨_,rfl⟩
       have hcq19:cq≤19:=by rw[← hcq];unfold capM;omega
       have HCQ:=zh hcq
       obtain⟨c2,hc2⟩:∃ c2,min (c+cq) 19=c2:=⟨_,rfl⟩
       have HN:=zh (show c2=capL D ((partsOf D x).take (j+1)) by rw[List.take_add_one,List.getElem?_eq_getElem hlt,Option.toList_some,capL_snoc,← HCL.out,hcq,hc2])
       clear hq hcq
       go_wp2_with fail
       refine HIQ.out.mono ?_
       rintro e w2 ⟨rfl,hb2,hm2⟩
       rw[HCQ.out]
       have HB2:=zh (hB.trans hb2)
       have HM2:=zh hm2
       clear hb2 hm2
       have hjn:j+1≤65537:=by have:=HNX.out;omega
       go_wp2_with fail
       refine⟨⟨j+1,c2,by omega,by simp,by rw[← hc2];congr 1;first | omega | (split<;>omega),by omega,HB2.out,HM2.out,HN⟩,?_⟩
       simp[intOf];omega
     · obtain rfl:j=(partsOf D x).length:=by omega
       have hcl:=HCL.out
       rw[List.take_length] at hcl
       by_cases hp:partsOf D x=[]
       · have h1:capM D x=1:=by unfold capM;rw[partsM_nil hs hp];rfl
         have hc0:c=0:=by rw[hcl,hp];rfl
         have q1:((c:Int)==0)=true:=by simp[hc0]
         obtain⟨w3,a1,a2,a3⟩:=hMe.store x h0 h1'
         have a1':(Instr.mapUpdate 158 (.map (some bk)) (.int .i64 x) (.int .i64 1)).run prog wr=.ok () w3:=by rw[h1] at a1;exact a1
         have HX:=zh (And.intro a2 (hB.trans a3))
         have H1:=zh h1
         clear a1 a2 a3 hcl hp hc0 h1
         go_wp2_with fail
         go_ret
         exact⟨by rw[H1.out];rfl,HX.out.2,HX.out.1⟩
       · obtain⟨q0,hq0⟩:∃ q,q∈partsOf D x:=by
          cases hl:partsOf D x with
          | nil=>exact absurd hl hp
          | cons q t=>exact⟨q,List.mem_cons_self ..⟩
         have h1:capM D x=c:=by rw[hcl];unfold capM capL;rw[partsM_step wp hr hb hs hp]
         have hpos:0<capM D x:=by have:=partsM_pos wp hr hb (r x+1) x (by omega) hs;unfold capM;omega
         have q1:((c:Int)==0)=false:=by simp;omega
         obtain⟨w3,a1,a2,a3⟩:=hMe.store x h0 h1'
         rw[h1] at a1
         have H1:=zh h1
         have HX:=zh (And.intro a2 (hB.trans a3))
         clear a2 a3 hcl hp hq0 h1 hpos
         go_wp2_with fail
         go_ret
         exact⟨by rw[H1.out];rfl,HX.out.2,HX.out.1⟩
end D
namespace Lo
open Go.Maps Go.ChangeMaps
open D (isI64 sylB Dm Wf Wp partsOf DataAt)
open Ta (linesOf linesOf_le linesOf_small isPtB)
structure UPl (a:ByteArray) (D:Dm) (K:List Int):Prop where
 wp:Wp D
 few:∀ y,(partsOf D y).length≤65537
 key:∀ y,partsOf D y≠[]→y∈K
 pts:∀ x∈K,Pnt x
 cap:K.length≤4096
 nil:a.size=0→(D=fun _=>none)∧K=[]
def putD (D:Dm) (x c:Int) (ps:List Int):Dm:=fun y=>if y=x then some (c,ps) else D y
theorem partsOf_put (D:Dm) (x c:Int) (ps:List Int) (y:Int):partsOf (putD D x c ps) y=if y=x then ps else partsOf D y:=by
 unfold partsOf putD
 by_cases h:y=x<;>simp[h]
theorem pnt_bounds {x:Int} (h:Pnt x):0≤x∧x≤1114111∧sylB x=false:=by
 have h1:=h.1
 simp only [isPtB,Bool.and_eq_true,decide_eq_true_eq] at h1
 exact⟨h1.1.1,h1.1.2,h.2⟩
theorem UPl.empty (a:ByteArray):UPl a (fun _=>none) [] where
 wp:=⟨fun x c l h=>by(cases h),fun x c l h=>by(cases h)⟩
 few:=fun y=>by simp[partsOf]
 key:=fun y h=>by simp[partsOf] at h
 pts:=fun x h=>by cases h
 cap:=Nat.zero_le _
 nil:=fun _=>⟨rfl,rfl⟩
theorem UPl.put {a:ByteArray} {D:Dm} {K:List Int} (h:UPl a D K) {x c:Int} {ps:List Int} (hx:Pnt x) (hc:0≤c∧c≤254) (hp:∀ q∈ps,Pnt q) (hl:ps.length≤65537) (ha:a.size≠0) (hK:K.length<4096):UPl a (putD D x c ps) (K++[x]) where
 wp:=⟨fun y c' l hy=>by
  unfold putD at hy
  split at hy
  · next e=>cases hy;subst e;exact⟨(pnt_bounds hx).2.2,fun q hq=>by have:=pnt_bounds (hp q hq);exact⟨this.2.2,this.1,this.2.1⟩⟩
  · exact h.wp.plain y c' l hy,fun y c' l hy=>by
  unfold putD at hy
  split at hy
  · cases hy;exact hc
  · exact h.wp.cls y c' l hy⟩
 few:=fun y=>by rw[partsOf_put];split;exact hl;exact h.few y
 key:=fun y hy=>by
  rw[partsOf_put] at hy
  split at hy
  · next e=>rw[e];simp
  · exact List.mem_append_left _ (h.key y hy)
 pts:=fun y hy=>by
  rcases List.mem_append.1 hy with hy | hy
  · exact h.pts y hy
  · rw[List.mem_singleton.1 hy];exact hx
 cap:=by rw[List.length_append,List.length_singleton];omega
 nil:=fun e=>absurd e ha
structure ULd (b base S:Nat) (ST:Array Value) (w0:World) (D:Dm) (K:List Int) (m kb:Nat) (ov:Value) (at_:Int) (wr:World):Prop where
 d:Blk wr b 100 #[.pointer (some ⟨b+5,0,none⟩)]
 e:Blk wr (b+1) 41 #[.int .i64 0]
 l:Blk wr (b+2) 3 #[.int .i64 0]
 n:Blk wr (b+3) 3 #[.int .i64 at_]
 box:Blk wr (b+5) 157 #[.map (some (b+4))]
 marks:∃ f,MapIs prog 3 (Value.int .i64) wr (b+4) f m∧(∀ x,D x=none→f x=none)∧∀ x c l,D x=some (c,l)→∃ s,f x=some (.agg #[.int .i64 x,.int .i64 c,s])∧IntsP wr (fun k=>ov.ownBlock=some k∨k<base) s l
 lines:∃ g k,MapIs prog 3 (Value.int .i64) wr (b+6) g k∧k≤kb∧∀ x u,g x=some u→∃ n,u=.int .i64 n
 row:OwnN wr base ov K
 strs:Blk wr S 9 ST
 low:Below b w0 wr
 lo:b+6<S∧S<base∧base≤wr.heap.size∧b=w0.heap.size
section
variable {b base S:Nat} {ST:Array Value} {w0 wr:World} {D:Dm} {K:List Int} {m kb:Nat} {ov:Value} {at_:Int}
theorem ULd.keep {w':World} (h:ULd b base S ST w0 D K m kb ov at_ wr) (hb:Below wr.heap.size wr w'):ULd b base S ST w0 D K m kb ov at_ w' where
 d:=Blk.below h.d hb h.d.lt
 e:=Blk.below h.e hb h.e.lt
 l:=Blk.below h.l hb h.l.lt
 n:=Blk.below h.n hb h.n.lt
 box:=Blk.below h.box hb h.box.lt
 marks:=by
  obtain⟨f,h1,h2,h3⟩:=h.marks
  exact⟨f,h1.keep hb,h2,fun x c l hx=>by obtain⟨s,h4,h5⟩:=h3 x c l hx;exact⟨s,h4,h5.below hb (fun _ _ e=>e)⟩⟩
 lines:=by
  obtain⟨g,k,h1,h2,h3⟩:=h.lines
  exact⟨g,k,h1.keep hb,h2,h3⟩
 row:=h.row.below hb
 strs:=Blk.below h.strs hb h.strs.lt
 low:=h.low.trans (hb.mono (by have:=h.low.size;have:=h.lo.2.2.2;omega))
 lo:=⟨h.lo.1,h.lo.2.1,Nat.le_trans h.lo.2.2.1 hb.size,h.lo.2.2.2⟩
theorem ULd.tick (h:ULd b base S ST w0 D K m kb ov at_ wr) (n:Int):ULd b base S ST w0 D K m kb ov n (wr.setCell ⟨b+3,0,none⟩ (.int .i64 n)) where
 d:=Sc.blk_other h.d (by omega) 0 _
 e:=Sc.blk_other h.e (by omega) 0 _
 l:=Sc.blk_other h.l (by omega) 0 _
 n:=by simpa using h.n.set_ 0 (.int .i64 n)
 box:=Sc.blk_other h.box (by omega) 0 _
 marks:=by
  obtain⟨f,h1,h2,h3⟩:=h.marks
  exact⟨f,h1.of_block (Below.heap_setCell _ _ _ _ (by show b+4≠b+3;omega)),h2,fun x c l hx=>by
   obtain⟨s,h4,h5⟩:=h3 x c l hx
   exact⟨s,h4,h5.keep (by simp) (fun k _ hk=>Below.heap_setCell _ _ _ _ (by show k≠b+3;have:=h.lo;intro e;exact hk (.inr (by omega)))) (fun _ _ e=>e)⟩⟩
 lines:=by
  obtain⟨g,k,h1,h2,h3⟩:=h.lines
  exact⟨g,k,h1.of_block (Below.heap_setCell _ _ _ _ (by show b+6≠b+3;omega)),h2,h3⟩
 row:=ownsRow_setCell_below h.row (a:=⟨b+3,0,none⟩) (by show b+3<base;have:=h.lo;omega) _
 strs:=Sc.blk_other h.strs (by have:=h.lo;omega) 0 _
 low:=h.low.setCell (p:=⟨b+3,0,none⟩) (by show b≤b+3;omega) _
 lo:=by have:=h.lo;simpa using this
theorem ULd.more (h:ULd b base S ST w0 D K m kb ov at_ wr) {k2:Nat} (hk:kb≤k2):ULd b base S ST w0 D K m k2 ov at_ wr :=
 { h with lines:=by obtain⟨g,k,h1,h2,h3⟩:=h.lines;exact⟨g,k,h1,by omega,h3⟩ }
theorem blk_map {B g:Nat} {t:TypeId} {cs:Array Value} {w:World} (o:Obj) (h:Blk w g t cs) (hne:g≠B):Blk (setBlock w B o) g t cs:=(setBlock_other o hne).trans h
theorem ULd.mark (h:ULd b base S ST w0 D K m kb ov at_ wr) (hm:m<4096) {x c:Int} {ps:List Int} {s:Value} (hx:isI64 x) (hD:D x=none) (hs:IntsP wr (fun k=>ov.ownBlock=some k∨k<base) s ps) :
 ∃ w2,(Instr.mapUpdate 155 (.map (some (b+4))) (.int .i64 x) (.agg #[.int .i64 x,.int .i64 c,s])).run prog wr=.ok () w2∧ULd b base S ST w0 (putD D x c ps) K (m+1) kb ov at_ w2∧∃ o,w2=setBlock wr (b+4) o:=by
 obtain⟨f,h1,h2,h3⟩:=h.marks
 obtain⟨w2,g1,g2,o,rfl⟩:=h1.store (int_keyed underlying3) underlying155 (fun x y h=>by injection h) (by unfold maxLen;omega) (keyOf_int_mk underlying3 (YtcgnajeenflfaaaGreatDoor.D.wf64 hx)) (.agg #[.int .i64 x,.int .i64 c,s])
 have kp:∀ {s l},IntsP wr (fun k=>ov.ownBlock=some k∨k<base) s l→IntsP (setBlock wr (b+4) o) (fun k=>ov.ownBlock=some k∨k<base) s l:=fun h5 =>
  h5.keep (by rw[setBlock_size];exact Nat.le_refl _) (fun k _ hk=>setBlock_other o (by have:=h.lo;intro e;exact hk (.inr (by omega)))) (fun _ _ e=>e)
 refine⟨_,g1,?_,o,rfl⟩
 exact {
  d:=blk_map o h.d (by omega)
  e:=blk_map o h.e (by omega)
  l:=blk_map o h.l (by omega)
  n:=blk_map o h.n (by omega)
  box:=blk_map o h.box (by omega)
  marks:=by
   refine⟨_,by rw[if_pos (h2 x hD)] at g2;exact g2,fun y hy=>?_,fun y c' l hy=>?_⟩
   · unfold putD at hy
     split at hy
     · cases hy
     · next e=>rw[putM_other _ _ e];exact h2 y hy
   · unfold putD at hy
     split at hy
     · next e=>cases hy;subst e;exact⟨s,putM_same _ _ _,kp hs⟩
     · next e=>obtain⟨s',h4,h5⟩:=h3 y c' l hy;exact⟨s',by rw[putM_other _ _ e];exact h4,kp h5⟩
  lines:=by
   obtain⟨g,k,k1,k2,k3⟩:=h.lines
   exact⟨g,k,k1.of_block (setBlock_other o (by omega)),k2,k3⟩
  row:=YtcgnajeenflfaaaGreatDoor.D.OwnN.blocks h.row (fun k hk=>setBlock_other o (by have:=h.lo;omega))
  strs:=blk_map o h.strs (by have:=h.lo;omega)
  low:=h.low.trans (setBlock_below o (by omega))
  lo:=by rw[setBlock_size];exact h.lo }
theorem ULd.line (h:ULd b base S ST w0 D K m kb ov at_ wr) (hk:kb≤1000000) (x n:Int) (hx:isI64 x) :
 ∃ w2,(Instr.mapUpdate 158 (.map (some (b+6))) (.int .i64 x) (.int .i64 n)).run prog wr=.ok () w2∧ULd b base S ST w0 D K m (kb+1) ov at_ w2∧∃ o,w2=setBlock wr (b+6) o:=by
 obtain⟨g,k,k1,k2,k3⟩:=h.lines
 obtain⟨w2,g1,g2,o,rfl⟩:=k1.store (int_keyed underlying3) underlying158 (fun x y h=>by injection h) (by unfold maxLen;omega) (keyOf_int_mk underlying3 (YtcgnajeenflfaaaGreatDoor.D.wf64 hx)) (.int .i64 n)
 refine⟨_,g1,?_,o,rfl⟩
 exact {
  d:=blk_map o h.d (by omega)
  e:=blk_map o h.e (by omega)
  l:=blk_map o h.l (by omega)
  n:=blk_map o h.n (by omega)
  box:=blk_map o h.box (by omega)
  marks:=by
   obtain⟨f,h1,h2,h3⟩:=h.marks
   exact⟨f,h1.of_block (setBlock_other o (by omega)),h2,fun y c' l hy=>by
    obtain⟨s',h4,h5⟩:=h3 y c' l hy
    exact⟨s',h4,h5.keep (by rw[setBlock_size];exact Nat.le_refl _) (fun k _ hk=>setBlock_other o (by have:=h.lo;intro e;exact hk (.inr (by omega)))) (fun _ _ e=>e)⟩⟩
  lines:=by
   refine⟨_,_,g2,by split<;>omega,fun y u hy=>?_⟩
   by_cases e:y=x
   · subst e;rw[putM_same] at hy;exact⟨n,by cases hy;rfl⟩
   · rw[putM_other _ _ e] at hy;exact k3 y u hy
  row:=YtcgnajeenflfaaaGreatDoor.D.OwnN.blocks h.row (fun k hk=>setBlock_other o (by have:=h.lo;omega))
  strs:=blk_map o h.strs (by have:=h.lo;omega)
  low:=h.low.trans (setBlock_below o (by omega))
  lo:=by rw[setBlock_size];exact h.lo }
theorem ULd.push (h:ULd b base S ST w0 D K m kb ov at_ wr) {x:Int} {w5:World} {nv_:Value} (hg:(wr.alloc (.cells #[.int .i64 x] 3)).grownBy w5 ov.ownBlock)
 (hO:OwnN w5 base nv_ (K++[x])) (hl:nv_.ownBlock=ov.ownBlock∨nv_.ownBlock=some (wr.alloc (.cells #[.int .i64 x] 3)).heap.size) :
 ULd b base S ST w0 D (K++[x]) m kb nv_ at_ w5:=by
 have h1:=h.keep ((Below.refl wr.heap.size wr).alloc lr (.cells #[.int .i64 x] 3))
 generalize wr.alloc (.cells #[.int .i64 x] 3)=w4 at hg hl h1
 have low:∀ k,ov.ownBlock=some k→base≤k:=fun k e=>(World.ownsRow.lt h1.row k e).1
 have old:∀ k,k<base→w5.heap[k]?=w4.heap[k]?:=fun k hk=>hg.block k (by have:=h1.lo;omega) (fun e=>by have:=low k e.symm;omega)
 have ob:∀ {k:Nat} {t:TypeId} {cs:Array Value},Blk w4 k t cs→k<base→Blk w5 k t cs:=fun h hk=>(old _ hk).trans h
 have hlo:=h1.lo
 exact {
  d:=ob h1.d (by omega)
  e:=ob h1.e (by omega)
  l:=ob h1.l (by omega)
  n:=ob h1.n (by omega)
  box:=ob h1.box (by omega)
  marks:=by
   obtain⟨f,a1,a2,a3⟩:=h1.marks
   refine⟨f,a1.of_block (old _ (by omega)),a2,fun y c' l hy=>?_⟩
   obtain⟨s,h4,h5⟩:=a3 y c' l hy
   refine⟨s,h4,h5.keep hg.size (fun k hk hn=>hg.block k hk (fun e=>hn (.inl e.symm))) (fun k hk e=>?_)⟩
   rcases e with e | e
   · rcases hl with hl | hl
     · exact .inl (hl▸e)
     · rw[hl] at e;cases e;omega
   · exact .inr e
  lines:=by
   obtain⟨g,k,k1,k2,k3⟩:=h1.lines
   exact⟨g,k,k1.of_block (old _ (by omega)),k2,k3⟩
  row:=hO
  strs:=ob h1.strs (by omega)
  low:=h1.low.grown hg (by omega) (fun k e=>by have:=low k e;omega)
  lo:=⟨hlo.1,hlo.2.1,Nat.le_trans hlo.2.2.1 hg.size,hlo.2.2.2⟩ }
theorem ULd.data (h:ULd b base S ST w0 D K m kb ov at_ wr) (hm:m≤4096):DataAt wr (b+4) wr.heap.size (.pointer (some ⟨b+5,0,none⟩)) D:=by
 obtain⟨f,h1,h2,h3⟩:=h.marks
 have hlo:=h.lo
 refine⟨b+5,b+4,f,m,rfl,⟨by omega,h.box.lt⟩,by simpa using h.box.cell 0,⟨by omega,h1.lt⟩,h1,hm,h2,fun x c l hx=>?_⟩
 obtain⟨s,h4,a,cap,rfl,hc,hn,hcells⟩:=h3 x c l hx
 exact⟨_,h4,a,cap,rfl,hc,hn,fun j hj=>by obtain⟨g,off,ha,h5,h6,h7⟩:=hcells j hj;exact⟨g,off,ha,by have:¬ g<base:=fun e=>h6 (.inr e);omega,h5,h7⟩⟩
theorem data_set {w:World} {lo hi g i:Nat} {v u:Value} {D:Dm} (h:DataAt w lo hi v D) (hg:g<lo):DataAt (w.setCell ⟨g,i,none⟩ u) lo hi v D:=by
 obtain⟨pd,b,f,n,rfl,h1,h2,h3,h4,h5,h6,h7⟩:=h
 have e:∀ k,lo≤k→(w.setCell ⟨g,i,none⟩ u).heap[k]?=w.heap[k]?:=fun k hk=>Below.heap_setCell _ _ _ _ (by show k≠g;omega)
 refine⟨pd,b,f,n,rfl,h1,(World.cell?_of_block (e pd h1.1)).trans h2,h3,h4.of_block (e b h3.1),h5,h6,fun x c l hx=>?_⟩
 obtain⟨s,hs,a,cap,rfl,hc,hn,hcells⟩:=h7 x c l hx
 exact⟨_,hs,a,cap,rfl,hc,hn,fun j hj=>by obtain⟨g',off,ha,a1,a2,a3⟩:=hcells j hj;exact⟨g',off,ha,a1,a2,(World.cell?_of_block (a:=⟨g',off+j,none⟩) (e g' a1)).trans a3⟩⟩
theorem ULd.look (h:ULd b base S ST w0 D K m kb ov at_ wr) (x:Int) (hx:isI64 x):∀ w',w'.heap[b+4]?=wr.heap[b+4]? →
 (D x=none→(Instr.lookup 155 (.map (some (b+4))) (.int .i64 x) true).run prog w'=.ok (.tuple #[.agg #[.int .i64 0,.int .i64 0,.slice none 0 0],.bool false]) w') ∧
 (D x≠none→∃ c a n cap,(∀ w',w'.heap[b+4]?=wr.heap[b+4]?→(Instr.lookup 155 (.map (some (b+4))) (.int .i64 x) true).run prog w'=.ok (.tuple #[.agg #[.int .i64 x,.int .i64 c,.slice a n cap],.bool true]) w')):=by
 intro w' hw
 obtain⟨f,h1,h2,h3⟩:=h.marks
 refine⟨fun hD=>?_,fun hD=>?_⟩
 · have hl:=(h1.of_block hw).look (int_keyed underlying3) underlying155 (Tryz.zeroValue162 _) (keyOf_int_mk underlying3 (YtcgnajeenflfaaaGreatDoor.D.wf64 hx)) true
   rw[h2 x hD] at hl
   exact hl
 · cases hd:D x with
   | none=>exact absurd hd hD
   | some cl =>
    obtain⟨c,l⟩:=cl
    obtain⟨s,hs,a,cap,rfl,_⟩:=h3 x c l hd
    refine⟨c,a,l.length,cap,fun w'' hw'=>?_⟩
    have hl:=(h1.of_block hw').look (int_keyed underlying3) underlying155 (Tryz.zeroValue162 _) (keyOf_int_mk underlying3 (YtcgnajeenflfaaaGreatDoor.D.wf64 hx)) true
    rw[hs] at hl
    exact hl
theorem ULd.lineAt (h:ULd b base S ST w0 D K m kb ov at_ wr) (x:Int) (hx:isI64 x):∃ n,(Instr.lookup 158 (.map (some (b+6))) (.int .i64 x) false).run prog wr=.ok (.int .i64 n) wr:=by
 obtain⟨g,k,k1,k2,k3⟩:=h.lines
 have hl:=k1.look (int_keyed underlying3) underlying158 (YtcgnajeenflfaaaGreatDoor.D.zeroInt wr) (keyOf_int_mk underlying3 (YtcgnajeenflfaaaGreatDoor.D.wf64 hx)) false
 cases hg:g x with
 | none=>rw[hg] at hl;exact⟨0,hl⟩
 | some u=>rw[hg] at hl;obtain⟨n,rfl⟩:=k3 x u hg;exact⟨n,hl⟩
theorem ULd.len_ (h:ULd b base S ST w0 D K m kb ov at_ wr) (ty:TypeId):(Builtin.len_ #[155] ty #[.map (some (b+4))]).run prog wr=.ok (.int .i64 (m:Int)) wr:=by
 obtain⟨f,⟨arr,clock,h1,h2,_⟩,_⟩:=h.marks
 simp[Builtin.len_,run_underlying underlying155,MapKept.run_getObj_map h1,goInt,Result.andThen,h2]
theorem ULd.len (h:ULd b base S ST w0 D K m kb ov at_ wr):∃ arr clock,wr.heap[b+4]?=some (.map arr clock)∧arr.size=m:=by
 obtain⟨f,⟨arr,clock,h1,h2,_⟩,_⟩:=h.marks
 exact⟨arr,clock,h1,h2⟩
end
end Lo
end Go.Proofs.YtcgnajeenflfaaaGreatDoor
namespace Go
theorem Proofs.YtcgnajeenflfaaaGreatDoor.returns_laid {H:Type} {enc:TypeId×Value→H} {a:Assume} {C:Checked} {os:Os} {f:FuncId} {fn:Func} {s:ChangeSpec} {conds:List PathCond} {apart fresh handsOn again:Bool} {X:World→Array Value→Prop}
 (hX:∀ (w w':World) (args:Array Value),w.heap=w'.heap→X w args→X w' args)
 (own:ownKnob C.prog.godebug=none) (started:os.Started) (noInit:C.prog.inits.idxOf? f=none) (hfn:C.prog.funcs[f]?=some fn)
 (witness:∃ (w:World) (tape:Tape) (i:Input),w.os=os∧(w.forCall tape i).Shaped C.prog∧i.vars=[]∧Input.okWide C.prog (w.forCall tape i) .any w.heap.size f i ∧
  ((s.pre enc C.prog fn conds apart (w.forCall tape i).memory i.args∧X (w.forCall tape i).memory i.args)∧sizedMet enc C.prog fn (OpenSpec.ofChange s) apart (w.forCall tape i).memory i.args)∧a.holds C.prog (lone (Frame.enter C.prog f i.args .normal) [] (w.forCall tape i)))
 (contract:∀ (W:World) (base:Nat) (args:Array Value) (ds gs:List (DataW H)) (before:List MemPlace),
  (∀ (j:Nat) t v,fn.params[j]?=some t→args[j]?=some v→Value.okWide C.prog W .any base t v) →
  DataW.Whole enc C.prog fn.params.toList s.vars apart W args.toList ds gs before →
  conds.all (PathCond.test C.prog ⟨fn.params.toList,ds,s.plain.varTypes C.prog,gs⟩)=true →
  (DataW.weightsEach C.prog (fn.params.toList++s.plain.varTypes C.prog) (ds++gs)).all (· ≤ reachBytes)=true→X W args→W.ShapedOpen C.prog →
  a.holds C.prog (lone (Frame.enter C.prog f args .normal) [] W) →
  Calls C.prog f args W fun e W'=>∃ v,e=.returned v∧s.post enc C.prog fn apart fresh handsOn again W args v W') :
 ReturnsInHanded a C os f .any (fun w args=>(s.pre enc C.prog fn conds apart w args∧X w args)∧sizedMet enc C.prog fn (OpenSpec.ofChange s) apart w args) (s.post enc C.prog fn apart fresh handsOn again):=by
 refine returnsInHanded_of_calls own started noInit witness ?_
 intro w tape i _ hsh _ hok hpre hholds
 obtain⟨_,_,_,fn',hfn',_,_,_,_,hval⟩:=hok
 have e:fn'=fn:=Option.some.inj (hfn'.symm.trans hfn)
 subst e
 obtain⟨⟨⟨ds,gs,before,hw,hc⟩,hx⟩,hz⟩:=hpre
 have hw':=DataW.Whole.of_heap (w':=w.forCall tape i) (by rfl) hw
 refine(contract (w.forCall tape i) w.heap.size i.args ds gs before hval hw' hc (hz.weights hw) (hX _ _ _ (by rfl) hx) hsh hholds).mono fun e W' ⟨v,he,hp⟩=>?_
 subst he
 exact ChangeSpec.post_blind hp
end Go
namespace Go.Proofs.YtcgnajeenflfaaaGreatDoor.Lo
open Go.RowKit
open Go.Proofs.YtcgnajeenflfaaaGreatDoor.Sc (GErr)
def VarReads (P:Program) (w:World) (n:String) (d:DataW Unit):Prop :=
 ∃ g t cs fuel p,P.globalNamed n=some g∧(P.globals[g]?).map (·.type)=some t∧w.var? P n=some cs∧DataW.trod (fun _=>()) P w 0 (fun _=>true) false fuel t cs.toList=some (d,p)
theorem reads_of {P:Program} {w:World}:∀ (l:List (String×DataW Unit)) (ps:List MemPlace),DataW.LaidVars P w l ps→∀ n d,(n,d)∈l→VarReads P w n d
 | [],_,_,_,_,hm=>by cases hm
 | (n',d')::r,ps,h,n,d,hm=>by
  obtain⟨g,t,cs,fuel,p,q,h1,h2,h3,h4,h5,_⟩:=h
  rcases List.mem_cons.1 hm with e | e
  · cases e
    exact⟨g,t,cs,fuel,p,h1,h2,h3,h4⟩
  · exact reads_of r q h5 n d e
theorem tab_of_reads {P:Program} {W:World} {name:String} {k:IntKind} {zs:List Int} {g:Nat} {t e:TypeId} {n:Nat}
 (hg:P.globalNamed name=some g) (hty:(P.globals[g]?).map (·.type)=some t) (ht:P.underlying t=some (.array n e)) (he:P.underlying e=some (.int k)) (hce:P.cellsOf e=1) (hct:P.cellsOf t=n)
 (h:VarReads P W name (Lib.tabData k zs)):Lib.TabIs P W name k zs:=by
 obtain⟨g',t',cs,fuel,p,hg',hty',hvar,hd⟩:=h
 obtain rfl:=Option.some.inj (hg.symm.trans hg')
 obtain rfl:=Option.some.inj (hty.symm.trans hty')
 unfold Lib.TabIs
 rw[hvar,← Lib.cells_of_tab ht he hce hct hd]
theorem iface_of_reads {P:Program} {W:World} {name nm:String} {d:DataW Unit} {g:Nat} {t:TypeId} {ms:Array (String×TypeId)}
 (hg:P.globalNamed name=some g) (hty:(P.globals[g]?).map (·.type)=some t) (ht:P.underlying t=some (.interface ms))
 (h:VarReads P W name (.iface nm d)):∃ ev,W.cell? ⟨g,0,none⟩=some ev∧(ev=.nilIface∨∃ te pe,ev=.iface te pe):=by
 obtain⟨g',t',cs,fuel,p,hg',hty',hvar,hd⟩:=h
 obtain rfl:=Option.some.inj (hg.symm.trans hg')
 obtain rfl:=Option.some.inj (hty.symm.trans hty')
 obtain⟨_,u,v,hcs,_⟩:=iface_of_trod ht hd
 refine⟨.iface u v,?_,.inr ⟨u,v,rfl⟩⟩
 have:=World.var?_cell hg hvar 0
 rw[this,show cs=#[.iface u v] by cases cs;simp_all]
 rfl
theorem et:prog.globalNamed "errors.errorType" = some 1:=by kernel_rfl
theorem rt:(prog.cutTypes.find? (·.1 == "internal/reflectlite.rtype")).map (·.2)=some 197:=by kernel_rfl
theorem tsize:prog.types.size=412:=by kernel_rfl
theorem oneRow:((List.range 412).filter fun t=>prog.rowNamed t [101,114,114,111,114])=[36]:=by kernel_rfl
theorem handle_of_laid {l:List (String×DataW Unit)} {W:World} (h:laidMetH prog l W) (hm:("errors.errorType", (Rows.laid_errors_errorType:DataW Unit))∈l):GErr W:=by
 have h':=(laidMetH_iff.1 h).2 _ (List.mem_filter.2 ⟨hm,by kernel_rfl⟩)
 obtain⟨name,u,ty,e1,e2,e3,e4,e5⟩:=h'
 have en:name=[101,114,114,111,114]:=(Option.some.inj e1).symm
 subst en
 obtain rfl:=Option.some.inj (rt.symm.trans e2)
 have hm:ty∈(List.range 412).filter fun t=>prog.rowNamed t [101,114,114,111,114]:=List.mem_filter.2 ⟨List.mem_range.2 (by rw[← tsize];exact e3),e4⟩
 rw[oneRow] at hm
 obtain rfl:=List.mem_singleton.1 hm
 have hh:typeHandle prog 36=.pointer (some ⟨11,36,none⟩):=by kernel_rfl
 rw[hh] at e5
 exact(World.var?_cell et e5 0).trans (by rfl)
theorem met_part {l:List (String×DataW Unit)} {W:World} (h:laidMetH prog l W) {n:String} {d:DataW Unit} (hm:(n,d)∈l) (hn:d.handleName?.isNone=true):VarReads prog W n d :=
 let ⟨ps,hv,_⟩:=(laidMetH_iff.1 h).1
 reads_of _ ps hv n d (List.mem_filter.2 ⟨hm,hn⟩)
theorem gld_of_laid {l:List (String×DataW Unit)} {W:World} (h:laidMetH prog l W) (hs:W.ShapedOpen prog)
 (m1:("strconv.ErrSyntax", (Rows.laid_strconv_ErrSyntax:DataW Unit))∈l) (m2:("strconv.ErrRange", (Rows.laid_strconv_ErrRange:DataW Unit))∈l)
 (m3:("internal/strconv.uint64pow10", (Rows.laid_internal_strconv_uint64pow10:DataW Unit))∈l) (m4:("math/bits.deBruijn64tab", (Rows.laid_math_bits_deBruijn64tab:DataW Unit))∈l):GLd W where
 len:=cell_of_shapedOpen_int (t:=3) (zero:=#[.int .i64 0]) hs (of_decide_eq_true (by kernel_rfl)) (by kernel_rfl) rfl (by kernel_rfl) (by kernel_rfl) underlying3
 errs:=⟨iface_of_reads (by kernel_rfl) (by kernel_rfl) underlying36 (met_part h m1 (by kernel_rfl)),iface_of_reads (by kernel_rfl) (by kernel_rfl) underlying36 (met_part h m2 (by kernel_rfl))⟩
 bru:=by
  have ht:Lib.TabIs prog W "math/bits.deBruijn64tab" .u8 [0,1,56,2,57,49,28,3,61,58,42,50,38,29,17,4,62,47,59,36,45,43,51,22,53,39,33,30,24,18,12,5,63,55,48,27,60,41,37,16,46,35,44,21,52,32,23,11,54,26,40,15,34,20,31,10,25,14,19,9,13,8,7,6] :=
   tab_of_reads (g:=10) (t:=373) (e:=5) (n:=64) (by kernel_rfl) (by kernel_rfl) (by kernel_rfl) (by kernel_rfl) (by kernel_rfl) (by kernel_rfl) (met_part h m4 (by kernel_rfl))
  exact ht.cell (by kernel_rfl) 15 (by decide)
 pow:=tab_of_reads (g:=7) (t:=351) (e:=279) (n:=20) (by kernel_rfl) (by kernel_rfl) (by kernel_rfl) (by kernel_rfl) (by kernel_rfl) (by kernel_rfl) (met_part h m3 (by kernel_rfl))
end Go.Proofs.YtcgnajeenflfaaaGreatDoor.Lo
