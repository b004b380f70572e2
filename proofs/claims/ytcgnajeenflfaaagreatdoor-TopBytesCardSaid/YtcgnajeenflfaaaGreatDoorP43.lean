import Derived.Test.YtcgnajeenflfaaaGreatDoorP40
import Derived.Test.YtcgnajeenflfaaaGreatDoorP42
set_option maxRecDepth 100000
set_option maxHeartbeats 4000000
set_option linter.all false
open Go.Proofs.Tryz Go.RowKit
namespace Go.Proofs.YtcgnajeenflfaaaGreatDoor
namespace Lo
open Go.Maps Go.ChangeMaps
open D (isI64 sylB Dm Wf Wp partsOf DataAt)
open Ta (linesOf linesOf_le linesOf_small isPtB)
open Sc (PartPost DataOk ucatch_idle ucatch_bad)
def Qd (a:ByteArray) (D:Dm):Prop:=a.size=0→D=fun _=>none
theorem region_one {P:Program} {c:Code} {Q:Exit→Act→World→Prop} {a:Act} {w:World} {A:Act} {W:World} (h:c.wp P (fun e a' w'=>e=.normal∧a'=A∧w'=W) a w) (hk:Q .normal A W):c.wp P Q a w :=
 wp_mono h fun e a' w' ⟨h1,h2,h3⟩=>by subst h1 h2 h3;exact hk
abbrev LPost (a:ByteArray) (w:World):Ending→World→Prop:=PartPost (DataOk Qd) a w
theorem uleaves_good (a:ByteArray) (w:World) (tmps:Array Value) {w1:World} {v:Value} {g:Nat} (h2:tmps.getD 2 undef=.pointer (some ⟨g,0,none⟩)) (h3:tmps.getD 3 undef=.pointer (some ⟨g+1,0,none⟩)) (h4:tmps.getD 4 undef=.pointer (some ⟨g+2,0,none⟩))
 (hb0:Blk w1 g 100 #[v]) (hb1:Blk w1 (g+1) 41 #[.int .i64 0]) (hb2:Blk w1 (g+2) 3 #[.int .i64 0]) (hp:DataOk Qd a w1 v) (hB:Below w.heap.size w w1) (p q r s:Addr) :
 Leaves prog Tryz.f37 tmps (LPost a w) [{ target:=.fn (.func 58) #[.pointer (some p),.pointer (some q),.pointer (some r),.pointer (some s)],args:=#[] }] .returning w1:=by
 have d0:=hb0.cell 0
 have d1:=hb1.cell 0
 have d2:=hb2.cell 0
 simp at d0 d1 d2
 refine leaves_cons (f:=58) (args:=#[.pointer (some p),.pointer (some q),.pointer (some r),.pointer (some s)]) (by simp) (by simp[go_sem]) ?_
 refine(ucatch_idle _ _ _ _ w1).mono ?_
 rintro e u' w2 ⟨rfl,rfl,rfl⟩
 refine⟨.tuple #[v,.int .i64 0,.int .i64 0],?_,⟨v,0,0,rfl,fun _=>hp,fun _=>rfl,hB⟩⟩
 simp only [Array.getD_eq_getD_getElem?] at h2 h3 h4
 simp[results,Tryz.results37,go_sem,h2,h3,h4,d0,d1,d2]
theorem uleaves_bad (a:ByteArray) (w:World) (tmps:Array Value) {w1:World} {v er ln:Value} {g:Nat} {n c:Int} (h2:tmps.getD 2 undef=.pointer (some ⟨g,0,none⟩)) (h3:tmps.getD 3 undef=.pointer (some ⟨g+1,0,none⟩)) (h4:tmps.getD 4 undef=.pointer (some ⟨g+2,0,none⟩))
 (hb0:Blk w1 g 100 #[v]) (hb1:Blk w1 (g+1) 41 #[er]) (hb2:Blk w1 (g+2) 3 #[ln]) (hb3:Blk w1 (g+3) 3 #[.int .i64 n]) (hg:w.heap.size≤g) (hc:c≠0) (ha:a.size≠0) (hB:Below w.heap.size w w1) :
 Leaves prog Tryz.f37 tmps (LPost a w) [{ target:=.fn (.func 58) #[.pointer (some ⟨g+3,0,none⟩),.pointer (some ⟨g,0,none⟩),.pointer (some ⟨g+1,0,none⟩),.pointer (some ⟨g+2,0,none⟩)],args:=#[] }] (.panicking [{ v:=.iface 153 (.agg #[.int .i64 c]),recovered:=false }]) w1:=by
 refine leaves_cons (f:=58) (args:=#[.pointer (some ⟨g+3,0,none⟩),.pointer (some ⟨g,0,none⟩),.pointer (some ⟨g+1,0,none⟩),.pointer (some ⟨g+2,0,none⟩)]) (by simp) (by simp[go_sem]) ?_
 refine(ucatch_bad (g+3) g (g+1) (g+2) c n v er ln w1 hb3 hb0 hb1 hb2 (by omega) (by omega) (by omega)).mono ?_
 rintro e u' w2 ⟨rfl,rfl,⟨e0,e1,e2⟩,hx⟩
 have d0:=e0.cell 0
 have d1:=e1.cell 0
 have d2:=e2.cell 0
 simp at d0 d1 d2
 refine⟨.tuple #[.pointer none,.int .i64 c,.int .i64 n],?_,⟨.pointer none,c,n,rfl,fun h=>absurd h hc,fun h=>absurd h ha,hB.trans (hx.below (fun k hk e=>by omega) (by have:=hB.size;omega))⟩⟩
 simp only [Array.getD_eq_getD_getElem?] at h2 h3 h4
 simp[results,Tryz.results37,go_sem,h2,h3,h4,d0,d1,d2]
theorem uload_long (a:ByteArray) (ha:65536<a.size) (w:World):Calls prog 37 #[.string a] w (LPost a w):=by
 have q1:decide ((65536:Int)<(a.size:Int))=true:=decide_eq_true (by omega)
 have HA:=zh ha
 clear ha
 go_enter_defers func37,ntmps37
 go_wp2_with fail
 have hb:Below w.heap.size w (((w.alloc (.cells #[.pointer none] 100)).alloc (.cells #[.int .i64 2] 41)).alloc (.cells #[.int .i64 0] 3)):=((zr.alloc lr _).alloc (by simp) _).alloc (by simp;omega) _
 refine⟨.tuple #[.pointer none,.int .i64 2,.int .i64 0],?_,⟨.pointer none,2,0,rfl,fun h=>absurd h (by decide),fun h=>absurd h (by have:=HA.out;omega),hb⟩⟩
 simp[results,Tryz.f37,Tryz.results37,go_sem]
theorem ustart (w:World) (b:Nat) (hb:w.heap.size=b) (W0:World) (hW:(((((((w.alloc (.cells #[.pointer (some ⟨b+5,0,none⟩)] 100)).alloc (.cells #[.int .i64 0] 41)).alloc (.cells #[.int .i64 0] 3)).alloc (.cells #[.int .i64 0] 3)).alloc (.map #[] 0)).alloc (.cells #[.map (some (b+4))] 157)).alloc (.map #[] 0))=W0)
 (ST:Array Value) (w1:World) (hw1:Below W0.heap.size W0 w1) (hS:Blk w1 (b+7) 9 ST):ULd b w1.heap.size (b+7) ST w (fun _=>none) [] 0 0 (.slice none 0 0) 0 w1∧W0.heap.size=b+7∧Below w.heap.size w w1:=by
 have al:∀ {A:World} {k:Nat} {t:TypeId} {cs:Array Value} (o:Obj),Blk A k t cs→Blk (A.alloc o) k t cs:=fun o h=>Blk.below h (zr.alloc lr o) h.lt
 have am:∀ {A:World} {k:Nat} {f:Int→Option Value} {n:Nat} (o:Obj),MapIs prog 3 (Value.int .i64) A k f n→MapIs prog 3 (Value.int .i64) (A.alloc o) k f n:=fun o h=>h.keep (zr.alloc lr o)
 have ab:∀ {A:World} (o:Obj),b≤A.heap.size→Below b w A→Below b w (A.alloc o)∧b≤(A.alloc o).heap.size:=fun o h1 h2=>⟨h2.alloc h1 o,by simp;omega⟩
 obtain⟨A1,h1⟩:∃ A1,w.alloc (.cells #[.pointer (some ⟨b+5,0,none⟩)] 100)=A1:=⟨_,rfl⟩
 rw[h1] at hW
 have z1:A1.heap.size=b+1:=by rw[← h1];simp[hb]
 have b1:Blk A1 b 100 #[.pointer (some ⟨b+5,0,none⟩)]:=by rw[← h1,← hb];exact Blk.new _ _ _
 have l1:Below b w A1:=by rw[← h1,← hb];exact zr.alloc lr _
 obtain⟨A2,h2⟩:∃ A2,A1.alloc (.cells #[.int .i64 0] 41)=A2:=⟨_,rfl⟩
 rw[h2] at hW
 have z2:A2.heap.size=b+2:=by rw[← h2];simp[z1]
 have b2:Blk A2 (b+1) 41 #[.int .i64 0]:=by rw[← h2,← z1];exact Blk.new _ _ _
 have l2:Below b w A2:=by rw[← h2];exact l1.alloc (by omega) _
 obtain⟨A3,h3⟩:∃ A3,A2.alloc (.cells #[.int .i64 0] 3)=A3:=⟨_,rfl⟩
 rw[h3] at hW
 have z3:A3.heap.size=b+3:=by rw[← h3];simp[z2]
 have b3:Blk A3 (b+2) 3 #[.int .i64 0]:=by rw[← h3,← z2];exact Blk.new _ _ _
 have l3:Below b w A3:=by rw[← h3];exact l2.alloc (by omega) _
 obtain⟨A4,h4⟩:∃ A4,A3.alloc (.cells #[.int .i64 0] 3)=A4:=⟨_,rfl⟩
 rw[h4] at hW
 have z4:A4.heap.size=b+4:=by rw[← h4];simp[z3]
 have b4:Blk A4 (b+3) 3 #[.int .i64 0]:=by rw[← h4,← z3];exact Blk.new _ _ _
 have l4:Below b w A4:=by rw[← h4];exact l3.alloc (by omega) _
 obtain⟨A5,h5⟩:∃ A5,A4.alloc (.map #[] 0)=A5:=⟨_,rfl⟩
 rw[h5] at hW
 have z5:A5.heap.size=b+5:=by rw[← h5];simp[z4]
 have b5:MapIs prog 3 (Value.int .i64) A5 (b+4) (fun _=>none) 0:=by rw[← h5,← z4];exact MapIs.made ..
 have l5:Below b w A5:=by rw[← h5];exact l4.alloc (by omega) _
 obtain⟨A6,h6⟩:∃ A6,A5.alloc (.cells #[.map (some (b+4))] 157)=A6:=⟨_,rfl⟩
 rw[h6] at hW
 have z6:A6.heap.size=b+6:=by rw[← h6];simp[z5]
 have b6:Blk A6 (b+5) 157 #[.map (some (b+4))]:=by rw[← h6,← z5];exact Blk.new _ _ _
 have l6:Below b w A6:=by rw[← h6];exact l5.alloc (by omega) _
 have z7:W0.heap.size=b+7:=by rw[← hW];simp[z6]
 have b7:MapIs prog 3 (Value.int .i64) W0 (b+6) (fun _=>none) 0:=by rw[← hW,← z6];exact MapIs.made ..
 have l7:Below b w W0:=by rw[← hW];exact l6.alloc (by omega) _
 have f1:Blk W0 b 100 #[.pointer (some ⟨b+5,0,none⟩)]:=by rw[← hW,← h6,← h5,← h4,← h3,← h2];exact al _ (al _ (al _ (al _ (al _ (al _ b1)))))
 have f2:Blk W0 (b+1) 41 #[.int .i64 0]:=by rw[← hW,← h6,← h5,← h4,← h3];exact al _ (al _ (al _ (al _ (al _ b2))))
 have f3:Blk W0 (b+2) 3 #[.int .i64 0]:=by rw[← hW,← h6,← h5,← h4];exact al _ (al _ (al _ (al _ b3)))
 have f4:Blk W0 (b+3) 3 #[.int .i64 0]:=by rw[← hW,← h6,← h5];exact al _ (al _ (al _ b4))
 have f5:MapIs prog 3 (Value.int .i64) W0 (b+4) (fun _=>none) 0:=by rw[← hW,← h6];exact am _ (am _ b5)
 have f6:Blk W0 (b+5) 157 #[.map (some (b+4))]:=by rw[← hW];exact al _ b6
 have hlow:Below b w w1:=l7.trans (hw1.mono (by omega))
 refine⟨?_,z7,by rw[hb];exact hlow⟩
 exact {
  d:=Blk.below f1 hw1 f1.lt
  e:=Blk.below f2 hw1 f2.lt
  l:=Blk.below f3 hw1 f3.lt
  n:=Blk.below f4 hw1 f4.lt
  box:=Blk.below f6 hw1 f6.lt
  marks:=⟨_,f5.keep hw1,fun _ _=>rfl,fun x c l h=>by cases h⟩
  lines:=⟨_,_,b7.keep hw1,Nat.le_refl _,fun x u h=>by cases h⟩
  row:=OwnN.nil _ _
  strs:=hS
  low:=hlow
  lo:=⟨by omega,hS.lt,Nat.le_refl _,hb.symm⟩ }
theorem ufinal {b base S:Nat} {ST:Array Value} {w0 wr:World} {D:Dm} {K:List Int} {m kb:Nat} {ov:Value} {at_:Int} (h:ULd b base S ST w0 D K m kb ov at_ wr) (hm:m≤4096) :
 let F:=((wr.setCell ⟨b,0,none⟩ (.pointer (some ⟨b+5,0,none⟩))).setCell ⟨b+1,0,none⟩ (.int .i64 0)).setCell ⟨b+2,0,none⟩ (.int .i64 0)
 Blk F b 100 #[.pointer (some ⟨b+5,0,none⟩)]∧Blk F (b+1) 41 #[.int .i64 0]∧Blk F (b+2) 3 #[.int .i64 0]∧DataAt F 0 F.heap.size (.pointer (some ⟨b+5,0,none⟩)) D∧Below b w0 F:=by
 intro F
 have bo:=@Sc.blk_other
 refine⟨bo (bo (by simpa using h.d.set_ 0 (.pointer (some ⟨b+5,0,none⟩))) (by omega) 0 _) (by omega) 0 _,bo (by simpa using (bo h.e (by omega) 0 _).set_ 0 (.int .i64 0)) (by omega) 0 _,by simpa using (bo (bo h.l (by omega) 0 _) (by omega) 0 _).set_ 0 (.int .i64 0),?_,
  ((h.low.setCell (p:=⟨b,0,none⟩) lr _).setCell (p:=⟨b+1,0,none⟩) (Nat.le_succ _) _).setCell (p:=⟨b+2,0,none⟩) (by show b≤b+2;omega) _⟩
 exact(data_set (data_set (data_set (h.data hm) (by omega)) (by omega)) (by omega)).wide (Nat.zero_le _) (by show wr.heap.size≤F.heap.size;simp[F])
theorem uload_fine (a:ByteArray) (ha:a.size≤65536) (w:World) (hg:GLd w):Calls prog 37 #[.string a] w (LPost a w):=by
 have q1:decide ((65536:Int)<(a.size:Int))=false:=decide_eq_false (by omega)
 have hmk:∀ w:World,(Instr.makeMap 155 none).run prog w=.ok (.map (some w.heap.size)) (w.alloc (.map #[] 0)):=fun _=>rfl
 have hmk2:∀ w:World,(Instr.makeMap 158 none).run prog w=.ok (.map (some w.heap.size)) (w.alloc (.map #[] 0)):=fun _=>rfl
 have hmf:∀ (fn:Fn) (first cap:Array Value) (w:World),(Instr.makeFunc fn first cap).run prog w=.ok (.func fn first cap) w:=fun _ _ _ _=>rfl
 have HG:=zh hg
 have HA:=zh ha
 clear ha hg
 go_enter_defers func37,ntmps37
 go_wp2_with fail
 obtain⟨b,hb⟩:∃ b,w.heap.size=b:=⟨_,rfl⟩
 simp only [hb,Nat.add_assoc,Nat.reduceAdd]
 obtain⟨W0,hW⟩:∃ W0,(((((((w.alloc (.cells #[.pointer (some ⟨b+5,0,none⟩)] 100)).alloc (.cells #[.int .i64 0] 41)).alloc (.cells #[.int .i64 0] 3)).alloc (.cells #[.int .i64 0] 3)).alloc (.map #[] 0)).alloc (.cells #[.map (some (b+4))] 157)).alloc (.map #[] 0))=W0:=⟨_,rfl⟩
 rw[hW]
 refine(Split_any 10 a (by have:=HA.out;omega) W0 (HG.out.later (by rw[← hW];exact(((((((zr.alloc lr _).alloc (by simp) _).alloc (by simp;omega) _).alloc (by simp;omega) _).alloc (by simp;omega) _).alloc (by simp;omega) _).alloc (by simp;omega) _)))).mono ?_
 rintro e w1 ⟨rfl,hS,hb1⟩
 have hz7:W0.heap.size=b+7:=by rw[← hW];simp[hb]
 rw[hz7] at hS ⊢
 obtain⟨hU,-,hB1⟩:=ustart w b hb W0 hW _ w1 hb1 hS
 obtain⟨base,hbase⟩:∃ base,w1.heap.size=base:=⟨_,rfl⟩
 rw[hbase] at hU
 have HSm:=zh (linesOf_small 10 a)
 have HSl:=zh (linesOf_le 10 a)
 have HSz:=zh (show a.size=0→∀ q∈linesOf 10 a,q.size=0 from fun h q hq=>by have:=linesOf_small 10 a q hq;omega)
 obtain⟨ls,hls⟩:∃ ls,linesOf 10 a=ls:=⟨_,rfl⟩
 obtain⟨n,hn⟩:∃ n,ls.length=n:=⟨_,rfl⟩
 rw[hls] at HSm HSl HSz hU hS ⊢
 rw[hn] at HSl ⊢
 have hnl:n≤65537:=by have:=HSl.out;have:=HA.out;omega
 have HN:=zh hn
 have HU:=zh hU
 have HBB:=zh (show b=w.heap.size from hb.symm)
 clear hU hS hls hn hW hz7 hb1 hB1 hb
 go_wp2_with fail
 go_loopw [7,29] (fun ov iv wr=>∃ (j:Nat) (K:List Int) (D:Dm),iv=.int .i64 j∧j≤n∧RowKit.Hid (ULd b base (b+7) (ls.map Value.string).toArray w D K K.length j ov j wr)∧RowKit.Hid (UPl a D K)) (fun _ i _=>n-(intOf i).toNat)
 case atStart=>exact⟨0,[],fun _=>none,rfl,Nat.zero_le _,HU,zh (UPl.empty a)⟩
 case round =>
  obtain⟨j,K,D,rfl,hj,HM,HP⟩:=hrel
  obtain⟨oa,oc,rfl⟩:=row_slice HM.out.row
  have HLO:=zh HM.out.lo
  by_cases hlt:j<n
  case neg =>
   have hnj:n=j:=by omega
   subst hnj
   have HKI:=zh (fun x (hx:x∈K)=>pnt_bounds (HP.out.pts x hx))
   have hcap:=HP.out.cap
   clear hj hlt
   go_wp2_with fail
   go_loopw [84] (fun iv wr2=>∃ (i:Nat),iv=.int .i64 i∧i≤K.length∧RowKit.Hid (ULd b base (b+7) (ls.map Value.string).toArray w D K K.length n (.slice oa K.length oc) n wr2)∧RowKit.Hid (∀ x∈K.take i,¬ YtcgnajeenflfaaaGreatDoor.D.Lead D x x)) (fun i _=>K.length-(intOf i).toNat)
   case atStart=>exact⟨0,rfl,Nat.zero_le _,HM,zh (fun x h=>by cases h)⟩
   case round =>
    obtain⟨i,rfl,hi,HM2,HL⟩:=hrel
    obtain⟨_,_,he1,hcp,hcell⟩:=YtcgnajeenflfaaaGreatDoor.D.IntsIn.get HM2.out.row.reads
    injection he1 with he2 he3 he4
    subst he2 he4
    have HC:=zh hcell
    clear hcell
    by_cases hlt:i<K.length
    · obtain⟨g,off,rfl,_,hg,hc⟩:=HC.out i hlt
      obtain⟨x,hx⟩:∃ x,K[i]=x:=⟨_,rfl⟩
      rw[hx] at hc
      have hxK:x∈K:=hx▸List.getElem_mem hlt
      have hxb:=HKI.out x hxK
      have hxi:isI64 x:=by unfold isI64;omega
      have c0:wr.cell? ⟨b,0,none⟩=some (.pointer (some ⟨b+5,0,none⟩)):=by simpa using HM2.out.d.cell 0
      have HLD:=zh (YtcgnajeenflfaaaGreatDoor.D.leads_any HP.out.wp K HP.out.key HP.out.few HP.out.cap (.pointer (some ⟨b+5,0,none⟩)) x wr hxi ((HM2.out.data HP.out.cap).wide (Nat.zero_le _) lr))
      have HXX:=zh (And.intro hx hxb)
      clear hx hxb
      go_wp2_with fail
      refine HLD.out.mono ?_
      rintro e w2 ⟨⟨bo,rfl,hbo⟩,hb2⟩
      have HM3:=zh (HM2.out.keep hb2)
      have HBO:=zh hbo
      clear hb2 hbo
      cases bo with
      | true =>
       obtain⟨ln,hln⟩:=HM3.out.lineAt x hxi
       have c3:w2.cell? ⟨b+3,0,none⟩=some (.int .i64 (n:Int)):=by simpa using HM3.out.n.cell 0
       have z3:=HM3.out.n.frozen 0
       have HA0:=zh (show a.size≠0 from fun e=>by
        have h1:=(HP.out.nil e).2
        rw[h1] at hxK
        cases hxK)
       have HM4:=zh (HM3.out.tick ln)
       go_wp2_with fail
       exact uleaves_bad a w _ rfl rfl rfl HM4.out.d HM4.out.e HM4.out.l HM4.out.n (Nat.le_of_eq HBB.out.symm) (by decide) HA0.out (by rw[← HBB.out];exact HM4.out.low)
      | false =>
       have HL2:=zh (show ∀ y∈K.take (i+1),¬ YtcgnajeenflfaaaGreatDoor.D.Lead D y y from fun y hy=>by
        rw[List.take_add_one,List.getElem?_eq_getElem hlt,Option.toList_some,HXX.out.1] at hy
        rcases List.mem_append.1 hy with hy | hy
        · exact HL.out y hy
        · rw[List.mem_singleton.1 hy];exact HBO.out rfl)
       go_wp2_with fail
       exact⟨⟨i+1,by simp,by omega,HM3,HL2⟩,by simp[intOf];omega⟩
    · have hiK:i=K.length:=by omega
      have HLA:=zh (show ∀ y∈K,¬ YtcgnajeenflfaaaGreatDoor.D.Lead D y y from fun y hy=>HL.out y (by rw[hiK,List.take_length];exact hy))
      have hb3:Below wr.heap.size wr (wr.alloc (.map #[] 0)):=zr.alloc lr _
      have HME:=zh (YtcgnajeenflfaaaGreatDoor.D.Memo.new D wr)
      have HB3:=zh hb3
      clear hb3 hi
      go_wp2_with fail
      obtain⟨bk,hbk⟩:∃ bk,wr.heap.size=bk:=⟨_,rfl⟩
      rw[hbk] at HB3 HME ⊢
      have HBK:=zh hbk
      have HMW:=HM2
      have HDT:=zh ((HM2.out.data HP.out.cap).wide (Nat.zero_le _) (Nat.le_of_eq hbk))
      have HRK:=zh (fun x q (hq:q∈partsOf D x)=>YtcgnajeenflfaaaGreatDoor.D.rankK_lt HP.out.key HLA.out hq)
      have HRL:=zh (show ∀ x,YtcgnajeenflfaaaGreatDoor.D.rankK D K x≤4500 from fun x=>by have h1:=YtcgnajeenflfaaaGreatDoor.D.rankK_le D K x;have h2:=HP.out.cap;omega)
      clear hbk hlt hiK
      rename World=>W2
      go_loopw [100] (fun iv wr3=>∃ (k:Nat),iv=.int .i64 k∧k≤K.length∧RowKit.Hid (Below bk W2 wr3)∧RowKit.Hid (YtcgnajeenflfaaaGreatDoor.D.Memo D bk wr3)∧RowKit.Hid (∀ x∈K.take k,YtcgnajeenflfaaaGreatDoor.D.capM D x≤18)) (fun i _=>K.length-(intOf i).toNat)
      case atStart=>exact⟨0,rfl,Nat.zero_le _,HB3,HME,zh (fun x h=>by cases h)⟩
      case round =>
       obtain⟨k,rfl,hk,HBW,HMM,HCP⟩:=hrel
       have HM3:=zh (HMW.out.keep (by rw[HBK.out];exact HBW.out))
       by_cases hlt:k<K.length
       · obtain⟨g,off,rfl,_,hg,hc⟩:=HC.out k hlt
         obtain⟨x,hx⟩:∃ x,K[k]=x:=⟨_,rfl⟩
         rw[hx] at hc
         rw[HBK.out] at hg
         have hc':wr.cell? ⟨g,off+k,none⟩=some (.int .i64 x):=(HBW.out.cell (p:=⟨g,off+k,none⟩) hg).trans hc
         have hxK:x∈K:=hx▸List.getElem_mem hlt
         have hxb:=HKI.out x hxK
         have hxi:isI64 x:=by unfold isI64;omega
         have c0:wr.cell? ⟨b,0,none⟩=some (.pointer (some ⟨b+5,0,none⟩)):=by simpa using HM3.out.d.cell 0
         have HSZ:=zh (YtcgnajeenflfaaaGreatDoor.D.size_f HP.out.wp HRK.out HRL.out HP.out.few (.pointer (some ⟨b+5,0,none⟩)) bk 5000 x wr (by have:=HRL.out x;omega) hxb.1 hxb.2.1 hxb.2.2 (HDT.out.later HBW.out lr) HMM.out)
         have HXX:=zh (And.intro hx hxb)
         obtain⟨z,hz⟩:∃ z,YtcgnajeenflfaaaGreatDoor.D.capM D x=z:=⟨_,rfl⟩
         have HZ:=zh hz
         clear hx hxb hz hc
         go_wp2_with fail
         refine HSZ.out.mono ?_
         rintro e w3 ⟨rfl,hb4,hm4⟩
         rw[HZ.out]
         have HB4:=zh (HBW.out.trans hb4)
         have HM4:=zh (HMW.out.keep (by rw[HBK.out];exact HB4.out))
         have HMM4:=zh hm4
         clear hb4 hm4
         by_cases h18:18<z
         · have e1:decide ((18:Int)<(z:Int))=true:=decide_eq_true (by omega)
           obtain⟨ln,hln⟩:=HM4.out.lineAt x hxi
           have c3:w3.cell? ⟨b+3,0,none⟩=some (.int .i64 (n:Int)):=by simpa using HM4.out.n.cell 0
           have z3:=HM4.out.n.frozen 0
           have HA0:=zh (show a.size≠0 from fun e=>by
            have h1:=(HP.out.nil e).2
            rw[h1] at hxK
            cases hxK)
           have HM5:=zh (HM4.out.tick ln)
           clear h18
           go_wp2_with fail
           exact uleaves_bad a w _ rfl rfl rfl HM5.out.d HM5.out.e HM5.out.l HM5.out.n (Nat.le_of_eq HBB.out.symm) (by decide) HA0.out (by rw[← HBB.out];exact HM5.out.low)
         · have e1:decide ((18:Int)<(z:Int))=false:=decide_eq_false (by omega)
           have HCP2:=zh (show ∀ y∈K.take (k+1),YtcgnajeenflfaaaGreatDoor.D.capM D y≤18 from fun y hy=>by
            rw[List.take_add_one,List.getElem?_eq_getElem hlt,Option.toList_some,HXX.out.1] at hy
            rcases List.mem_append.1 hy with hy | hy
            · exact HCP.out y hy
            · rw[List.mem_singleton.1 hy,HZ.out];omega)
           clear h18
           go_wp2_with fail
           exact⟨⟨k+1,by simp,by omega,HB4,HMM4,HCP2⟩,by simp[intOf];omega⟩
       · have hkK:k=K.length:=by omega
         have HWF:=zh (YtcgnajeenflfaaaGreatDoor.D.wf_of HP.out.wp HP.out.cap HP.out.key HLA.out (fun y hy=>HCP.out y (by rw[hkK,List.take_length];exact hy)))
         have c0:wr.cell? ⟨b,0,none⟩=some (.pointer (some ⟨b+5,0,none⟩)):=by simpa using HM3.out.d.cell 0
         have c1:wr.cell? ⟨b+1,0,none⟩=some (.int .i64 0):=by simpa using HM3.out.e.cell 0
         have c2:wr.cell? ⟨b+2,0,none⟩=some (.int .i64 0):=by simpa using HM3.out.l.cell 0
         have z0:=HM3.out.d.frozen 0
         have z1:=HM3.out.e.frozen 0
         have z2:=HM3.out.l.frozen 0
         have HF:=zh (ufinal HM3.out HP.out.cap)
         clear hkK
         go_wp2_with fail
         obtain⟨f0,f1,f2,f3,f4⟩:=HF.out
         exact uleaves_good a w _ rfl rfl rfl f0 f1 f2 ⟨D,HWF.out,fun e=>(HP.out.nil e).1,f3⟩ (by rw[← HBB.out];exact f4) _ _ _ _
  obtain⟨q,hq⟩:∃ q,ls[j]?=some q:=⟨_,List.getElem?_eq_getElem (by rw[HN.out];exact hlt)⟩
  have HQm:=zh (List.mem_of_getElem? hq)
  have cq:wr.cell? ⟨b+7,j,none⟩=some (.string q):=(HM.out.strs.cell j).trans (by simp[hq])
  have cn:wr.cell? ⟨b+3,0,none⟩=some (.int .i64 (j:Int)):=by simpa using HM.out.n.cell 0
  have zn:=HM.out.n.frozen 0
  have HM1:=zh (HM.out.tick ((j:Int)+1))
  have HM1s:=zh (HM1.out.more (Nat.le_succ j))
  clear hq
  by_cases hq0:q.size=0
  · have hqe:q.toList.isEmpty=true:=by
     obtain⟨⟨l⟩⟩:=q
     cases l with
     | nil=>rw[← decide_eq_emptyBytes];rfl
     | cons _ _=>simp[ByteArray.size] at hq0
    go_wp2_with fail
    exact⟨⟨j+1,K,D,by simp,by omega,by simpa using HM1s,HP⟩,by simp[intOf];omega⟩
  have hqe:q.toList.isEmpty=false:=by
   rw[← decide_eq_emptyBytes]
   exact decide_eq_false (fun e=>hq0 (by rw[e];rfl))
  have hqp:0<q.size:=by omega
  by_cases hq35:((q[0].toNat:Int)==35)=true
  · go_wp2_with fail
    exact⟨⟨j+1,K,D,by simp,by omega,by simpa using HM1s,HP⟩,by simp[intOf];omega⟩
  have hq36:((q[0].toNat:Int)==35)=false:=by simpa using hq35
  have HA0:=zh (show a.size≠0 from fun e=>hq0 (HSz.out e q HQm.out))
  have hqs:q.size≤65536:=by have:=HSm.out q HQm.out;have:=HA.out;omega
  obtain⟨w1,hw1⟩:∃ w1,wr.setCell ⟨b+3,0,none⟩ (.int .i64 ((j:Int)+1))=w1:=⟨_,rfl⟩
  rw[hw1] at HM1
  clear HM1s
  have HW1:=zh hw1
  have HMK:=zh (mark_any q hqs w1 (HG.out.later (by rw[HBB.out] at *;exact HM1.out.low)))
  clear hw1 hq35 hq0
  go_wp2_with fail
  rw[HW1.out]
  clear cq cn zn
  refine HMK.out.mono ?_
  rintro e w2 ⟨⟨x,c,ps,v,rfl,hx,hc,hps,hpl,hv⟩ | he,hb2⟩
  case inr =>
   unfold ugives at he
   subst he
   have h2:=HM1.out.keep hb2
   exact uleaves_bad a w _ rfl rfl rfl h2.d h2.e h2.l h2.n (Nat.le_of_eq HBB.out.symm) (by decide) HA0.out (by rw[← HBB.out];exact h2.low)
  obtain⟨va,vc,rfl,hvc,_⟩:=hv.form
  have HX:=zh hx
  have hxi:isI64 x:=by have:=pnt_bounds hx;unfold isI64;omega
  have HPY:=zh (And.intro hc (And.intro hps hpl))
  obtain⟨T,hT⟩:∃ T,w2.heap.size=T:=⟨_,rfl⟩
  obtain⟨W3,hW3⟩:∃ W3,w2.alloc (.cells #[.int .i64 x,.int .i64 c,.slice va ps.length vc] 162)=W3:=⟨_,rfl⟩
  have hb3:Below w2.heap.size w2 W3:=by rw[← hW3];exact zr.alloc lr _
  have HT:=zh (show Blk W3 T 162 #[.int .i64 x,.int .i64 c,.slice va ps.length vc] by rw[← hW3,← hT];exact Blk.new _ _ _)
  have HM3:=zh ((HM1.out.keep hb2).keep hb3)
  have HV3:=zh (hv.later hb3)
  have HZ:=zh (show w1.heap.size≤T∧W3.heap.size=T+1 by rw[← hT,← hW3];exact⟨hb2.size,by simp⟩)
  have HW3:=zh hW3
  have HTT:=zh hT
  clear hx hc hps hpl hb2 hb3 hW3 hT hv
  go_wp2_with fail
  simp only [HTT.out,HW3.out]
  have c0:W3.cell? ⟨b,0,none⟩=some (.pointer (some ⟨b+5,0,none⟩)):=by simpa using HM3.out.d.cell 0
  have c5:W3.cell? ⟨b+5,0,none⟩=some (.map (some (b+4))):=by simpa using HM3.out.box.cell 0
  have t0:W3.cell? ⟨T,0,none⟩=some (.int .i64 x):=by simpa using HT.out.cell 0
  have l0:=HM3.out.d.lt
  have l5:=HM3.out.box.lt
  have lT:=HT.out.lt
  by_cases hD:D x=none
  case neg =>
   obtain⟨c9,a9,n9,k9,hlk⟩:=(HM3.out.look x hxi W3 rfl).2 hD
   have lk1:=hlk W3.drew rfl
   have lk2:=hlk (W3.alloc (.cells #[.int .i64 x,.int .i64 c9,.slice a9 n9 k9] 162)).drew (Below.heap_alloc _ _ _ (by show b+4<W3.heap.size;omega))
   have lk3:=hlk (W3.alloc (.cells #[.int .i64 0,.int .i64 0,.slice none 0 0] 162)).drew (Below.heap_alloc _ _ _ (by show b+4<W3.heap.size;omega))
   have HM4:=zh (HM3.out.keep (zr.alloc lr (.cells #[.int .i64 x,.int .i64 c9,.slice a9 n9 k9] 162)).drew)
   clear hlk hD
   go_region
   all_goals go_wp2_with fail
   all_goals exact uleaves_bad a w _ rfl rfl rfl HM4.out.d HM4.out.e HM4.out.l HM4.out.n (Nat.le_of_eq HBB.out.symm) (by decide) HA0.out (by rw[← HBB.out];exact HM4.out.low)
  have lk1:=(HM3.out.look x hxi W3.drew rfl).1 hD
  have lk2:=(HM3.out.look x hxi (W3.alloc (.cells #[.int .i64 0,.int .i64 0,.slice none 0 0] 162)).drew (Below.heap_alloc _ _ _ (by show b+4<W3.heap.size;omega))).1 hD
  have HD:=zh hD
  clear hD
  have HM4:=zh (HM3.out.keep (zr.alloc lr (.cells #[.int .i64 0,.int .i64 0,.slice none 0 0] 162)).drew)
  have HT4:=zh (Blk.below HT.out (zr.alloc lr (.cells #[.int .i64 0,.int .i64 0,.slice none 0 0] 162)).drew lT)
  have HV4:=zh ((HV3.out.alloc (.cells #[.int .i64 0,.int .i64 0,.slice none 0 0] 162) (by have:=HZ.out;have:=HTT.out;omega)).later zr.drew)
  have hz4:(W3.alloc (.cells #[.int .i64 0,.int .i64 0,.slice none 0 0] 162)).drew.heap.size=W3.heap.size+1:=by simp
  obtain⟨W4,hW4⟩:∃ W4,(W3.alloc (.cells #[.int .i64 0,.int .i64 0,.slice none 0 0] 162)).drew=W4:=⟨_,rfl⟩
  rw[hW4] at HM4 HT4 HV4 hz4
  have HW4:=zh hW4
  have HZ4:=zh hz4
  clear hW4 hz4
  apply region_one
  case h =>
   go_region
   all_goals exact⟨rfl,rfl,rfl⟩
  rw[HW4.out]
  have hlen:=fun ty=>HM4.out.len_ ty
  have d0:W4.cell? ⟨b,0,none⟩=some (.pointer (some ⟨b+5,0,none⟩)):=by simpa using HM4.out.d.cell 0
  have d5:W4.cell? ⟨b+5,0,none⟩=some (.map (some (b+4))):=by simpa using HM4.out.box.cell 0
  have m0:W4.cell? ⟨T,0,none⟩=some (.int .i64 x):=by simpa using HT4.out.cell 0
  have m1:W4.cell? ⟨T,1,none⟩=some (.int .i64 c):=by simpa using HT4.out.cell 1
  have m2:W4.cell? ⟨T,2,none⟩=some (.slice va ps.length vc):=by simpa using HT4.out.cell 2
  clear lk1 lk2 c0 c5 t0 l0 l5 lT
  by_cases hfull:K.length=4096
  · have e1:((K.length:Int)==4096)=true:=by simp;omega
    clear hfull
    go_wp2_with fail
    exact uleaves_bad a w _ rfl rfl rfl HM4.out.d HM4.out.e HM4.out.l HM4.out.n (Nat.le_of_eq HBB.out.symm) (by decide) HA0.out (by rw[← HBB.out];exact HM4.out.low)
  have e1:((K.length:Int)==4096)=false:=by simp;omega
  have HK:=zh (show K.length<4096 by have:=HP.out.cap;omega)
  have hs4:IntsP W4.drew (fun k=>(Value.slice oa K.length oc).ownBlock=some k∨k<base) (.slice va ps.length vc) ps:=IntsP.of (HV4.out.later zr.drew) (by have:=HZ4.out;have:=HZ.out;have:=HTT.out;show w2.heap.size≤W4.heap.size;omega) (fun k h1 h2 e=>by
   have h3:=HM1.out.lo
   rcases e with e | e
   · have:=(World.ownsRow.lt HM1.out.row k e).2;omega
   · omega)
  obtain⟨w5,hst,hm5,o5,ho5⟩:=(HM4.out.keep (Below.refl W4.heap.size W4).drew).mark HK.out hxi HD.out hs4 (c:=c)
  have HM5:=zh hm5
  have HT5:=zh (show Blk w5 T 162 #[.int .i64 x,.int .i64 c,.slice va ps.length vc] by
   rw[ho5]
   exact blk_map o5 (Blk.below HT4.out zr.drew HT4.out.lt) (by have:=HM1.out.lo;have:=HZ.out;omega))
  clear hm5 ho5 hfull hs4
  go_wp2_with fail
  apply region_one
  case h =>
   go_region
   all_goals exact⟨rfl,rfl,rfl⟩
  have g0:w5.cell? ⟨T,0,none⟩=some (.int .i64 x):=by simpa using HT5.out.cell 0
  have g3:w5.cell? ⟨b+3,0,none⟩=some (.int .i64 ((j:Int)+1)):=by simpa using HM5.out.n.cell 0
  obtain⟨w6,hst6,hm6,o6,ho6⟩:=HM5.out.line (by omega) x ((j:Int)+1) hxi
  have HM6:=zh hm6
  have HT6:=zh (show Blk w6 T 162 #[.int .i64 x,.int .i64 c,.slice va ps.length vc] by
   rw[ho6]
   exact blk_map o6 HT5.out (by have:=HM1.out.lo;have:=HZ.out;omega))
  have i0:w6.cell? ⟨T,0,none⟩=some (.int .i64 x):=by simpa using HT6.out.cell 0
  have HLIT:=RowIn.lit w6 3 #[.int .i64 x] 1 1 rfl
  have hK2:=HK.out
  have hs6:=HM6.out.lo.2.2.1
  clear hm6 ho6 hst d0 d5 m0 m1 m2
  go_wp2_with (at_builtin;refine wpList_append_at rfl (.tmp 76) (.tmp 79) 42 rfl 3 (.int .i64 0) 1 8 underlying42 infoInt rfl (by decide) rfl (World.ownsRow.alloc HM6.out.row _) rfl HLIT (fun u hu=>by rw[List.mem_singleton.1 hu];rfl) (by omega) (by decide) (by simp;omega) ?_;intro c7 cap7 w7 hO7 hg7 hat7)
  have hO8:OwnN w7 base (.slice c7 (K.length+1) cap7) (K++[x]):=by
   unfold OwnN
   rw[List.length_append,List.length_singleton,← nv_append]
   exact hO7
  have HM7:=zh (HM6.out.push hg7 hO8 hat7)
  have HP7:=zh (HP.out.put HX.out HPY.out.1 HPY.out.2.1 HPY.out.2.2 HA0.out HK.out)
  exact⟨⟨j+1,K++[x],putD D x c ps,by simp,by omega,by simpa using HM7,HP7⟩,by simp[intOf];omega⟩
theorem uload_any (a:ByteArray) (w:World) (hg:GLd w):Calls prog 37 #[.string a] w (LPost a w):=by
 by_cases h:65536<a.size
 · exact uload_long a h w
 · exact uload_fine a (by omega) w hg
end Lo
namespace Sc
open V (Pt Fit PI VI MadeIs makeE mayB topMade_any Same_any sameP)
open We (Co keyM WfT)
open D (Dm Wf)
open Ta (Tm emptyT ownT ownText tabM tabM_own tabM_none)
open Lo (GLd Qd Qt uload_any tload_any)
abbrev Qb (a b:ByteArray) (D:Dm) (T:Tm):Prop:=Qd a D∧Qt b T
theorem tables_any (a b:ByteArray) (w:World) (hg:GLd w) :
 Calls prog 7 #[.agg #[.string a,.string b]] w fun e w'=>(∃ v,e=.returned v∧(TblOk Qb a b w' v∨TblOk Qb a ⟨#[]⟩ w' v∨TblOk Qb ⟨#[]⟩ ⟨#[]⟩ w' v))∧Below w.heap.size w w' :=
 tables_of (fun _ _ hb h=>h.later hb) (load_of (fun _ _ hb h=>h.later hb) (fun a w h=>uload_any a w h) (fun a w h=>tload_any a w h)) a b w hg
theorem tables_some (a b:ByteArray) (w:World) (hg:GLd w) :
 Calls prog 7 #[.agg #[.string a,.string b]] w fun e w'=>(∃ (D:Dm) (T:Tm) (t:Addr),e=.returned (.pointer (some t))∧Wf D∧WfT T∧Tb D T t w')∧Below w.heap.size w w':=by
 refine(tables_any a b w hg).mono ?_
 rintro e w' ⟨⟨v,rfl,h⟩,hb⟩
 refine⟨?_,hb⟩
 rcases h with ⟨D,T,t,rfl,h1,h2,_,h3⟩ | ⟨D,T,t,rfl,h1,h2,_,h3⟩ | ⟨D,T,t,rfl,h1,h2,_,h3⟩<;>exact⟨D,T,t,rfl,h1,h2,h3⟩
def OwnK (K:Co→ByteArray→List UInt8) (la lb lc:List UInt8):Prop :=
 encS K 200 [sNum,sTxt] (own 2 65)=some la∧encS K 200 [sNum,sTxt] (own 2 97)=some lb∧encS K 200 [sNum,sTxt] (own 1 97)=some lc
theorem own_keys {D:Dm} {T:Tm} (hD:D=fun _=>none) (hT:T=ownT∨T=emptyT) :
 OwnK (keyM D T) [34,126,253,22,33,16,0,0,0,65,0,1] [34,126,253,22,33,16,0,0,0,97,0,1] [34,126,254,22,33,16,0,0,0,97,0,1] ∨
 OwnK (keyM D T) [34,126,253,22,33,251,192,128,65,0,0,65,0,1] [34,126,253,22,33,251,192,128,97,0,0,97,0,1] [34,126,254,22,33,251,192,128,97,0,0,97,0,1]:=by
 subst hD
 rcases hT with rfl | rfl
 · exact .inl ⟨ownO0,ownO1,ownO2⟩
 · exact .inr ⟨ownE0,ownE1,ownE2⟩
theorem tables_own (w:World) (hg:GLd w) :
 Calls prog 7 #[.agg #[.string ⟨#[]⟩,.string ownText]] w fun e w'=>(∃ (D:Dm) (T:Tm) (t:Addr),e=.returned (.pointer (some t))∧Wf D∧WfT T∧(D=fun _=>none)∧(T=ownT∨T=emptyT)∧Tb D T t w')∧Below w.heap.size w w':=by
 refine(tables_any _ _ w hg).mono ?_
 rintro e w' ⟨⟨v,rfl,h⟩,hb⟩
 refine⟨?_,hb⟩
 rcases h with ⟨D,T,t,rfl,h1,h2,⟨q1,q2⟩,h3⟩ | ⟨D,T,t,rfl,h1,h2,⟨q1,q2⟩,h3⟩ | ⟨D,T,t,rfl,h1,h2,⟨q1,q2⟩,h3⟩
 · exact⟨D,T,t,rfl,h1,h2,q1 rfl,.inl (q2.trans tabM_own),h3⟩
 · exact⟨D,T,t,rfl,h1,h2,q1 rfl,.inr (q2.trans tabM_none),h3⟩
 · exact⟨D,T,t,rfl,h1,h2,q1 rfl,.inr (q2.trans tabM_none),h3⟩
theorem own_pi {w:World} {g:Nat} {n c:UInt8} (h:Blk w g 57 #[.int .u8 2,.bool false,.bool false,.string ⟨#[n]⟩,.string ⟨#[]⟩,.slice none 0 0,.int .u8 6,.bool false,.bool false,.string ⟨#[]⟩,.string ⟨#[c]⟩,.slice none 0 0]) :
 PI w 0 w.heap.size (own n c).items (.slice (some ⟨g,0,none⟩) 2 2):=by
 refine PI.mk (own n c).items (some ⟨g,0,none⟩) 2 (fun _=>.slice none 0 0) (Nat.le_refl 2) (fun j hj=>⟨g,0,rfl,Nat.zero_le _,h.lt,?_⟩) (fun j hj=>?_) (fun j hj=>?_)
 · match j,hj with
   | 0,_=>exact⟨h.cell 0,h.cell 1,h.cell 2,h.cell 3,h.cell 4,h.cell 5⟩
   | 1,_=>exact⟨h.cell 6,h.cell 7,h.cell 8,h.cell 9,h.cell 10,h.cell 11⟩
 · match j,hj with
   | 0,_=>exact⟨show 2<256 by decide,show 1≤_ by decide,show 0≤_ by decide,show 0≤_ by decide⟩
   | 1,_=>exact⟨show 6<256 by decide,show 0≤_ by decide,show 1≤_ by decide,show 0≤_ by decide⟩
 · match j,hj with
   | 0,_=>exact PI.nil _ _ _
   | 1,_=>exact PI.nil _ _ _
theorem made_own {w:World} {g:Nat} {n c:UInt8} (hm:makeE (own n c)=0) (h:Blk w g 57 #[.int .u8 2,.bool false,.bool false,.string ⟨#[n]⟩,.string ⟨#[]⟩,.slice none 0 0,.int .u8 6,.bool false,.bool false,.string ⟨#[]⟩,.string ⟨#[c]⟩,.slice none 0 0]) :
 Calls prog 12 #[.agg #[.int .u8 7,.bool false,.bool false,.string ⟨#[]⟩,.string ⟨#[]⟩,.slice (some ⟨g,0,none⟩) 2 2]] w fun e w'=>(∃ u,e=.returned (.tuple #[u,.bool true])∧VI w' 0 w'.heap.size (own n c) u)∧Below w.heap.size w w':=by
 refine(topMade_any (own n c) (.slice (some ⟨g,0,none⟩) 2 2) w ⟨by simp[own,Pt.kind],by simp[own,Pt.mag,ByteArray.size],by simp[own,Pt.raw,ByteArray.size],by simp[own,Pt.items]⟩ (own_pi h)).mono ?_
 rintro e w' ⟨u,rfl,_,h2,hb⟩
 rw[hm]
 exact⟨⟨u,rfl,(h2 hm).wide (Nat.zero_le _) lr⟩,hb⟩
open V (Pt Fit PI VI makeE mayB Same_any sameP)
open We (Co keyM WfT keyM_ok)
open Ta (Tm)
open Lo (GLd)
theorem EncPost.out {l:List UInt8} {w w':World} {e:Ending} (h:EncPost (some l) w e w'):e=.returned (.tuple #[.string ⟨l.toArray⟩,.nilIface])∧Below w.heap.size w w':=h
theorem own_lists {K:Co→ByteArray→List UInt8} (h:OwnK K [34,126,253,22,33,16,0,0,0,65,0,1] [34,126,253,22,33,16,0,0,0,97,0,1] [34,126,254,22,33,16,0,0,0,97,0,1] ∨
 OwnK K [34,126,253,22,33,251,192,128,65,0,0,65,0,1] [34,126,253,22,33,251,192,128,97,0,0,97,0,1] [34,126,254,22,33,251,192,128,97,0,0,97,0,1]) :
 ∃ la lb lc,encS K 200 [sNum,sTxt] (own 2 65)=some la∧encS K 200 [sNum,sTxt] (own 2 97)=some lb∧encS K 200 [sNum,sTxt] (own 1 97)=some lc∧Op.bytesLess la lb=true∧Op.bytesLess lb lc=true∧lb.length≤20:=by
 rcases h with ⟨h1,h2,h3⟩ | ⟨h1,h2,h3⟩
 · exact⟨_,_,_,h1,h2,h3,by decide +kernel,by decide +kernel,by decide⟩
 · exact⟨_,_,_,h1,h2,h3,by decide +kernel,by decide +kernel,by decide⟩
theorem packed_any (w:World) (hg:GLd w) (he:GErr w):Calls prog 5 #[] w fun e w'=>e=.returned (.bool true)∧Below w.heap.size w w':=by
 have HT:=zh (tables_own w hg)
 have HE:=zh he
 clear hg he
 go_enter func5,ntmps5
 go_wp2_with fail
 refine HT.out.mono ?_
 rintro e w1 ⟨⟨D,T,t,rfl,wf,wt,hD,hT,htb⟩,hb1⟩
 have HK:=zh (own_keys hD hT)
 have WF:=zh wf
 have WT:=zh wt
 have TB1:=zh htb
 have HB1:=zh hb1
 clear wf wt hD hT htb hb1
 go_wp2_with fail
 refine(topNumber_any 2 (by decide) _).mono ?_
 rintro e w2 ⟨rfl,hb⟩
 have HN0:=zh hb
 clear hb
 go_wp2_with fail
 have HA0:=zh (Blk.new w2 57 #[.int .u8 2,.bool false,.bool false,.string ⟨#[2]⟩,.string ⟨#[]⟩,.slice none 0 0,.int .u8 6,.bool false,.bool false,.string ⟨#[]⟩,.string ⟨#[65]⟩,.slice none 0 0])
 have HG0:=zh ((Below.refl w2.heap.size w2).alloc lr (.cells #[.int .u8 2,.bool false,.bool false,.string ⟨#[2]⟩,.string ⟨#[]⟩,.slice none 0 0,.int .u8 6,.bool false,.bool false,.string ⟨#[]⟩,.string ⟨#[65]⟩,.slice none 0 0] 57))
 refine(topTuple_any (some ⟨w2.heap.size,0,none⟩) 2 2 _).mono ?_
 rintro e w3 ⟨rfl,hb⟩
 have HM0:=zh (made_own (n:=2) (c:=65) (by decide +kernel) (Blk.below HA0.out hb HA0.out.lt))
 have HU0:=zh (HN0.out.trans ((HG0.out.trans (hb.mono HG0.out.size)).mono HN0.out.size))
 clear hb HN0 HA0 HG0
 go_wp2_with fail
 refine HM0.out.mono ?_
 rintro e w4 ⟨⟨x0,rfl,hv⟩,hb⟩
 have HC0:=zh (HU0.out.trans (hb.mono HU0.out.size))
 have HB4:=zh (HB1.out.trans (HC0.out.mono HB1.out.size))
 have TB4:=zh (tb_later TB1.out HC0.out)
 have V0:=zh hv
 clear hv hb HM0 HU0 HC0 HB1 TB1
 go_wp2_with fail
 refine(topNumber_any 2 (by decide) _).mono ?_
 rintro e w5 ⟨rfl,hb⟩
 have HN1:=zh hb
 clear hb
 go_wp2_with fail
 have HA1:=zh (Blk.new w5 57 #[.int .u8 2,.bool false,.bool false,.string ⟨#[2]⟩,.string ⟨#[]⟩,.slice none 0 0,.int .u8 6,.bool false,.bool false,.string ⟨#[]⟩,.string ⟨#[97]⟩,.slice none 0 0])
 have HG1:=zh ((Below.refl w5.heap.size w5).alloc lr (.cells #[.int .u8 2,.bool false,.bool false,.string ⟨#[2]⟩,.string ⟨#[]⟩,.slice none 0 0,.int .u8 6,.bool false,.bool false,.string ⟨#[]⟩,.string ⟨#[97]⟩,.slice none 0 0] 57))
 refine(topTuple_any (some ⟨w5.heap.size,0,none⟩) 2 2 _).mono ?_
 rintro e w6 ⟨rfl,hb⟩
 have HM1:=zh (made_own (n:=2) (c:=97) (by decide +kernel) (Blk.below HA1.out hb HA1.out.lt))
 have HU1:=zh (HN1.out.trans ((HG1.out.trans (hb.mono HG1.out.size)).mono HN1.out.size))
 clear hb HN1 HA1 HG1
 go_wp2_with fail
 refine HM1.out.mono ?_
 rintro e w7 ⟨⟨x1,rfl,hv⟩,hb⟩
 have HC1:=zh (HU1.out.trans (hb.mono HU1.out.size))
 have HB7:=zh (HB4.out.trans (HC1.out.mono HB4.out.size))
 have TB7:=zh (tb_later TB4.out HC1.out)
 have V1:=zh hv
 have V0:=zh (vi_later V0.out HC1.out)
 clear hv hb HM1 HU1 HC1 HB4 TB4
 go_wp2_with fail
 refine(topNumber_any 1 (by decide) _).mono ?_
 rintro e w8 ⟨rfl,hb⟩
 have HN2:=zh hb
 clear hb
 go_wp2_with fail
 have HA2:=zh (Blk.new w8 57 #[.int .u8 2,.bool false,.bool false,.string ⟨#[1]⟩,.string ⟨#[]⟩,.slice none 0 0,.int .u8 6,.bool false,.bool false,.string ⟨#[]⟩,.string ⟨#[97]⟩,.slice none 0 0])
 have HG2:=zh ((Below.refl w8.heap.size w8).alloc lr (.cells #[.int .u8 2,.bool false,.bool false,.string ⟨#[1]⟩,.string ⟨#[]⟩,.slice none 0 0,.int .u8 6,.bool false,.bool false,.string ⟨#[]⟩,.string ⟨#[97]⟩,.slice none 0 0] 57))
 refine(topTuple_any (some ⟨w8.heap.size,0,none⟩) 2 2 _).mono ?_
 rintro e w9 ⟨rfl,hb⟩
 have HM2:=zh (made_own (n:=1) (c:=97) (by decide +kernel) (Blk.below HA2.out hb HA2.out.lt))
 have HU2:=zh (HN2.out.trans ((HG2.out.trans (hb.mono HG2.out.size)).mono HN2.out.size))
 clear hb HN2 HA2 HG2
 go_wp2_with fail
 refine HM2.out.mono ?_
 rintro e w10 ⟨⟨x2,rfl,hv⟩,hb⟩
 have HC2:=zh (HU2.out.trans (hb.mono HU2.out.size))
 have HB10:=zh (HB7.out.trans (HC2.out.mono HB7.out.size))
 have TB10:=zh (tb_later TB7.out HC2.out)
 have V2:=zh hv
 have V0:=zh (vi_later V0.out HC2.out)
 have V1:=zh (vi_later V1.out HC2.out)
 clear hv hb HM2 HU2 HC2 HB7 TB7
 have GE:=zh (HE.out.later HB10.out)
 obtain⟨la,lb,lc,hk0,hk1,hk2,hab,hbc,hbs⟩:=own_lists HK.out
 have K0:=zh hk0
 have K1:=zh hk1
 have K2:=zh hk2
 have KB:=zh hbs
 clear hk0 hk1 hk2 hbs HE HK
 go_wp2_with fail
 refine(topSmall_any _).mono ?_
 rintro e w11 ⟨b0,hlt,rfl,hfi,hb⟩
 have HC0:=zh hb
 have HF0:=zh (Encode_any WF.out WT.out t 200 [sNum,sTxt] (own 2 65) x0 (some ⟨b0,0,none⟩) 2 w11 (by decide) (by decide +kernel) (tb_later TB10.out hb) (vi_later V0.out hb) hfi)
 clear hlt hfi hb
 go_wp2_with fail
 refine HF0.out.mono ?_
 intro e w12 hE
 rw[K0.out] at hE
 obtain⟨rfl,hb⟩:=hE.out
 have HD0:=zh (HC0.out.trans (hb.mono HC0.out.size))
 have HB12:=zh (HB10.out.trans (HD0.out.mono HB10.out.size))
 have TB12:=zh (tb_later TB10.out HD0.out)
 have GE:=zh (GE.out.later HD0.out)
 have V0:=zh (vi_later V0.out HD0.out)
 have V1:=zh (vi_later V1.out HD0.out)
 have V2:=zh (vi_later V2.out HD0.out)
 clear hb hE HC0 HF0 HD0 HB10 TB10
 go_wp2_with fail
 refine(topSmall_any _).mono ?_
 rintro e w13 ⟨b1,hlt,rfl,hfi,hb⟩
 have HC1:=zh hb
 have HF1:=zh (Encode_any WF.out WT.out t 200 [sNum,sTxt] (own 2 97) x1 (some ⟨b1,0,none⟩) 2 w13 (by decide) (by decide +kernel) (tb_later TB12.out hb) (vi_later V1.out hb) hfi)
 clear hlt hfi hb
 go_wp2_with fail
 refine HF1.out.mono ?_
 intro e w14 hE
 rw[K1.out] at hE
 obtain⟨rfl,hb⟩:=hE.out
 have HD1:=zh (HC1.out.trans (hb.mono HC1.out.size))
 have HB14:=zh (HB12.out.trans (HD1.out.mono HB12.out.size))
 have TB14:=zh (tb_later TB12.out HD1.out)
 have GE:=zh (GE.out.later HD1.out)
 have V0:=zh (vi_later V0.out HD1.out)
 have V1:=zh (vi_later V1.out HD1.out)
 have V2:=zh (vi_later V2.out HD1.out)
 clear hb hE HC1 HF1 HD1 HB12 TB12
 go_wp2_with fail
 refine(topSmall_any _).mono ?_
 rintro e w15 ⟨b2,hlt,rfl,hfi,hb⟩
 have HC2:=zh hb
 have HF2:=zh (Encode_any WF.out WT.out t 200 [sNum,sTxt] (own 1 97) x2 (some ⟨b2,0,none⟩) 2 w15 (by decide) (by decide +kernel) (tb_later TB14.out hb) (vi_later V2.out hb) hfi)
 clear hlt hfi hb
 go_wp2_with fail
 refine HF2.out.mono ?_
 intro e w16 hE
 rw[K2.out] at hE
 obtain⟨rfl,hb⟩:=hE.out
 have HD2:=zh (HC2.out.trans (hb.mono HC2.out.size))
 have HB16:=zh (HB14.out.trans (HD2.out.mono HB14.out.size))
 have TB16:=zh (tb_later TB14.out HD2.out)
 have GE:=zh (GE.out.later HD2.out)
 have V0:=zh (vi_later V0.out HD2.out)
 have V1:=zh (vi_later V1.out HD2.out)
 have V2:=zh (vi_later V2.out HD2.out)
 clear hb hE HC2 HF2 HD2 HB14 TB14
 go_wp2_with fail
 refine(topSmall_any _).mono ?_
 rintro e w17 ⟨b3,hlt,rfl,hfi,hb⟩
 have HC:=zh hb
 have HF:=zh (Decode_any WF.out WT.out t 200 [sNum,sTxt] (some ⟨b3,0,none⟩) 2 ⟨lb.toArray⟩ w17 (by decide) (by have:=KB.out;rw[size_mk];omega) (tb_later TB16.out hb) (GE.out.later hb) hfi)
 clear hlt hfi hb
 go_wp2_with fail
 refine HF.out.mono ?_
 intro e w18 hE
 rw[toList_mk,encS_dec (keyM_ok WT.out D) (by decide +kernel) K1.out] at hE
 obtain⟨⟨y,rfl,hy⟩,hb⟩:=hE
 have HD:=zh (HC.out.trans (hb.mono HC.out.size))
 have HB18:=zh (HB16.out.trans (HD.out.mono HB16.out.size))
 have HS:=zh (Same_any (own 2 97) (own 2 97) y x1 w18 (by decide +kernel) (by decide +kernel) (hy.wide (Nat.zero_le _) lr) (vi_later V1.out HD.out))
 clear hb hy HC HF HD HB16 TB16
 go_wp2_with fail
 refine HS.out.mono ?_
 rintro e w19 ⟨rfl,hb⟩
 rw[show sameP (own 2 97) (own 2 97)=true by decide +kernel]
 have HB19:=zh (HB18.out.trans (hb.mono HB18.out.size))
 clear hb HS HB18
 go_wp2_with fail
 go_ret
 exact⟨rfl,HB19.out⟩
open V (Pt Fit PI VI makeE mayB)
theorem bytes_back (s:ByteArray):(⟨s.toList.toArray⟩:ByteArray)=s:=by
 rw[Lib.toList_data]
theorem enc_fit {K:Co→ByteArray→List UInt8} {lim:Int} {F:List Fd} {p:Pt} {l:List UInt8} (h:encS K lim F p=some l):(okS lim F&&fitS F p)=true:=by
 unfold encS at h
 split at h
 · next h1=>exact(Bool.and_eq_true_iff.1 h1).1
 · cases h
theorem topBytes_any (x y:ByteArray) (lim:Int) (F:List Fd) (a0:Option Addr) (k0:Nat) (key:ByteArray) (w:World) (hl:F.length≤140737488351232) (hg:GLd w) (he:GErr w) (hfi:FI w 0 w.heap.size F (.slice a0 F.length k0)) :
 Calls prog 3 #[.agg #[.string x,.string y,.int .i64 lim,.slice a0 F.length k0],.string key] w fun e w'=>e=.returned (.bool true)∧Below w.heap.size w w':=by
 obtain⟨m,hm⟩:∃ m,F.length=m:=⟨_,rfl⟩
 have HB0:=zh ((Below.refl w.heap.size w).alloc lr (.cells #[.string x,.string y,.int .i64 lim,.slice a0 F.length k0] 28))
 have HX0:=zh (Blk.new w 28 #[.string x,.string y,.int .i64 lim,.slice a0 F.length k0])
 have HP:=zh (packed_any _ (hg.later HB0.out) (he.later HB0.out))
 have HG:=zh hg
 have HE:=zh he
 have HF:=zh hfi
 have HL:=zh hl
 rw[hm] at HB0 HX0 HP HF ⊢
 have HM:=zh hm
 clear hg he hfi hl hm
 go_enter func3,ntmps3
 go_wp2_with fail
 refine HP.out.mono ?_
 rintro e w1 ⟨rfl,hb⟩
 have HB1:=zh (HB0.out.trans (hb.mono HB0.out.size))
 have HX1:=zh (Blk.below HX0.out hb HX0.out.lt)
 clear hb HP HB0 HX0
 have c2:w1.cell? ⟨w.heap.size,2,none⟩=some (.int .i64 lim):=by simpa using HX1.out.cell 2
 have c3:w1.cell? ⟨w.heap.size,3,none⟩=some (.slice a0 m k0):=by simpa using HX1.out.cell 3
 have hin:=HX1.out.lt
 go_wp2_with fail
 have HS1:=zh (Blk.new w1 26 #[.int .i64 lim,.slice a0 m k0])
 have hal:=(Below.refl w1.heap.size w1).alloc lr (.cells #[.int .i64 lim,.slice a0 m k0] 26)
 have HB2:=zh (HB1.out.trans (hal.mono HB1.out.size))
 have HX2:=zh (Blk.below HX1.out hal HX1.out.lt)
 have HBR:=zh (broad_any lim F a0 k0 _ HL.out (by rw[HM.out];exact fi_later HF.out HB2.out))
 rw[HM.out] at HBR
 clear hal c2 c3 hin HX1 HB1
 refine HBR.out.mono ?_
 rintro e w2 ⟨⟨br,rfl⟩,hb⟩
 have HB3:=zh (HB2.out.trans (hb.mono HB2.out.size))
 have HX3:=zh (Blk.below HX2.out hb HX2.out.lt)
 have HS3:=zh (Blk.below HS1.out hb HS1.out.lt)
 obtain⟨s,hs⟩:∃ s,w1.heap.size=s:=⟨_,rfl⟩
 rw[hs] at HS3 ⊢
 clear hb HB2 HX2 HS1 HBR hs
 cases br with
 | true =>
  go_wp2_with fail
  go_ret
  exact⟨rfl,HB3.out⟩
 | false =>
 by_cases hk:4194304<key.size
 · have q1:decide ((4194304:Int)<(key.size:Int))=true:=by simp;omega
   clear hk
   go_wp2_with fail
   go_ret
   exact⟨rfl,HB3.out⟩
 have q1:decide ((4194304:Int)<(key.size:Int))=false:=by simp;omega
 have HK:=zh (show key.size≤4194304 by omega)
 clear hk
 have c0:w2.cell? ⟨w.heap.size,0,none⟩=some (.string x):=by simpa using HX3.out.cell 0
 have c1:w2.cell? ⟨w.heap.size,1,none⟩=some (.string y):=by simpa using HX3.out.cell 1
 go_wp2_with fail
 refine(tables_some x y w2 (HG.out.later HB3.out)).mono ?_
 rintro e w3 ⟨⟨D,T,t,rfl,wf,wt,htb⟩,hb⟩
 have HB4:=zh (HB3.out.trans (hb.mono HB3.out.size))
 have HS4:=zh (Blk.below HS3.out hb HS3.out.lt)
 have WF:=zh wf
 have WT:=zh wt
 have TB:=zh htb
 have HD:=zh (Decode_any wf wt t lim F a0 k0 key w3 HL.out (by have:=HK.out;omega) htb (HE.out.later HB4.out) (by rw[HM.out];exact fi_later HF.out HB4.out))
 rw[HM.out] at HD
 clear hb c0 c1 wf wt htb HB3 HX3 HS3
 have d0:w3.cell? ⟨s,0,none⟩=some (.int .i64 lim):=by simpa using HS4.out.cell 0
 have d1:w3.cell? ⟨s,1,none⟩=some (.slice a0 m k0):=by simpa using HS4.out.cell 1
 go_wp2_with fail
 refine HD.out.mono ?_
 intro e w4 hd
 cases hR:decS (keyM D T) lim F key.toList with
 | none =>
  rw[hR] at hd
  obtain⟨⟨fb,c,at_,pv,why,_,rfl,hB,h0,h1⟩,hb⟩:=hd
  have HB5:=zh (HB4.out.trans (hb.mono HB4.out.size))
  have e0:w4.cell? ⟨fb,1,none⟩=some (.int .i64 at_):=by simpa using hB.cell 1
  have q2:decide ((0:Int)≤at_)=true:=decide_eq_true h0
  have q3:decide (at_≤(key.size:Int))=true:=decide_eq_true h1
  have hta:∀ (v:Value) (w:World),(Instr.typeAssert (.iface 39 v) 36 39 true).run prog w=.ok (.tuple #[v,.bool true]) w:=fun _ _=>by kernel_rfl
  clear hb hB h0 h1 hR HD HB4 HS4 d0 d1
  go_wp2_with fail
  go_ret
  exact⟨rfl,HB5.out⟩
 | some p =>
  rw[hR] at hd
  obtain⟨⟨u,rfl,hu⟩,hb⟩:=hd
  obtain⟨henc,hmay,_⟩:=decS_enc hR
  have HB5:=zh (HB4.out.trans (hb.mono HB4.out.size))
  have HS5:=zh (Blk.below HS4.out hb HS4.out.lt)
  have HU:=zh (hu.wide (Nat.zero_le _) lr)
  have HMY:=zh hmay
  have HEN:=zh henc
  have HEC:=zh (Encode_any WF.out WT.out t lim F p u a0 k0 w4 HL.out hmay (tb_later TB.out hb) (hu.wide (Nat.zero_le _) lr) (by rw[HM.out];exact fi_later HF.out HB5.out))
  rw[HM.out] at HEC
  have d2:w4.cell? ⟨s,0,none⟩=some (.int .i64 lim):=by simpa using HS5.out.cell 0
  have d3:w4.cell? ⟨s,1,none⟩=some (.slice a0 m k0):=by simpa using HS5.out.cell 1
  clear hb hu henc hmay hR HD HB4 HS4 d0 d1
  go_wp2_with fail
  refine HEC.out.mono ?_
  intro e w5 hE
  rw[HEN.out] at hE
  obtain⟨rfl,hb⟩:=hE.out
  rw[bytes_back]
  have HB6:=zh (HB5.out.trans (hb.mono HB5.out.size))
  have HS6:=zh (Blk.below HS5.out hb HS5.out.lt)
  have HFC:=zh (fitCheck_any lim F a0 k0 p u w5 HL.out HMY.out (vi_later HU.out hb) (by rw[HM.out];exact fi_later HF.out HB6.out))
  rw[HM.out,enc_fit HEN.out] at HFC
  have d4:w5.cell? ⟨s,0,none⟩=some (.int .i64 lim):=by simpa using HS6.out.cell 0
  have d5:w5.cell? ⟨s,1,none⟩=some (.slice a0 m k0):=by simpa using HS6.out.cell 1
  clear hb hE HEC HB5 HS5 d2 d3
  go_wp2_with fail
  refine HFC.out.mono ?_
  intro e w6 hE
  obtain⟨rfl,hb⟩:=hE.yes
  have HB7:=zh (HB6.out.trans (hb.mono HB6.out.size))
  clear hb hE HFC HB6 HS6 d4 d5
  go_wp2_with fail
  go_ret
  exact⟨rfl,HB7.out⟩
