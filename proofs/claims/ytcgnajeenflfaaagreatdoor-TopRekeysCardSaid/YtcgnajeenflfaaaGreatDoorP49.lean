import Derived.Test.YtcgnajeenflfaaaGreatDoorP46
set_option maxRecDepth 100000
set_option maxHeartbeats 4000000
set_option linter.all false
open Go.Proofs.Tryz Go.RowKit
namespace Go.Proofs.YtcgnajeenflfaaaGreatDoor
namespace Lo
open Go.Maps Go.ChangeMaps
open D (aF dU Dm Wf Wp partsOf bF)
open Ta (bL gI bI aY)
open Sc (pJ aHz aAd aCr)
def Qd (a:ByteArray) (D:Dm):Prop:=a.size=0→D=fun _=>none
theorem aDi {P:Program} {c:Code} {Q:Exit→Act→World→Prop} {a:Act} {w:World} {A:Act} {W:World} (h:c.wp P (fun e a' w'=>e=.normal∧a'=A∧w'=W) a w) (hk:Q .normal A W):c.wp P Q a w :=
 wp_mono h fun e a' w' ⟨h1,h2,h3⟩=>by subst h1 h2 h3;exact hk
abbrev aLw (a:ByteArray) (w:World):Ending→World→Prop:=pJ (aHz Qd) a w
theorem aIf (a:ByteArray) (w:World) (tmps:Array Value) {w1:World} {v:Value} {g:Nat} (h2:tmps.getD 2 undef=.pointer (some ⟨g,0,none⟩)) (h3:tmps.getD 3 undef=.pointer (some ⟨g+1,0,none⟩)) (h4:tmps.getD 4 undef=.pointer (some ⟨g+2,0,none⟩))
 (hb0:aC w1 g 100 #[v]) (hb1:aC w1 (g+1) 41 #[.int .i64 0]) (hb2:aC w1 (g+2) 3 #[.int .i64 0]) (hp:aHz Qd a w1 v) (hB:Below w.heap.size w w1) (p q r s:Addr) :
 Leaves prog Tryz.f37 tmps (aLw a w) [{ target:=.fn (.func 58) #[.pointer (some p),.pointer (some q),.pointer (some r),.pointer (some s)],args:=#[] }] .returning w1:=by
 have d0:=hb0.cell 0;have d1:=hb1.cell 0;have d2:=hb2.cell 0;simp at d0 d1 d2;refine leaves_cons (f:=58) (args:=#[.pointer (some p),.pointer (some q),.pointer (some r),.pointer (some s)]) (by simp) (by simp[go_sem]) ?_;refine(aAd _ _ _ _ w1).mono ?_;rintro e u' w2 ⟨rfl,rfl,rfl⟩;refine⟨.tuple #[v,.int .i64 0,.int .i64 0],?_,⟨v,0,0,rfl,fun _=>hp,fun _=>rfl,hB⟩⟩;simp only [Array.getD_eq_getD_getElem?] at h2 h3 h4;simp[results,Tryz.results37,go_sem,h2,h3,h4,d0,d1,d2]
theorem lC (a:ByteArray) (w:World) (tmps:Array Value) {w1:World} {v er ln:Value} {g:Nat} {n c:Int} (h2:tmps.getD 2 undef=.pointer (some ⟨g,0,none⟩)) (h3:tmps.getD 3 undef=.pointer (some ⟨g+1,0,none⟩)) (h4:tmps.getD 4 undef=.pointer (some ⟨g+2,0,none⟩))
 (hb0:aC w1 g 100 #[v]) (hb1:aC w1 (g+1) 41 #[er]) (hb2:aC w1 (g+2) 3 #[ln]) (hb3:aC w1 (g+3) 3 #[.int .i64 n]) (hg:w.heap.size≤g) (hc:c≠0) (ha:a.size≠0) (hB:Below w.heap.size w w1) :
 Leaves prog Tryz.f37 tmps (aLw a w) [{ target:=.fn (.func 58) #[.pointer (some ⟨g+3,0,none⟩),.pointer (some ⟨g,0,none⟩),.pointer (some ⟨g+1,0,none⟩),.pointer (some ⟨g+2,0,none⟩)],args:=#[] }] (.panicking [{ v:=.iface 153 (.agg #[.int .i64 c]),recovered:=false }]) w1:=by
 refine leaves_cons (f:=58) (args:=#[.pointer (some ⟨g+3,0,none⟩),.pointer (some ⟨g,0,none⟩),.pointer (some ⟨g+1,0,none⟩),.pointer (some ⟨g+2,0,none⟩)]) (by simp) (by simp[go_sem]) ?_;refine(aCr (g+3) g (g+1) (g+2) c n v er ln w1 hb3 hb0 hb1 hb2 (by omega) (by omega) (by omega)).mono ?_;rintro e u' w2 ⟨rfl,rfl,⟨e0,e1,e2⟩,hx⟩;have d0:=e0.cell 0;have d1:=e1.cell 0;have d2:=e2.cell 0;simp at d0 d1 d2;refine⟨.tuple #[.pointer none,.int .i64 c,.int .i64 n],?_,⟨.pointer none,c,n,rfl,fun h=>absurd h hc,fun h=>absurd h ha,hB.trans (hx.below (fun k hk e=>by omega) (by have:=hB.size;omega))⟩⟩;simp only [Array.getD_eq_getD_getElem?] at h2 h3 h4;simp[results,Tryz.results37,go_sem,h2,h3,h4,d0,d1,d2]
theorem aQb (a:ByteArray) (ha:65536<a.size) (w:World):Calls prog 37 #[.string a] w (aLw a w):=by
 have q1:decide ((65536:Int)<(a.size:Int))=true:=decide_eq_true (by omega);have HA:=zh ha;clear ha;go_enter_defers func37,ntmps37
 go_wp2_with fail;have hb:Below w.heap.size w (((w.alloc (.cells #[.pointer none] 100)).alloc (.cells #[.int .i64 2] 41)).alloc (.cells #[.int .i64 0] 3)):=((zr.alloc lr _).alloc (by simp) _).alloc (by simp;omega) _;refine⟨.tuple #[.pointer none,.int .i64 2,.int .i64 0],?_,⟨.pointer none,2,0,rfl,fun h=>absurd h (by decide),fun h=>absurd h (by have:=HA.out;omega),hb⟩⟩;simp[results,Tryz.f37,Tryz.results37,go_sem]
theorem bIo (w:World) (b:Nat) (hb:w.heap.size=b) (W0:World) (hW:(((((((w.alloc (.cells #[.pointer (some ⟨b+5,0,none⟩)] 100)).alloc (.cells #[.int .i64 0] 41)).alloc (.cells #[.int .i64 0] 3)).alloc (.cells #[.int .i64 0] 3)).alloc (.map #[] 0)).alloc (.cells #[.map (some (b+4))] 157)).alloc (.map #[] 0))=W0)
 (ST:Array Value) (w1:World) (hw1:Below W0.heap.size W0 w1) (hS:aC w1 (b+7) 9 ST):uT b w1.heap.size (b+7) ST w (fun _=>none) [] 0 0 (.slice none 0 0) 0 w1∧W0.heap.size=b+7∧Below w.heap.size w w1:=by
 have al:∀ {A:World} {k:Nat} {t:TypeId} {cs:Array Value} (o:Obj),aC A k t cs→aC (A.alloc o) k t cs:=fun o h=>aC.below h (zr.alloc lr o) h.lt
 have am:∀ {A:World} {k:Nat} {f:Int→Option Value} {n:Nat} (o:Obj),bQ prog 3 (Value.int .i64) A k f n→bQ prog 3 (Value.int .i64) (A.alloc o) k f n:=fun o h=>h.keep (zr.alloc lr o)
 have ab:∀ {A:World} (o:Obj),b≤A.heap.size→Below b w A→Below b w (A.alloc o)∧b≤(A.alloc o).heap.size:=fun o h1 h2=>⟨h2.alloc h1 o,by simp;omega⟩
 obtain⟨A1,h1⟩:∃ A1,w.alloc (.cells #[.pointer (some ⟨b+5,0,none⟩)] 100)=A1:=⟨_,rfl⟩
 rw[h1] at hW;have z1:A1.heap.size=b+1:=by rw[← h1];simp[hb]
 have b1:aC A1 b 100 #[.pointer (some ⟨b+5,0,none⟩)]:=by rw[← h1,← hb];exact aC.new _ _ _
 have l1:Below b w A1:=by rw[← h1,← hb];exact zr.alloc lr _
 obtain⟨A2,h2⟩:∃ A2,A1.alloc (.cells #[.int .i64 0] 41)=A2:=⟨_,rfl⟩
 rw[h2] at hW;have z2:A2.heap.size=b+2:=by rw[← h2];simp[z1]
 have b2:aC A2 (b+1) 41 #[.int .i64 0]:=by rw[← h2,← z1];exact aC.new _ _ _
 have l2:Below b w A2:=by rw[← h2];exact l1.alloc (by omega) _
 obtain⟨A3,h3⟩:∃ A3,A2.alloc (.cells #[.int .i64 0] 3)=A3:=⟨_,rfl⟩
 rw[h3] at hW;have z3:A3.heap.size=b+3:=by rw[← h3];simp[z2]
 have b3:aC A3 (b+2) 3 #[.int .i64 0]:=by rw[← h3,← z2];exact aC.new _ _ _
 have l3:Below b w A3:=by rw[← h3];exact l2.alloc (by omega) _
 obtain⟨A4,h4⟩:∃ A4,A3.alloc (.cells #[.int .i64 0] 3)=A4:=⟨_,rfl⟩
 rw[h4] at hW;have z4:A4.heap.size=b+4:=by rw[← h4];simp[z3]
 have b4:aC A4 (b+3) 3 #[.int .i64 0]:=by rw[← h4,← z3];exact aC.new _ _ _
 have l4:Below b w A4:=by rw[← h4];exact l3.alloc (by omega) _
 obtain⟨A5,h5⟩:∃ A5,A4.alloc (.map #[] 0)=A5:=⟨_,rfl⟩
 rw[h5] at hW;have z5:A5.heap.size=b+5:=by rw[← h5];simp[z4]
 have b5:bQ prog 3 (Value.int .i64) A5 (b+4) (fun _=>none) 0:=by rw[← h5,← z4];exact bQ.made ..
 have l5:Below b w A5:=by rw[← h5];exact l4.alloc (by omega) _
 obtain⟨A6,h6⟩:∃ A6,A5.alloc (.cells #[.map (some (b+4))] 157)=A6:=⟨_,rfl⟩
 rw[h6] at hW;have z6:A6.heap.size=b+6:=by rw[← h6];simp[z5]
 have b6:aC A6 (b+5) 157 #[.map (some (b+4))]:=by rw[← h6,← z5];exact aC.new _ _ _
 have l6:Below b w A6:=by rw[← h6];exact l5.alloc (by omega) _
 have z7:W0.heap.size=b+7:=by rw[← hW];simp[z6]
 have b7:bQ prog 3 (Value.int .i64) W0 (b+6) (fun _=>none) 0:=by rw[← hW,← z6];exact bQ.made ..
 have l7:Below b w W0:=by rw[← hW];exact l6.alloc (by omega) _
 have f1:aC W0 b 100 #[.pointer (some ⟨b+5,0,none⟩)]:=by rw[← hW,← h6,← h5,← h4,← h3,← h2];exact al _ (al _ (al _ (al _ (al _ (al _ b1)))))
 have f2:aC W0 (b+1) 41 #[.int .i64 0]:=by rw[← hW,← h6,← h5,← h4,← h3];exact al _ (al _ (al _ (al _ (al _ b2))))
 have f3:aC W0 (b+2) 3 #[.int .i64 0]:=by rw[← hW,← h6,← h5,← h4];exact al _ (al _ (al _ (al _ b3)))
 have f4:aC W0 (b+3) 3 #[.int .i64 0]:=by rw[← hW,← h6,← h5];exact al _ (al _ (al _ b4))
 have f5:bQ prog 3 (Value.int .i64) W0 (b+4) (fun _=>none) 0:=by rw[← hW,← h6];exact am _ (am _ b5)
 have f6:aC W0 (b+5) 157 #[.map (some (b+4))]:=by rw[← hW];exact al _ b6
 have hlow:Below b w w1:=l7.trans (hw1.mono (by omega));refine⟨?_,z7,by rw[hb];exact hlow⟩;exact {
  d:=aC.below f1 hw1 f1.lt
  e:=aC.below f2 hw1 f2.lt
  l:=aC.below f3 hw1 f3.lt
  n:=aC.below f4 hw1 f4.lt
  box:=aC.below f6 hw1 f6.lt
  marks:=⟨_,f5.keep hw1,fun _ _=>rfl,fun x c l h=>by cases h⟩
  lines:=⟨_,_,b7.keep hw1,Nat.le_refl _,fun x u h=>by cases h⟩
  row:=aJ.nil _ _
  strs:=hS
  low:=hlow
  lo:=⟨by omega,hS.lt,Nat.le_refl _,hb.symm⟩ }
theorem bIp {b base S:Nat} {ST:Array Value} {w0 wr:World} {D:Dm} {K:List Int} {m kb:Nat} {ov:Value} {at_:Int} (h:uT b base S ST w0 D K m kb ov at_ wr) (hm:m≤4096) :
 let F:=((wr.setCell ⟨b,0,none⟩ (.pointer (some ⟨b+5,0,none⟩))).setCell ⟨b+1,0,none⟩ (.int .i64 0)).setCell ⟨b+2,0,none⟩ (.int .i64 0)
 aC F b 100 #[.pointer (some ⟨b+5,0,none⟩)]∧aC F (b+1) 41 #[.int .i64 0]∧aC F (b+2) 3 #[.int .i64 0]∧bF F 0 F.heap.size (.pointer (some ⟨b+5,0,none⟩)) D∧Below b w0 F:=by
 intro F;have bo:=@Sc.bC;refine⟨bo (bo (by simpa using h.d.aU 0 (.pointer (some ⟨b+5,0,none⟩))) (by omega) 0 _) (by omega) 0 _,bo (by simpa using (bo h.e (by omega) 0 _).aU 0 (.int .i64 0)) (by omega) 0 _,by simpa using (bo (bo h.l (by omega) 0 _) (by omega) 0 _).aU 0 (.int .i64 0),?_,
  ((h.low.setCell (p:=⟨b,0,none⟩) lr _).setCell (p:=⟨b+1,0,none⟩) (Nat.le_succ _) _).setCell (p:=⟨b+2,0,none⟩) (by show b≤b+2;omega) _⟩
 exact(data_set (data_set (data_set (h.data hm) (by omega)) (by omega)) (by omega)).wide (Nat.zero_le _) (by show wr.heap.size≤F.heap.size;simp[F])
theorem aQc (a:ByteArray) (ha:a.size≤65536) (w:World) (hg:GLd w):Calls prog 37 #[.string a] w (aLw a w):=by
 have q1:decide ((65536:Int)<(a.size:Int))=false:=decide_eq_false (by omega);have hmk:∀ w:World,(Instr.makeMap 155 none).run prog w=.ok (.map (some w.heap.size)) (w.alloc (.map #[] 0)):=fun _=>rfl
 have bUy:∀ w:World,(Instr.makeMap 158 none).run prog w=.ok (.map (some w.heap.size)) (w.alloc (.map #[] 0)):=fun _=>rfl
 have hmf:∀ (fn:Fn) (first cap:Array Value) (w:World),(Instr.makeFunc fn first cap).run prog w=.ok (.func fn first cap) w:=fun _ _ _ _=>rfl
 have HG:=zh hg;have HA:=zh ha;clear ha hg;go_enter_defers func37,ntmps37
 go_wp2_with fail;obtain⟨b,hb⟩:∃ b,w.heap.size=b:=⟨_,rfl⟩
 simp only [hb,Nat.add_assoc,Nat.reduceAdd];obtain⟨W0,hW⟩:∃ W0,(((((((w.alloc (.cells #[.pointer (some ⟨b+5,0,none⟩)] 100)).alloc (.cells #[.int .i64 0] 41)).alloc (.cells #[.int .i64 0] 3)).alloc (.cells #[.int .i64 0] 3)).alloc (.map #[] 0)).alloc (.cells #[.map (some (b+4))] 157)).alloc (.map #[] 0))=W0:=⟨_,rfl⟩
 rw[hW];refine(pI 10 a (by have:=HA.out;omega) W0 (HG.out.later (by rw[← hW];exact(((((((zr.alloc lr _).alloc (by simp) _).alloc (by simp;omega) _).alloc (by simp;omega) _).alloc (by simp;omega) _).alloc (by simp;omega) _).alloc (by simp;omega) _)))).mono ?_;rintro e w1 ⟨rfl,hS,hb1⟩;have hz7:W0.heap.size=b+7:=by rw[← hW];simp[hb]
 rw[hz7] at hS ⊢;obtain⟨hU,-,hB1⟩:=bIo w b hb W0 hW _ w1 hb1 hS;obtain⟨base,hbase⟩:∃ base,w1.heap.size=base:=⟨_,rfl⟩
 rw[hbase] at hU;have HSm:=zh (bI 10 a);have HSl:=zh (gI 10 a);have HSz:=zh (show a.size=0→∀ q∈bL 10 a,q.size=0 from fun h q hq=>by have:=bI 10 a q hq;omega);obtain⟨ls,hls⟩:∃ ls,bL 10 a=ls:=⟨_,rfl⟩
 obtain⟨n,hn⟩:∃ n,ls.length=n:=⟨_,rfl⟩
 rw[hls] at HSm HSl HSz hU hS ⊢;rw[hn] at HSl ⊢;have hnl:n≤65537:=by have:=HSl.out;have:=HA.out;omega
 have HN:=zh hn;have HU:=zh hU;have vX:=zh (show b=w.heap.size from hb.symm);clear hU hS hls hn hW hz7 hb1 hB1 hb;go_wp2_with fail;go_loopw [7,29] (fun ov iv wr=>∃ (j:Nat) (K:List Int) (D:Dm),iv=.int .i64 j∧j≤n∧RowKit.Hid (uT b base (b+7) (ls.map Value.string).toArray w D K K.length j ov j wr)∧RowKit.Hid (UPl a D K)) (fun _ i _=>n-(intOf i).toNat)
 case atStart=>exact⟨0,[],fun _=>none,rfl,Nat.zero_le _,HU,zh (UPl.empty a)⟩
 case round =>
  obtain⟨j,K,D,rfl,hj,HM,HP⟩:=hrel;obtain⟨oa,oc,rfl⟩:=aP HM.out.row;have HLO:=zh HM.out.lo;by_cases hlt:j<n
  case neg =>
   have hnj:n=j:=by omega
   subst hnj;have HKI:=zh (fun x (hx:x∈K)=>qQ (HP.out.pts x hx));have hcap:=HP.out.cap;clear hj hlt;go_wp2_with fail;go_loopw [84] (fun iv wr2=>∃ (i:Nat),iv=.int .i64 i∧i≤K.length∧RowKit.Hid (uT b base (b+7) (ls.map Value.string).toArray w D K K.length n (.slice oa K.length oc) n wr2)∧RowKit.Hid (∀ x∈K.take i,¬ YtcgnajeenflfaaaGreatDoor.D.rM D x x)) (fun i _=>K.length-(intOf i).toNat)
   case atStart=>exact⟨0,rfl,Nat.zero_le _,HM,zh (fun x h=>by cases h)⟩
   case round =>
    obtain⟨i,rfl,hi,pY,HL⟩:=hrel;obtain⟨_,_,he1,hcp,hcell⟩:=YtcgnajeenflfaaaGreatDoor.D.IntsIn.get pY.out.row.reads;injection he1 with he2 he3 he4
    subst he2 he4;have HC:=zh hcell;clear hcell;by_cases hlt:i<K.length
    · obtain⟨g,off,rfl,_,hg,hc⟩:=HC.out i hlt;obtain⟨x,hx⟩:∃ x,K[i]=x:=⟨_,rfl⟩
      rw[hx] at hc;have hxK:x∈K:=hx▸List.getElem_mem hlt;have hxb:=HKI.out x hxK;have hxi:aF x:=by unfold aF;omega
      have c0:wr.cell? ⟨b,0,none⟩=some (.pointer (some ⟨b+5,0,none⟩)):=by simpa using pY.out.d.cell 0
      have HLD:=zh (YtcgnajeenflfaaaGreatDoor.D.aSi HP.out.wp K HP.out.key HP.out.few HP.out.cap (.pointer (some ⟨b+5,0,none⟩)) x wr hxi ((pY.out.data HP.out.cap).wide (Nat.zero_le _) lr));have HXX:=zh (And.intro hx hxb);clear hx hxb;go_wp2_with fail;refine HLD.out.mono ?_;rintro e w2 ⟨⟨bo,rfl,hbo⟩,hb2⟩;have pK:=zh (pY.out.keep hb2);have HBO:=zh hbo;clear hb2 hbo;cases bo with
      | true =>
       obtain⟨ln,hln⟩:=pK.out.bAy x hxi;have c3:w2.cell? ⟨b+3,0,none⟩=some (.int .i64 (n:Int)):=by simpa using pK.out.n.cell 0
       have z3:=pK.out.n.frozen 0;have HA0:=zh (show a.size≠0 from fun e=>by
        have h1:=(HP.out.nil e).2;rw[h1] at hxK;cases hxK)
       have rA:=zh (pK.out.tick ln);go_wp2_with fail;exact lC a w _ rfl rfl rfl rA.out.d rA.out.e rA.out.l rA.out.n (Nat.le_of_eq vX.out.symm) (by decide) HA0.out (by rw[← vX.out];exact rA.out.low)
      | false =>
       have HL2:=zh (show ∀ y∈K.take (i+1),¬ YtcgnajeenflfaaaGreatDoor.D.rM D y y from fun y hy=>by
        rw[List.take_add_one,List.getElem?_eq_getElem hlt,Option.toList_some,HXX.out.1] at hy;rcases List.mem_append.1 hy with hy | hy
        · exact HL.out y hy
        · rw[List.mem_singleton.1 hy];exact HBO.out rfl)
       go_wp2_with fail;exact⟨⟨i+1,by simp,by omega,pK,HL2⟩,by simp[intOf];omega⟩
    · have hiK:i=K.length:=by omega
      have HLA:=zh (show ∀ y∈K,¬ YtcgnajeenflfaaaGreatDoor.D.rM D y y from fun y hy=>HL.out y (by rw[hiK,List.take_length];exact hy));have hb3:Below wr.heap.size wr (wr.alloc (.map #[] 0)):=zr.alloc lr _;have HME:=zh (YtcgnajeenflfaaaGreatDoor.D.rO.new D wr);have HB3:=zh hb3;clear hb3 hi;go_wp2_with fail;obtain⟨bk,hbk⟩:∃ bk,wr.heap.size=bk:=⟨_,rfl⟩
      rw[hbk] at HB3 HME ⊢;have HBK:=zh hbk;have HMW:=pY;have HDT:=zh ((pY.out.data HP.out.cap).wide (Nat.zero_le _) (Nat.le_of_eq hbk));have HRK:=zh (fun x q (hq:q∈partsOf D x)=>YtcgnajeenflfaaaGreatDoor.D.aLx HP.out.key HLA.out hq);have HRL:=zh (show ∀ x,YtcgnajeenflfaaaGreatDoor.D.aDj D K x≤4500 from fun x=>by have h1:=YtcgnajeenflfaaaGreatDoor.D.aLy D K x;have h2:=HP.out.cap;omega);clear hbk hlt hiK;rename World=>W2
      go_loopw [100] (fun iv wr3=>∃ (k:Nat),iv=.int .i64 k∧k≤K.length∧RowKit.Hid (Below bk W2 wr3)∧RowKit.Hid (YtcgnajeenflfaaaGreatDoor.D.rO D bk wr3)∧RowKit.Hid (∀ x∈K.take k,YtcgnajeenflfaaaGreatDoor.D.mM D x≤18)) (fun i _=>K.length-(intOf i).toNat)
      case atStart=>exact⟨0,rfl,Nat.zero_le _,HB3,HME,zh (fun x h=>by cases h)⟩
      case round =>
       obtain⟨k,rfl,hk,mX,HMM,HCP⟩:=hrel;have pK:=zh (HMW.out.keep (by rw[HBK.out];exact mX.out));by_cases hlt:k<K.length
       · obtain⟨g,off,rfl,_,hg,hc⟩:=HC.out k hlt;obtain⟨x,hx⟩:∃ x,K[k]=x:=⟨_,rfl⟩
         rw[hx] at hc;rw[HBK.out] at hg;have hc':wr.cell? ⟨g,off+k,none⟩=some (.int .i64 x):=(mX.out.cell (p:=⟨g,off+k,none⟩) hg).trans hc;have hxK:x∈K:=hx▸List.getElem_mem hlt;have hxb:=HKI.out x hxK;have hxi:aF x:=by unfold aF;omega
         have c0:wr.cell? ⟨b,0,none⟩=some (.pointer (some ⟨b+5,0,none⟩)):=by simpa using pK.out.d.cell 0
         have HSZ:=zh (YtcgnajeenflfaaaGreatDoor.D.bFj HP.out.wp HRK.out HRL.out HP.out.few (.pointer (some ⟨b+5,0,none⟩)) bk 5000 x wr (by have:=HRL.out x;omega) hxb.1 hxb.2.1 hxb.2.2 (HDT.out.later mX.out lr) HMM.out);have HXX:=zh (And.intro hx hxb);obtain⟨z,hz⟩:∃ z,YtcgnajeenflfaaaGreatDoor.D.mM D x=z:=⟨_,rfl⟩
         have HZ:=zh hz;clear hx hxb hz hc;go_wp2_with fail;refine HSZ.out.mono ?_;rintro e w3 ⟨rfl,hb4,hm4⟩;rw[HZ.out];have dJ:=zh (mX.out.trans hb4);have rA:=zh (HMW.out.keep (by rw[HBK.out];exact dJ.out));have bUz:=zh hm4;clear hb4 hm4;by_cases h18:18<z
         · have e1:decide ((18:Int)<(z:Int))=true:=decide_eq_true (by omega);obtain⟨ln,hln⟩:=rA.out.bAy x hxi;have c3:w3.cell? ⟨b+3,0,none⟩=some (.int .i64 (n:Int)):=by simpa using rA.out.n.cell 0
           have z3:=rA.out.n.frozen 0;have HA0:=zh (show a.size≠0 from fun e=>by
            have h1:=(HP.out.nil e).2;rw[h1] at hxK;cases hxK)
           have HM5:=zh (rA.out.tick ln);clear h18;go_wp2_with fail;exact lC a w _ rfl rfl rfl HM5.out.d HM5.out.e HM5.out.l HM5.out.n (Nat.le_of_eq vX.out.symm) (by decide) HA0.out (by rw[← vX.out];exact HM5.out.low)
         · have e1:decide ((18:Int)<(z:Int))=false:=decide_eq_false (by omega);have bVa:=zh (show ∀ y∈K.take (k+1),YtcgnajeenflfaaaGreatDoor.D.mM D y≤18 from fun y hy=>by
            rw[List.take_add_one,List.getElem?_eq_getElem hlt,Option.toList_some,HXX.out.1] at hy;rcases List.mem_append.1 hy with hy | hy
            · exact HCP.out y hy
            · rw[List.mem_singleton.1 hy,HZ.out];omega)
           clear h18;go_wp2_with fail;exact⟨⟨k+1,by simp,by omega,dJ,bUz,bVa⟩,by simp[intOf];omega⟩
       · have hkK:k=K.length:=by omega
         have HWF:=zh (YtcgnajeenflfaaaGreatDoor.D.bNd HP.out.wp HP.out.cap HP.out.key HLA.out (fun y hy=>HCP.out y (by rw[hkK,List.take_length];exact hy)));have c0:wr.cell? ⟨b,0,none⟩=some (.pointer (some ⟨b+5,0,none⟩)):=by simpa using pK.out.d.cell 0
         have c1:wr.cell? ⟨b+1,0,none⟩=some (.int .i64 0):=by simpa using pK.out.e.cell 0
         have c2:wr.cell? ⟨b+2,0,none⟩=some (.int .i64 0):=by simpa using pK.out.l.cell 0
         have z0:=pK.out.d.frozen 0;have z1:=pK.out.e.frozen 0;have z2:=pK.out.l.frozen 0;have HF:=zh (bIp pK.out HP.out.cap);clear hkK;go_wp2_with fail;obtain⟨f0,f1,f2,f3,f4⟩:=HF.out;exact aIf a w _ rfl rfl rfl f0 f1 f2 ⟨D,HWF.out,fun e=>(HP.out.nil e).1,f3⟩ (by rw[← vX.out];exact f4) _ _ _ _
  obtain⟨q,hq⟩:∃ q,ls[j]?=some q:=⟨_,List.getElem?_eq_getElem (by rw[HN.out];exact hlt)⟩
  have HQm:=zh (List.mem_of_getElem? hq);have cq:wr.cell? ⟨b+7,j,none⟩=some (.string q):=(HM.out.strs.cell j).trans (by simp[hq]);have cn:wr.cell? ⟨b+3,0,none⟩=some (.int .i64 (j:Int)):=by simpa using HM.out.n.cell 0
  have zn:=HM.out.n.frozen 0;have HM1:=zh (HM.out.tick ((j:Int)+1));have bIq:=zh (HM1.out.more (Nat.le_succ j));clear hq;by_cases hq0:q.size=0
  · have hqe:q.toList.isEmpty=true:=by
     obtain⟨⟨l⟩⟩:=q;cases l with
     | nil=>rw[← decide_eq_emptyBytes];rfl
     | cons _ _=>simp[ByteArray.size] at hq0
    go_wp2_with fail;exact⟨⟨j+1,K,D,by simp,by omega,by simpa using bIq,HP⟩,by simp[intOf];omega⟩
  have hqe:q.toList.isEmpty=false:=by
   rw[← decide_eq_emptyBytes];exact decide_eq_false (fun e=>hq0 (by rw[e];rfl))
  have hqp:0<q.size:=by omega
  by_cases aVv:((q[0].toNat:Int)==35)=true
  · go_wp2_with fail;exact⟨⟨j+1,K,D,by simp,by omega,by simpa using bIq,HP⟩,by simp[intOf];omega⟩
  have bNa:((q[0].toNat:Int)==35)=false:=by simpa using aVv
  have HA0:=zh (show a.size≠0 from fun e=>hq0 (HSz.out e q HQm.out));have hqs:q.size≤65536:=by have:=HSm.out q HQm.out;have:=HA.out;omega
  obtain⟨w1,hw1⟩:∃ w1,wr.setCell ⟨b+3,0,none⟩ (.int .i64 ((j:Int)+1))=w1:=⟨_,rfl⟩
  rw[hw1] at HM1;clear bIq;have HW1:=zh hw1;have HMK:=zh (bAn q hqs w1 (HG.out.later (by rw[vX.out] at *;exact HM1.out.low)));clear hw1 aVv hq0;go_wp2_with fail;rw[HW1.out];clear cq cn zn;refine HMK.out.mono ?_;rintro e w2 ⟨⟨x,c,ps,v,rfl,hx,hc,hps,hpl,hv⟩ | he,hb2⟩;case inr =>
   unfold aDc at he;subst he;have h2:=HM1.out.keep hb2;exact lC a w _ rfl rfl rfl h2.d h2.e h2.l h2.n (Nat.le_of_eq vX.out.symm) (by decide) HA0.out (by rw[← vX.out];exact h2.low)
  obtain⟨va,vc,rfl,hvc,_⟩:=hv.form;have HX:=zh hx;have hxi:aF x:=by have:=qQ hx;unfold aF;omega
  have HPY:=zh (And.intro hc (And.intro hps hpl));obtain⟨T,hT⟩:∃ T,w2.heap.size=T:=⟨_,rfl⟩
  obtain⟨W3,hW3⟩:∃ W3,w2.alloc (.cells #[.int .i64 x,.int .i64 c,.slice va ps.length vc] 162)=W3:=⟨_,rfl⟩
  have hb3:Below w2.heap.size w2 W3:=by rw[← hW3];exact zr.alloc lr _
  have HT:=zh (show aC W3 T 162 #[.int .i64 x,.int .i64 c,.slice va ps.length vc] by rw[← hW3,← hT];exact aC.new _ _ _);have pK:=zh ((HM1.out.keep hb2).keep hb3);have HV3:=zh (hv.later hb3);have HZ:=zh (show w1.heap.size≤T∧W3.heap.size=T+1 by rw[← hT,← hW3];exact⟨hb2.size,by simp⟩);have HW3:=zh hW3;have HTT:=zh hT;clear hx hc hps hpl hb2 hb3 hW3 hT hv;go_wp2_with fail;simp only [HTT.out,HW3.out];have c0:W3.cell? ⟨b,0,none⟩=some (.pointer (some ⟨b+5,0,none⟩)):=by simpa using pK.out.d.cell 0
  have c5:W3.cell? ⟨b+5,0,none⟩=some (.map (some (b+4))):=by simpa using pK.out.box.cell 0
  have t0:W3.cell? ⟨T,0,none⟩=some (.int .i64 x):=by simpa using HT.out.cell 0
  have l0:=pK.out.d.lt;have l5:=pK.out.box.lt;have lT:=HT.out.lt;by_cases hD:D x=none
  case neg =>
   obtain⟨c9,a9,n9,k9,hlk⟩:=(pK.out.look x hxi W3 rfl).2 hD;have lk1:=hlk W3.drew rfl;have lk2:=hlk (W3.alloc (.cells #[.int .i64 x,.int .i64 c9,.slice a9 n9 k9] 162)).drew (Below.heap_alloc _ _ _ (by show b+4<W3.heap.size;omega));have lk3:=hlk (W3.alloc (.cells #[.int .i64 0,.int .i64 0,.slice none 0 0] 162)).drew (Below.heap_alloc _ _ _ (by show b+4<W3.heap.size;omega));have rA:=zh (pK.out.keep (zr.alloc lr (.cells #[.int .i64 x,.int .i64 c9,.slice a9 n9 k9] 162)).drew);clear hlk hD;go_region;all_goals go_wp2_with fail
   all_goals exact lC a w _ rfl rfl rfl rA.out.d rA.out.e rA.out.l rA.out.n (Nat.le_of_eq vX.out.symm) (by decide) HA0.out (by rw[← vX.out];exact rA.out.low)
  have lk1:=(pK.out.look x hxi W3.drew rfl).1 hD;have lk2:=(pK.out.look x hxi (W3.alloc (.cells #[.int .i64 0,.int .i64 0,.slice none 0 0] 162)).drew (Below.heap_alloc _ _ _ (by show b+4<W3.heap.size;omega))).1 hD;have HD:=zh hD;clear hD;have rA:=zh (pK.out.keep (zr.alloc lr (.cells #[.int .i64 0,.int .i64 0,.slice none 0 0] 162)).drew);have HT4:=zh (aC.below HT.out (zr.alloc lr (.cells #[.int .i64 0,.int .i64 0,.slice none 0 0] 162)).drew lT);have HV4:=zh ((HV3.out.alloc (.cells #[.int .i64 0,.int .i64 0,.slice none 0 0] 162) (by have:=HZ.out;have:=HTT.out;omega)).later zr.drew);have hz4:(W3.alloc (.cells #[.int .i64 0,.int .i64 0,.slice none 0 0] 162)).drew.heap.size=W3.heap.size+1:=by simp
  obtain⟨W4,hW4⟩:∃ W4,(W3.alloc (.cells #[.int .i64 0,.int .i64 0,.slice none 0 0] 162)).drew=W4:=⟨_,rfl⟩
  rw[hW4] at rA HT4 HV4 hz4;have HW4:=zh hW4;have HZ4:=zh hz4;clear hW4 hz4;apply aDi;case h =>
   go_region;all_goals exact⟨rfl,rfl,rfl⟩
  rw[HW4.out];have hlen:=fun ty=>rA.out.len_ ty
  have d0:W4.cell? ⟨b,0,none⟩=some (.pointer (some ⟨b+5,0,none⟩)):=by simpa using rA.out.d.cell 0
  have d5:W4.cell? ⟨b+5,0,none⟩=some (.map (some (b+4))):=by simpa using rA.out.box.cell 0
  have m0:W4.cell? ⟨T,0,none⟩=some (.int .i64 x):=by simpa using HT4.out.cell 0
  have m1:W4.cell? ⟨T,1,none⟩=some (.int .i64 c):=by simpa using HT4.out.cell 1
  have m2:W4.cell? ⟨T,2,none⟩=some (.slice va ps.length vc):=by simpa using HT4.out.cell 2
  clear lk1 lk2 c0 c5 t0 l0 l5 lT;by_cases hfull:K.length=4096
  · have e1:((K.length:Int)==4096)=true:=by simp;omega
    clear hfull;go_wp2_with fail;exact lC a w _ rfl rfl rfl rA.out.d rA.out.e rA.out.l rA.out.n (Nat.le_of_eq vX.out.symm) (by decide) HA0.out (by rw[← vX.out];exact rA.out.low)
  have e1:((K.length:Int)==4096)=false:=by simp;omega
  have HK:=zh (show K.length<4096 by have:=HP.out.cap;omega);have hs4:aH W4.drew (fun k=>(Value.slice oa K.length oc).ownBlock=some k∨k<base) (.slice va ps.length vc) ps:=aH.of (HV4.out.later zr.drew) (by have:=HZ4.out;have:=HZ.out;have:=HTT.out;show w2.heap.size≤W4.heap.size;omega) (fun k h1 h2 e=>by
   have h3:=HM1.out.lo;rcases e with e | e
   · have:=(World.ownsRow.lt HM1.out.row k e).2;omega
   · omega)
  obtain⟨w5,hst,hm5,o5,ho5⟩:=(rA.out.keep (Below.refl W4.heap.size W4).drew).mark HK.out hxi HD.out hs4 (c:=c);have HM5:=zh hm5;have HT5:=zh (show aC w5 T 162 #[.int .i64 x,.int .i64 c,.slice va ps.length vc] by
   rw[ho5];exact gW o5 (aC.below HT4.out zr.drew HT4.out.lt) (by have:=HM1.out.lo;have:=HZ.out;omega))
  clear hm5 ho5 hfull hs4;go_wp2_with fail;apply aDi;case h =>
   go_region;all_goals exact⟨rfl,rfl,rfl⟩
  have g0:w5.cell? ⟨T,0,none⟩=some (.int .i64 x):=by simpa using HT5.out.cell 0
  have g3:w5.cell? ⟨b+3,0,none⟩=some (.int .i64 ((j:Int)+1)):=by simpa using HM5.out.n.cell 0
  obtain⟨w6,bXh,hm6,o6,ho6⟩:=HM5.out.line (by omega) x ((j:Int)+1) hxi;have HM6:=zh hm6;have HT6:=zh (show aC w6 T 162 #[.int .i64 x,.int .i64 c,.slice va ps.length vc] by
   rw[ho6];exact gW o6 HT5.out (by have:=HM1.out.lo;have:=HZ.out;omega))
  have i0:w6.cell? ⟨T,0,none⟩=some (.int .i64 x):=by simpa using HT6.out.cell 0
  have lM:=aV.lit w6 3 #[.int .i64 x] 1 1 rfl;have hK2:=HK.out;have hs6:=HM6.out.lo.2.2.1;clear hm6 ho6 hst d0 d5 m0 m1 m2;go_wp2_with (at_builtin;refine aO rfl (.tmp 76) (.tmp 79) 42 rfl 3 (.int .i64 0) 1 8 underlying42 lK rfl (by decide) rfl (World.ownsRow.alloc HM6.out.row _) rfl lM (fun u hu=>by rw[List.mem_singleton.1 hu];rfl) (by omega) (by decide) (by simp;omega) ?_;intro c7 kE w7 hO7 hg7 bDs);have hO8:aJ w7 base (.slice c7 (K.length+1) kE) (K++[x]):=by
   unfold aJ;rw[List.length_append,List.length_singleton,← fP];exact hO7
  have HM7:=zh (HM6.out.push hg7 hO8 bDs);have HP7:=zh (HP.out.put HX.out HPY.out.1 HPY.out.2.1 HPY.out.2.2 HA0.out HK.out);exact⟨⟨j+1,K++[x],aId D x c ps,by simp,by omega,by simpa using HM7,HP7⟩,by simp[intOf];omega⟩
theorem aGb (a:ByteArray) (w:World) (hg:GLd w):Calls prog 37 #[.string a] w (aLw a w):=by
 by_cases h:65536<a.size
 · exact aQb a h w
 · exact aQc a (by omega) w hg
