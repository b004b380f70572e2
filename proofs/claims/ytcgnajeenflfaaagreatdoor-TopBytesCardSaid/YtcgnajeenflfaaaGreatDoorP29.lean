import Derived.Test.YtcgnajeenflfaaaGreatDoorP26
import Derived.Test.YtcgnajeenflfaaaGreatDoorP28
set_option maxRecDepth 100000
set_option maxHeartbeats 4000000
set_option linter.all false
open Go.Proofs.Tryz Go.RowKit
namespace Go.Proofs.YtcgnajeenflfaaaGreatDoor
namespace Sc
open V (Same Pt VI mayB mayB_ok WantPost want_kind want_ok has_Number_tuple has_Raw_tuple has_List_tuple)
theorem f14 {w:World} {g:Nat} {t:TypeId} {v0 v1 v2 v3 v4 v5 v6 v7 v8 v9 v10 v11 v12 v13:Value} (h:Blk w g t #[v0,v1,v2,v3,v4,v5,v6,v7,v8,v9,v10,v11,v12,v13]):w.cell? ⟨g,0,none⟩=some v0∧w.cell? ⟨g,1,none⟩=some v1∧w.cell? ⟨g,2,none⟩=some v2∧w.cell? ⟨g,3,none⟩=some v3∧w.cell? ⟨g,4,none⟩=some v4∧w.cell? ⟨g,5,none⟩=some v5∧w.cell? ⟨g,6,none⟩=some v6∧w.cell? ⟨g,7,none⟩=some v7∧w.cell? ⟨g,8,none⟩=some v8∧w.cell? ⟨g,9,none⟩=some v9∧w.cell? ⟨g,10,none⟩=some v10∧w.cell? ⟨g,11,none⟩=some v11∧w.cell? ⟨g,12,none⟩=some v12∧w.cell? ⟨g,13,none⟩=some v13 :=
 ⟨h.cell 0,h.cell 1,h.cell 2,h.cell 3,h.cell 4,h.cell 5,h.cell 6,h.cell 7,h.cell 8,h.cell 9,h.cell 10,h.cell 11,h.cell 12,h.cell 13⟩
theorem wrong_tuple (f:Fd) (n:Nat) (hn:n≤20) (hff:FFit f) (p:Pt) (b:Option Addr) (cap:Nat) (a:Option Addr) (c:Nat) (w:World) (hmay:mayB p=true) (hk:p.kind=7) (hfk:f.kind=7) (IH:∀ g∈f.fields,WrongAt g n)
 (hv:VI w 0 w.heap.size p (.iface 118 (.agg #[.slice b p.items.length cap]))) (hfi:FI w 0 w.heap.size f.fields (.slice a f.fields.length c)) :
 Calls prog 29 #[.agg (fcells f (.slice a f.fields.length c)).toArray,.iface 118 (.agg #[.slice b p.items.length cap])] w (FitPost (p.items.length==f.fields.length&&fitL f.fields p.items) (n+1) w):=by
 have hil:p.items.length≤1024:=by
  have h:=mayB_ok hmay
  simp only [V.okOne,hk,Bool.and_eq_true] at h
  have h2:=h.2
  simp at h2
  exact h2.2
 have HWI:=zh (fun (w':World) (hb:Below w.heap.size w w')=>within_any f n hn hff p b cap a c w' hmay hk hil IH (vi_later hv hb) (fi_later hfi hb))
 have HW:=zh (fun w'=>want_ok p (.iface 118 (.agg #[.slice b p.items.length cap])) w' (by omega) hv)
 have t1:=has_Number_tuple (.agg #[.slice b p.items.length cap])
 have t2:=has_Raw_tuple (.agg #[.slice b p.items.length cap])
 have t3:=has_List_tuple (.agg #[.slice b p.items.length cap])
 rw[hk] at HW
 obtain⟨X,hX⟩:∃ X,(p.items.length==f.fields.length&&fitL f.fields p.items)=X:=⟨_,rfl⟩
 rw[hX] at HWI ⊢
 obtain⟨il,hil2⟩:∃ il,p.items.length=il:=⟨_,rfl⟩
 rw[hil2] at HWI HW t1 t2 t3 ⊢
 have hcf:(fcells f (.slice a f.fields.length c)).toArray=#[.string f.name,.int .u8 ((7:Nat):Int),.bool f.down,.int .u8 f.nulls,.bool f.bnd,.bool f.lob,.string f.lom,.bool f.hib,.string f.him,.int .i64 f.most,.int .i64 f.co.str,.bool f.co.sh,.bool f.co.back,.slice a f.fields.length c]:=by rw[← hfk];rfl
 rw[hcf] at HWI ⊢
 obtain⟨nm,hnm⟩:∃ x,f.name=x:=⟨_,rfl⟩
 obtain⟨m,hm⟩:∃ m,f.fields.length=m:=⟨_,rfl⟩
 rw[hm] at HWI ⊢
 clear hv hfi IH hcf hff hX hil hil2 hm hfk hk hmay hnm
 go_enter func29,ntmps29
 go_wp2_with (go_at_call 49;refine(HW.out _).mono ?_;rintro e w1 ⟨rfl,hb1⟩;have HB:=zh ((zr.alloc lr _).trans (hb1.mono (by simp)));have HBF:=zh (Blk.below (Blk.new w 79 #[.string f.name,.int .u8 ((7:Nat):Int),.bool f.down,.int .u8 f.nulls,.bool f.bnd,.bool f.lob,.string f.lom,.bool f.hib,.string f.him,.int .i64 f.most,.int .i64 f.co.str,.bool f.co.sh,.bool f.co.back,.slice a m c]) hb1 (by simp));obtain⟨c0,c1,c2,c3,c4,c5,c6,c7,c8,c9,c10,c11,c12,c13⟩:=f14 HBF.out)
 refine(HWI.out _ HB.out).mono ?_
 intro e w2 he
 cases X with
 | true =>
  obtain⟨rfl,hb2⟩:=he.yes
  have HB2:=zh (HB.out.trans (hb2.mono HB.out.size))
  go_wp2_with fail
  go_ret
  exact FitPost.ok HB2.out
 | false =>
  obtain⟨fb,⟨hfb,rfl,hfo⟩,hb2⟩:=he.no
  have HB2:=zh (HB.out.trans (hb2.mono HB.out.size))
  have HFO:=zh hfo
  have HLE:=zh (Nat.le_trans HB.out.size hfb)
  clear hfo hfb
  go_wp2_with fail
  go_ret
  exact⟨⟨fb,HLE.out,rfl,HFO.out⟩,HB2.out⟩
theorem FitPost.mono {X Y:Bool} {n:Nat} {w w':World} {e:Ending} (h:FitPost X n w e w') (hXY:X=Y):FitPost Y n w e w':=hXY▸h
theorem wrong_gen (f:Fd) (n:Nat) (hn:n≤20) (hff:FFit f) (hk7:f.kind≤7) (hnum:f.kind=2→chk f.lob f.lom.toList=0∧chk f.hib f.him.toList=0) (IH:∀ g∈f.fields,WrongAt g n) (a:Option Addr) (c:Nat) (p:Pt) (v:Value) (w:World) (hmay:mayB p=true)
 (hv:VI w 0 w.heap.size p v) (hfi:FI w 0 w.heap.size f.fields (.slice a f.fields.length c)) :
 Calls prog 29 #[.agg (fcells f (.slice a f.fields.length c)).toArray,v] w (FitPost (fitF f p) (n+1) w):=by
 rw[fitF_eq]
 have hcan:=canon (mayB_ok hmay)
 by_cases h0:p.kind=0
 · rw[if_pos h0]
   obtain rfl:=hv.nilOf h0
   exact wrong_null f a _ c (n+1) w
 rw[if_neg h0]
 obtain⟨T,V,rfl⟩:∃ T V,v=.iface T V:=by
  obtain⟨T,V,_,h,_⟩:=hv.kindOf h0
  exact⟨T,V,h⟩
 by_cases hne:p.kind≠f.kind
 · rw[show (p.kind==f.kind)=false by simpa using hne,Bool.false_and]
   exact wrong_kind f a _ c (n+1) p T V w hk7 hv hne
 have he:p.kind=f.kind:=Classical.not_not.1 hne
 rw[show (p.kind==f.kind)=true by simpa using he,Bool.true_and]
 have hv0:=hv
 generalize hvv:Value.iface T V=v at hv
 cases hv with
 | null _ h=>exact absurd h h0
 | truth _ h =>
  injection hvv with e1 e2
  subst e1 e2
  rw[if_neg (by omega)]
  refine(wrong_truth f a _ c (n+1) p _ w hk7 hv0 he).mono fun e w' h2=>h2.mono ?_
  unfold fitP
  rw[if_neg (by omega),h]
  rfl
 | whole _ h =>
  injection hvv with e1 e2
  subst e1 e2
  rw[if_neg (by omega)]
  have h2:=hnum (by omega)
  refine(wrong_num f a _ c (n+1) p p.neg p.mag w (by omega) hv0 he (hcan.2.2.2.2.1 h) h2.1 h2.2).mono fun e w' h3=>h3.mono ?_
  unfold fitP
  rw[if_pos h]
 | row _ g0 g1 g2 g7 =>
  injection hvv with e1 e2
  subst e1 e2
  rw[if_neg g7]
  have hle:=hcan.1
  have hsz:p.raw.size≤65536:=by
   by_cases h4:p.kind=4
   · have:=hcan.2.2.2.2.2.1 h4;omega
   · exact hcan.2.2.2.2.2.2.1 (by omega)
  rcases (by omega:p.kind=3∨p.kind=4∨p.kind=5∨p.kind=6) with h | h | h | h
  · rw[h] at hv0 ⊢
    refine(wrong_row3 f a _ c (n+1) p p.raw w (by omega) hv0 he hsz).mono fun e w' h3=>h3.mono ?_
    unfold fitP
    rw[h];simp
  · rw[h] at hv0 ⊢
    refine(wrong_row4 f a _ c (n+1) p p.raw w (by omega) hv0 he hsz).mono fun e w' h3=>h3.mono ?_
    unfold fitP
    rw[h];simp
  · rw[h] at hv0 ⊢
    refine(wrong_row5 f a _ c (n+1) p p.raw w (by omega) hv0 he hsz).mono fun e w' h3=>h3.mono ?_
    unfold fitP
    rw[h];simp
  · rw[h] at hv0 ⊢
    refine(wrong_row6 f a _ c (n+1) p p.raw w (by omega) hv0 he hsz).mono fun e w' h3=>h3.mono ?_
    unfold fitP
    rw[h];simp
 | tuple _ h a' cap' F hc cells deep =>
  injection hvv with e1 e2
  subst e1 e2
  rw[if_pos h]
  exact wrong_tuple f n hn hff p a' cap' a c w hmay h (by omega) IH hv0 hfi
theorem odd_num {f:Fd} (h:oddM f=false) (h2:f.kind=2):chk f.lob f.lom.toList=0∧chk f.hib f.him.toList=0:=by
 rw[oddM_eq] at h
 unfold oddX at h
 by_cases h1:f.kind<1∨7<f.kind∨2<f.nulls
 · rw[if_pos h1] at h;cases h
 · rw[if_neg h1] at h
   split at h
   · cases h
   · unfold oddKind at h
     rw[if_pos h2] at h
     unfold oddIntM at h
     split at h
     · simp only [Bool.not_eq_false',Bool.and_eq_true,beq_iff_eq] at h
       exact h.1
     · simp only [Bool.or_eq_false_iff,Bool.not_eq_false',List.isEmpty_iff] at h
       obtain⟨⟨⟨a,b⟩,c⟩,d⟩:=h
       simp[a,b,c,d,chk]
theorem wrong_any (f:Fd):∀ d,OkF d f→WrongAt f (16-d):=by
 induction f using Fd.ind with
 | h f ih =>
  intro d hok hff a c q v w hmay hv hfi
  obtain⟨_,_,hd,_,ho,h7,_,hin⟩:=hok
  have hk:=(odd_not ho).1
  have h:=wrong_gen f (15-d) (by omega) hff hk.2.1 (odd_num ho) (fun g hg=>by have:=ih g hg (d+1) (hin g hg);rwa [show 16-(d+1)=15-d by omega] at this) a c q v w hmay hv hfi
  rwa [show 15-d+1=16-d by omega] at h
open V (Same Pt VI mayB mayB_ok)
def ErrPost (ok:Bool) (w:World) (e:Ending) (w':World):Prop :=
 (if ok then e=.returned .nilIface else ∃ fb,w.heap.size≤fb∧e=.returned (.iface 39 (.pointer (some ⟨fb,0,none⟩)))∧FaultOk w' fb 17)∧Below w.heap.size w w'
theorem ErrPost.new {w0 w:World} {g:Nat} {c at_:Int} {why:Value} (hg:g=w.heap.size) (hb:Below w0.heap.size w0 w) (hwhy:why=.nilIface∨∃ T V,why=.iface T V) :
 ErrPost false w0 (.returned (.iface 39 (.pointer (some ⟨g,0,none⟩)))) (w.alloc (.cells #[.int .i64 c,.int .i64 at_,.slice none 0 0,why] 44)):=by
 rw[hg]
 exact⟨⟨w.heap.size,hb.size,rfl,c,at_,.slice none 0 0,[],why,Blk.new _ _ _,IntsP.nil _ _,Nat.zero_le _,hwhy⟩,hb.alloc hb.size _⟩
theorem ErrPost.ok {w0 w:World} (hb:Below w0.heap.size w0 w):ErrPost true w0 (.returned .nilIface) w:=⟨rfl,hb⟩
theorem ErrPost.yes {w w':World} {e:Ending} (h:ErrPost true w e w'):e=.returned .nilIface∧Below w.heap.size w w':=h
theorem ErrPost.no {w w':World} {e:Ending} (h:ErrPost false w e w'):∃ fb,(w.heap.size≤fb∧e=.returned (.iface 39 (.pointer (some ⟨fb,0,none⟩)))∧FaultOk w' fb 17)∧Below w.heap.size w w':=by
 obtain⟨⟨fb,h⟩,hb⟩:=h
 exact⟨fb,h,hb⟩
theorem SPost.yes {w w':World} {e:Ending} (h:SPost true w e w'):e=.returned .nilIface∧Below w.heap.size w w':=h
theorem SPost.no {w w':World} {e:Ending} (h:SPost false w e w'):(∃ fb:Nat,e=.returned (.iface 39 (.pointer (some ⟨fb,0,none⟩))))∧Below w.heap.size w w':=by
 obtain⟨⟨fb,_,_,_,_,_,h,_⟩,hb⟩:=h
 exact⟨⟨fb,h⟩,hb⟩
theorem told_nil (w:World):Calls prog 28 #[.pointer none] w fun e w'=>e=.returned .nilIface∧w'=w:=by
 go_enter func28,ntmps28
 go_wp2_with fail
 go_ret
 exact⟨rfl,rfl⟩
theorem told_some (a:Addr) (w:World):Calls prog 28 #[.pointer (some a)] w fun e w'=>e=.returned (.iface 39 (.pointer (some a)))∧w'=w:=by
 go_enter func28,ntmps28
 go_wp2_with fail
 go_ret
 exact⟨rfl,rfl⟩
def asField (F:List Fd):Fd:=.mk ⟨#[]⟩ 7 false 0 false false ⟨#[]⟩ false ⟨#[]⟩ 0 ⟨0,false,false⟩ F
theorem fitF_as (F:List Fd) (p:Pt):fitF (asField F) p=fitS F p:=by
 rw[fitF_eq]
 unfold fitS asField
 simp only [Fd.nulls,Fd.kind,Fd.fields]
 by_cases h0:p.kind=0
 · rw[if_pos h0,h0];rfl
 · rw[if_neg h0]
   by_cases h7:p.kind=7
   · rw[if_pos h7,h7];simp
   · rw[show (p.kind==7)=false by simpa using h7];simp
theorem asField_fit {F:List Fd} (h:F.length≤140737488351232):FFit (asField F):=by
 constructor<;>simp[asField,Fd.name,Fd.kind,Fd.nulls,Fd.lom,Fd.him,Fd.most,Fd.co,Fd.fields,D.isI64]<;>first | exact h | decide | skip
theorem fitCheck_any (lim:Int) (F:List Fd) (a:Option Addr) (c:Nat) (p:Pt) (v:Value) (w:World) (hl:F.length≤140737488351232) (hmay:mayB p=true) (hv:VI w 0 w.heap.size p v) (hfi:FI w 0 w.heap.size F (.slice a F.length c)) :
 Calls prog 10 #[.agg #[.int .i64 lim,.slice a F.length c],v] w (ErrPost (okS lim F&&fitS F p) w):=by
 have hvs:v=.nilIface∨∃ T V,v=.iface T V:=by
  by_cases h0:p.kind=0
  · exact .inl (hv.nilOf h0)
  · obtain⟨T,V,_,h,_⟩:=hv.kindOf h0
    exact .inr ⟨T,V,h⟩
 have HS:=zh (fun o=>SCheck_any lim F a c (w.alloc o) hl (fi_later hfi (zr.alloc lr o)))
 cases hok:okS lim F with
 | false =>
  rw[hok] at HS
  rw[Bool.false_and]
  obtain⟨m,hm⟩:∃ m,F.length=m:=⟨_,rfl⟩
  rw[hm] at HS ⊢
  clear hv hfi hok hl hmay hm
  rcases hvs with rfl | ⟨T,V,rfl⟩
  all_goals
   go_enter func10,ntmps10
   go_wp2_with (go_at_call 27;refine(HS.out _).mono ?_;intro e w1 he;obtain⟨⟨fb,rfl⟩,hb1⟩:=he.no;have HB:=zh ((zr.alloc lr _).trans (hb1.mono (by simp))))
   go_ret
   exact ErrPost.new rfl HB.out (.inr ⟨_,_,rfl⟩)
 | true =>
  rw[Bool.true_and,← fitF_as]
  rw[hok] at HS
  obtain⟨_,_,_,_,ho⟩:=okS_all hok
  have HWR:=zh (show ∀ w':World,Below w.heap.size w w'→Calls prog 29 #[.agg #[.string ⟨#[]⟩,.int .u8 7,.bool false,.int .u8 0,.bool false,.bool false,.string ⟨#[]⟩,.bool false,.string ⟨#[]⟩,.int .i64 0,.int .i64 0,.bool false,.bool false,.slice a F.length c],v] w' (FitPost (fitF (asField F) p) 17 w') from fun w' hb =>
   wrong_gen (asField F) 16 (by omega) (asField_fit hl) (Nat.le_refl 7) (fun h=>by cases h) (fun g hg=>wrong_any g 0 (ho g hg)) a c p v w' hmay (vi_later hv hb) (fi_later hfi hb))
  obtain⟨X,hX⟩:∃ X,fitF (asField F) p=X:=⟨_,rfl⟩
  rw[hX] at HWR ⊢
  obtain⟨m,hm⟩:∃ m,F.length=m:=⟨_,rfl⟩
  rw[hm] at HS HWR ⊢
  clear hv hfi hok hl hmay hm ho hX
  rcases hvs with rfl | ⟨T,V,rfl⟩
  all_goals
   cases X with
   | true =>
    go_enter func10,ntmps10
    go_wp2_with (first
     | (go_at_call 27;refine(HS.out _).mono ?_;intro e w1 he;obtain⟨rfl,hb1⟩:=he.yes;have HB:=zh ((zr.alloc lr _).trans (hb1.mono (by simp)));have HBX:=zh (Blk.below (Blk.new w 26 #[.int .i64 lim,.slice a m c]) hb1 (by simp));have c1:=HBX.out.cell 1;simp at c1)
     | (go_at_call 29;refine(HWR.out _ HB.out).mono ?_;intro e w2 he2;obtain⟨rfl,hb2⟩:=he2.yes;have HB2:=zh (HB.out.trans (hb2.mono HB.out.size)))
     | (go_at_call 28;refine(told_nil _).mono ?_;rintro e w3 ⟨rfl,rfl⟩))
    go_ret
    exact ErrPost.ok HB2.out
   | false =>
    go_enter func10,ntmps10
    go_wp2_with (first
     | (go_at_call 27;refine(HS.out _).mono ?_;intro e w1 he;obtain⟨rfl,hb1⟩:=he.yes;have HB:=zh ((zr.alloc lr _).trans (hb1.mono (by simp)));have HBX:=zh (Blk.below (Blk.new w 26 #[.int .i64 lim,.slice a m c]) hb1 (by simp));have c1:=HBX.out.cell 1;simp at c1)
     | (go_at_call 29;refine(HWR.out _ HB.out).mono ?_;intro e w2 he2;obtain⟨fb,⟨hfb,rfl,hfo⟩,hb2⟩:=he2.no;have HB2:=zh (HB.out.trans (hb2.mono HB.out.size));have HFO:=zh hfo;have HLE:=zh (Nat.le_trans HB.out.size hfb);clear hfo hfb)
     | (go_at_call 28;refine(told_some _ _).mono ?_;rintro e w3 ⟨rfl,rfl⟩))
    go_ret
    exact⟨⟨fb,HLE.out,rfl,HFO.out⟩,HB2.out⟩
open We (Co)
theorem FI.one {w:World} {f:Fd} {v:Value} (hff:FFit f) (hfi:FI w 0 w.heap.size f.fields v):FI (w.alloc (.cells (fcells f v).toArray 79)) 0 (w.heap.size+1) [f] (.slice (some ⟨w.heap.size,0,none⟩) [f].length 1):=by
 refine .mk [f] _ 1 (fun _=>v) lr (fun j hj=>?_) (fun j hj=>?_) (fun j hj=>?_)
 · obtain rfl:j=0:=by simp at hj;omega
   refine⟨w.heap.size,0,rfl,Nat.zero_le _,Nat.lt_succ_self _,fun k hk=>?_⟩
   rw[show 0+0*14+k=k by omega,cellA]
   simp[List.getElem?_eq_getElem (show k<(fcells f v).length from hk)]
 · obtain rfl:j=0:=by simp at hj;omega
   exact hff
 · obtain rfl:j=0:=by simp at hj;omega
   exact(hfi.same (Same.of_below (zr.alloc lr _) lr)).wide lr (Nat.le_succ _)
theorem one_any (f:Fd) (a:Option Addr) (c:Nat) (w:World) (hff:FFit f) (hfi:FI w 0 w.heap.size f.fields (.slice a f.fields.length c)) :
 Calls prog 27 #[.agg #[.int .i64 65536,.slice (some ⟨w.heap.size,0,none⟩) 1 1]] (w.alloc (.cells (fcells f (.slice a f.fields.length c)).toArray 79)) (SPost (okS 65536 [f]) (w.alloc (.cells (fcells f (.slice a f.fields.length c)).toArray 79))) :=
 SCheck_any 65536 [f] (some ⟨w.heap.size,0,none⟩) 1 _ (by simp) (by rw[World.size_alloc];exact FI.one hff hfi)
theorem fcells_14 (f:Fd) (v:Value):(fcells f v).toArray=#[.string f.name,.int .u8 f.kind,.bool f.down,.int .u8 f.nulls,.bool f.bnd,.bool f.lob,.string f.lom,.bool f.hib,.string f.him,.int .i64 f.most,.int .i64 f.co.str,.bool f.co.sh,.bool f.co.back,v]:=rfl
theorem fitRefused_any (f:Fd) (a:Option Addr) (c:Nat) (w:World) (hff:FFit f) (hfi:FI w 0 w.heap.size f.fields (.slice a f.fields.length c)) :
 Calls prog 101 #[.agg (fcells f (.slice a f.fields.length c)).toArray] w (SPost (okS 65536 [f]) w):=by
 have H1:=zh (show ∀ o,Calls prog 27 #[.agg #[.int .i64 65536,.slice (some ⟨w.heap.size+1,0,none⟩) 1 1]] ((w.alloc o).alloc (.cells (fcells f (.slice a f.fields.length c)).toArray 79)) (SPost (okS 65536 [f]) ((w.alloc o).alloc (.cells (fcells f (.slice a f.fields.length c)).toArray 79))) from fun o=>by
  have:=one_any f a c (w.alloc o) hff (fi_later hfi (zr.alloc lr o))
  rwa [World.size_alloc] at this)
 obtain⟨X,hX⟩:∃ X,okS 65536 [f]=X:=⟨_,rfl⟩
 obtain⟨m,hm⟩:∃ m,f.fields.length=m:=⟨_,rfl⟩
 rw[hX,hm] at H1
 rw[hX,hm]
 rw[fcells_14] at H1 ⊢
 clear hX hm hfi hff
 cases X with
 | true =>
  go_enter func101,ntmps101
  go_wp2_with (go_at_call 27;refine(H1.out _).mono ?_;intro e w1 he;obtain⟨rfl,hb1⟩:=he.yes;have HB:=zh (((zr.alloc lr _).alloc (by simp) _).trans (hb1.mono (by simp;omega))))
  go_ret
  exact⟨rfl,HB.out⟩
 | false =>
  go_enter func101,ntmps101
  go_wp2_with (go_at_call 27;refine(H1.out _).mono ?_;intro e w1 he;have HE:=zh he;obtain⟨⟨fb,_,_,_,_,hfb,rfl,hc0,hbl⟩,hb1⟩:=he;have HBL:=zh hbl;have HC0:=zh hc0;have hfb2:w.heap.size≤fb:=(by simp at hfb;omega);have HB:=zh (((zr.alloc lr _).alloc (by simp) _).trans (hb1.mono (by simp;omega)));clear hbl hc0)
  go_ret
  exact⟨⟨fb,_,_,_,_,hfb2,rfl,HC0.out,HBL.out⟩,HB.out⟩
theorem fitField_any (f:Fd) (a:Option Addr) (c:Nat) (p:Pt) (v:Value) (w:World) (hff:FFit f) (hmay:mayB p=true) (hv:VI w 0 w.heap.size p v) (hfi:FI w 0 w.heap.size f.fields (.slice a f.fields.length c)) :
 Calls prog 76 #[.agg (fcells f (.slice a f.fields.length c)).toArray,v] w (ErrPost (okS 65536 [f]&&fitF f p) w):=by
 have hvs:v=.nilIface∨∃ T V,v=.iface T V:=by
  by_cases h0:p.kind=0
  · exact .inl (hv.nilOf h0)
  · obtain⟨T,V,_,h,_⟩:=hv.kindOf h0
    exact .inr ⟨T,V,h⟩
 have HR:=zh (fun o=>fitRefused_any f a c (w.alloc o) hff (fi_later hfi (zr.alloc lr o)))
 cases hok:okS 65536 [f] with
 | false =>
  rw[hok] at HR
  rw[Bool.false_and]
  obtain⟨m,hm⟩:∃ m,f.fields.length=m:=⟨_,rfl⟩
  rw[hm] at HR ⊢
  rw[fcells_14] at HR ⊢
  clear hv hfi hok hff hmay hm
  rcases hvs with rfl | ⟨T,V,rfl⟩
  all_goals
   go_enter func76,ntmps76
   go_wp2_with (go_at_call 101;refine(HR.out _).mono ?_;intro e w1 he;obtain⟨⟨fb,rfl⟩,hb1⟩:=he.no;have HB:=zh ((zr.alloc lr _).trans (hb1.mono (by simp))))
   go_ret
   exact ErrPost.new rfl HB.out (.inr ⟨_,_,rfl⟩)
 | true =>
  rw[Bool.true_and]
  rw[hok] at HR
  obtain⟨_,_,_,_,ho⟩:=okS_all hok
  have HWR:=zh (fun (w':World) (hb:Below w.heap.size w w')=>wrong_any f 0 (ho f List.mem_cons_self) hff a c p v w' hmay (vi_later hv hb) (fi_later hfi hb))
  obtain⟨X,hX⟩:∃ X,fitF f p=X:=⟨_,rfl⟩
  rw[hX] at HWR ⊢
  obtain⟨m,hm⟩:∃ m,f.fields.length=m:=⟨_,rfl⟩
  rw[hm] at HR HWR ⊢
  rw[fcells_14] at HR HWR ⊢
  clear hv hfi hok hff hmay hm ho hX
  rcases hvs with rfl | ⟨T,V,rfl⟩
  all_goals
   cases X with
   | true =>
    go_enter func76,ntmps76
    go_wp2_with (first
     | (go_at_call 101;refine(HR.out _).mono ?_;intro e w1 he;obtain⟨rfl,hb1⟩:=he.yes;have HB:=zh ((zr.alloc lr _).trans (hb1.mono (by simp)));obtain⟨c0,c1,c2,c3,c4,c5,c6,c7,c8,c9,c10,c11,c12,c13⟩:=f14 (Blk.below (Blk.new w 79 #[.string f.name,.int .u8 f.kind,.bool f.down,.int .u8 f.nulls,.bool f.bnd,.bool f.lob,.string f.lom,.bool f.hib,.string f.him,.int .i64 f.most,.int .i64 f.co.str,.bool f.co.sh,.bool f.co.back,.slice a m c]) hb1 (by simp)))
     | (go_at_call 29;refine(HWR.out _ HB.out).mono ?_;intro e w2 he2;obtain⟨rfl,hb2⟩:=he2.yes;have HB2:=zh (HB.out.trans (hb2.mono HB.out.size)))
     | (go_at_call 28;refine(told_nil _).mono ?_;rintro e w3 ⟨rfl,rfl⟩))
    go_ret
    exact ErrPost.ok HB2.out
   | false =>
    go_enter func76,ntmps76
    go_wp2_with (first
     | (go_at_call 101;refine(HR.out _).mono ?_;intro e w1 he;obtain⟨rfl,hb1⟩:=he.yes;have HB:=zh ((zr.alloc lr _).trans (hb1.mono (by simp)));obtain⟨c0,c1,c2,c3,c4,c5,c6,c7,c8,c9,c10,c11,c12,c13⟩:=f14 (Blk.below (Blk.new w 79 #[.string f.name,.int .u8 f.kind,.bool f.down,.int .u8 f.nulls,.bool f.bnd,.bool f.lob,.string f.lom,.bool f.hib,.string f.him,.int .i64 f.most,.int .i64 f.co.str,.bool f.co.sh,.bool f.co.back,.slice a m c]) hb1 (by simp)))
     | (go_at_call 29;refine(HWR.out _ HB.out).mono ?_;intro e w2 he2;obtain⟨fb,⟨hfb,rfl,hfo⟩,hb2⟩:=he2.no;have HB2:=zh (HB.out.trans (hb2.mono HB.out.size));have HFO:=zh hfo;have HLE:=zh (Nat.le_trans HB.out.size hfb);clear hfo hfb)
     | (go_at_call 28;refine(told_some _ _).mono ?_;rintro e w3 ⟨rfl,rfl⟩))
    go_ret
    obtain⟨x1,x2,x3,x4,x5,x6,x7,x8,x9⟩:=HFO.out
    exact⟨⟨fb,HLE.out,rfl,x1,x2,x3,x4,x5,x6,x7,Nat.le_trans x8 (by omega),x9⟩,HB2.out⟩
