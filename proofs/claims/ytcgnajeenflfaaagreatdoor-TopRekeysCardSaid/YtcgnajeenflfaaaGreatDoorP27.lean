import Derived.Test.YtcgnajeenflfaaaGreatDoorP23
import Derived.Test.YtcgnajeenflfaaaGreatDoorP26
set_option maxRecDepth 100000
set_option maxHeartbeats 4000000
set_option linter.all false
open Go.Proofs.Tryz Go.RowKit
namespace Go.Proofs.YtcgnajeenflfaaaGreatDoor
namespace V
theorem aKk {l:List Pt} {k:Nat} (h:k<l.length):cZ (l.take (k+1))=max (cZ (l.take k)) (aW l[k]):=by
 rw[List.take_succ_eq_append_getElem h,aIo]
theorem qI {l:List Pt} {p:Pt} (h:p∈l):aW p≤cZ l:=(kC l (cZ l)).1 lr p h
theorem aCi (l:List Pt) (k:Nat):cZ (l.take k)≤cZ l:=(kC _ _).2 fun _ h=>qI (List.mem_of_mem_take h)
end V
namespace Sc
open V (Same Pt VI aL bE rY oU jS bJ gN bS)
theorem f14 {w:World} {g:Nat} {t:TypeId} {v0 v1 v2 v3 v4 v5 v6 v7 v8 v9 v10 v11 v12 v13:Value} (h:aC w g t #[v0,v1,v2,v3,v4,v5,v6,v7,v8,v9,v10,v11,v12,v13]):w.cell? ⟨g,0,none⟩=some v0∧w.cell? ⟨g,1,none⟩=some v1∧w.cell? ⟨g,2,none⟩=some v2∧w.cell? ⟨g,3,none⟩=some v3∧w.cell? ⟨g,4,none⟩=some v4∧w.cell? ⟨g,5,none⟩=some v5∧w.cell? ⟨g,6,none⟩=some v6∧w.cell? ⟨g,7,none⟩=some v7∧w.cell? ⟨g,8,none⟩=some v8∧w.cell? ⟨g,9,none⟩=some v9∧w.cell? ⟨g,10,none⟩=some v10∧w.cell? ⟨g,11,none⟩=some v11∧w.cell? ⟨g,12,none⟩=some v12∧w.cell? ⟨g,13,none⟩=some v13 :=
 ⟨h.cell 0,h.cell 1,h.cell 2,h.cell 3,h.cell 4,h.cell 5,h.cell 6,h.cell 7,h.cell 8,h.cell 9,h.cell 10,h.cell 11,h.cell 12,h.cell 13⟩
theorem aKl (f:Fd) (n:Nat) (hn:n≤20) (fK:jY f) (p:Pt) (b:Option Addr) (cap:Nat) (a:Option Addr) (c:Nat) (w:World) (hmay:aL p=true) (hk:p.kind=7) (hfk:f.kind=7) (IH:∀ g∈f.fields,aBa g n)
 (hv:VI w 0 w.heap.size p (.iface 118 (.agg #[.slice b p.items.length cap]))) (hfi:FI w 0 w.heap.size f.fields (.slice a f.fields.length c)) :
 Calls prog 29 #[.agg (aR f (.slice a f.fields.length c)).toArray,.iface 118 (.agg #[.slice b p.items.length cap])] w (aS (p.items.length==f.fields.length&&kH f.fields p.items) (n+1) w):=by
 have hil:p.items.length≤1024:=by
  have h:=bE hmay;simp only [V.fB,hk,Bool.and_eq_true] at h;have h2:=h.2;simp at h2;exact h2.2
 have HWI:=zh (fun (w':World) (hb:Below w.heap.size w w')=>aOh f n hn fK p b cap a c w' hmay hk hil IH (aX hv hb) (bA hfi hb));have HW:=zh (fun w'=>jS p (.iface 118 (.agg #[.slice b p.items.length cap])) w' (by omega) hv);have t1:=bJ (.agg #[.slice b p.items.length cap]);have t2:=gN (.agg #[.slice b p.items.length cap]);have t3:=bS (.agg #[.slice b p.items.length cap]);rw[hk] at HW;obtain⟨X,hX⟩:∃ X,(p.items.length==f.fields.length&&kH f.fields p.items)=X:=⟨_,rfl⟩
 rw[hX] at HWI ⊢;obtain⟨il,aOi⟩:∃ il,p.items.length=il:=⟨_,rfl⟩
 rw[aOi] at HWI HW t1 t2 t3 ⊢;have hcf:(aR f (.slice a f.fields.length c)).toArray=#[.string f.name,.int .u8 ((7:Nat):Int),.bool f.down,.int .u8 f.aI,.bool f.bnd,.bool f.eX,.string f.eG,.bool f.hib,.string f.him,.int .i64 f.most,.int .i64 f.co.str,.bool f.co.sh,.bool f.co.back,.slice a f.fields.length c]:=by rw[← hfk];rfl
 rw[hcf] at HWI ⊢;obtain⟨nm,hnm⟩:∃ x,f.name=x:=⟨_,rfl⟩
 obtain⟨m,hm⟩:∃ m,f.fields.length=m:=⟨_,rfl⟩
 rw[hm] at HWI ⊢;clear hv hfi IH hcf fK hX hil aOi hm hfk hk hmay hnm;go_enter func29,ntmps29;go_wp2_with (go_at_call 49;refine(HW.out _).mono ?_;rintro e w1 ⟨rfl,hb1⟩;have HB:=zh ((zr.alloc lr _).trans (hb1.mono (by simp)));have nO:=zh (aC.below (aC.new w 79 #[.string f.name,.int .u8 ((7:Nat):Int),.bool f.down,.int .u8 f.aI,.bool f.bnd,.bool f.eX,.string f.eG,.bool f.hib,.string f.him,.int .i64 f.most,.int .i64 f.co.str,.bool f.co.sh,.bool f.co.back,.slice a m c]) hb1 (by simp));obtain⟨c0,c1,c2,c3,c4,c5,c6,c7,c8,c9,c10,c11,c12,c13⟩:=f14 nO.out);refine(HWI.out _ HB.out).mono ?_;intro e w2 he;cases X with
 | true =>
  obtain⟨rfl,hb2⟩:=he.yes;have HB2:=zh (HB.out.trans (hb2.mono HB.out.size));go_wp2_with fail;go_ret;exact aS.ok HB2.out
 | false =>
  obtain⟨fb,⟨hfb,rfl,hfo⟩,hb2⟩:=he.no;have HB2:=zh (HB.out.trans (hb2.mono HB.out.size));have HFO:=zh hfo;have HLE:=zh (Nat.le_trans HB.out.size hfb);clear hfo hfb;go_wp2_with fail;go_ret;exact⟨⟨fb,HLE.out,rfl,HFO.out⟩,HB2.out⟩
theorem aS.mono {X Y:Bool} {n:Nat} {w w':World} {e:Ending} (h:aS X n w e w') (hXY:X=Y):aS Y n w e w':=hXY▸h
theorem aFj (f:Fd) (n:Nat) (hn:n≤20) (fK:jY f) (hk7:f.kind≤7) (aTn:f.kind=2→iJ f.eX f.eG.toList=0∧iJ f.hib f.him.toList=0) (IH:∀ g∈f.fields,aBa g n) (a:Option Addr) (c:Nat) (p:Pt) (v:Value) (w:World) (hmay:aL p=true)
 (hv:VI w 0 w.heap.size p v) (hfi:FI w 0 w.heap.size f.fields (.slice a f.fields.length c)) :
 Calls prog 29 #[.agg (aR f (.slice a f.fields.length c)).toArray,v] w (aS (mQ f p) (n+1) w):=by
 rw[nL];have hcan:=canon (bE hmay);by_cases h0:p.kind=0
 · rw[if_pos h0];obtain rfl:=hv.mP h0;exact aNz f a _ c (n+1) w
 rw[if_neg h0];obtain⟨T,V,rfl⟩:∃ T V,v=.iface T V:=by
  obtain⟨T,V,_,h,_⟩:=hv.kindOf h0;exact⟨T,V,h⟩
 by_cases hne:p.kind≠f.kind
 · rw[show (p.kind==f.kind)=false by simpa using hne,Bool.false_and];exact aOa f a _ c (n+1) p T V w hk7 hv hne
 have he:p.kind=f.kind:=Classical.not_not.1 hne;rw[show (p.kind==f.kind)=true by simpa using he,Bool.true_and];have hv0:=hv;generalize hvv:Value.iface T V=v at hv;cases hv with
 | null _ h=>exact absurd h h0
 | truth _ h =>
  injection hvv with e1 e2
  subst e1 e2;rw[if_neg (by omega)];refine(aKj f a _ c (n+1) p _ w hk7 hv0 he).mono fun e w' h2=>h2.mono ?_
  unfold qE;rw[if_neg (by omega),h];rfl
 | whole _ h =>
  injection hvv with e1 e2
  subst e1 e2;rw[if_neg (by omega)];have h2:=aTn (by omega);refine(aTl f a _ c (n+1) p p.neg p.mag w (by omega) hv0 he (hcan.2.2.2.2.1 h) h2.1 h2.2).mono fun e w' h3=>h3.mono ?_
  unfold qE;rw[if_pos h]
 | row _ g0 g1 g2 g7 =>
  injection hvv with e1 e2
  subst e1 e2;rw[if_neg g7];have hle:=hcan.1;have hsz:p.raw.size≤65536:=by
   by_cases h4:p.kind=4
   · have:=hcan.2.2.2.2.2.1 h4;omega
   · exact hcan.2.2.2.2.2.2.1 (by omega)
  rcases (by omega:p.kind=3∨p.kind=4∨p.kind=5∨p.kind=6) with h | h | h | h
  · rw[h] at hv0 ⊢;refine(aOb f a _ c (n+1) p p.raw w (by omega) hv0 he hsz).mono fun e w' h3=>h3.mono ?_
    unfold qE;rw[h];simp
  · rw[h] at hv0 ⊢;refine(aOe f a _ c (n+1) p p.raw w (by omega) hv0 he hsz).mono fun e w' h3=>h3.mono ?_
    unfold qE;rw[h];simp
  · rw[h] at hv0 ⊢;refine(aOf f a _ c (n+1) p p.raw w (by omega) hv0 he hsz).mono fun e w' h3=>h3.mono ?_
    unfold qE;rw[h];simp
  · rw[h] at hv0 ⊢;refine(aOg f a _ c (n+1) p p.raw w (by omega) hv0 he hsz).mono fun e w' h3=>h3.mono ?_
    unfold qE;rw[h];simp
 | tuple _ h a' cap' F hc cells deep =>
  injection hvv with e1 e2
  subst e1 e2;rw[if_pos h];exact aKl f n hn fK p a' cap' a c w hmay h (by omega) IH hv0 hfi
theorem aRf {f:Fd} (h:yD f=false) (h2:f.kind=2):iJ f.eX f.eG.toList=0∧iJ f.hib f.him.toList=0:=by
 rw[aQs] at h;unfold jN at h;by_cases h1:f.kind<1∨7<f.kind∨2<f.aI
 · rw[if_pos h1] at h;cases h
 · rw[if_neg h1] at h;split at h
   · cases h
   · unfold wM at h;rw[if_pos h2] at h;unfold wJ at h;split at h
     · simp only [Bool.not_eq_false',Bool.and_eq_true,beq_iff_eq] at h;exact h.1
     · simp only [Bool.or_eq_false_iff,Bool.not_eq_false',List.isEmpty_iff] at h;obtain⟨⟨⟨a,b⟩,c⟩,d⟩:=h;simp[a,b,c,d,iJ]
theorem aFk (f:Fd):∀ d,xL d f→aBa f (16-d):=by
 induction f using Fd.ind with
 | h f ih =>
  intro d hok fK a c q v w hmay hv hfi;obtain⟨_,_,hd,_,ho,h7,_,hin⟩:=hok;have hk:=(iT ho).1;have h:=aFj f (15-d) (by omega) fK hk.2.1 (aRf ho) (fun g hg=>by have:=ih g hg (d+1) (hin g hg);rwa [show 16-(d+1)=15-d by omega] at this) a c q v w hmay hv hfi;rwa [show 15-d+1=16-d by omega] at h
open V (Same Pt VI aL bE)
def dO (ok:Bool) (w:World) (e:Ending) (w':World):Prop :=
 (if ok then e=.returned .nilIface else ∃ fb,w.heap.size≤fb∧e=.returned (.iface 39 (.pointer (some ⟨fb,0,none⟩)))∧wX w' fb 17)∧Below w.heap.size w w'
theorem dO.new {w0 w:World} {g:Nat} {c at_:Int} {why:Value} (hg:g=w.heap.size) (hb:Below w0.heap.size w0 w) (aNy:why=.nilIface∨∃ T V,why=.iface T V) :
 dO false w0 (.returned (.iface 39 (.pointer (some ⟨g,0,none⟩)))) (w.alloc (.cells #[.int .i64 c,.int .i64 at_,.slice none 0 0,why] 44)):=by
 rw[hg];exact⟨⟨w.heap.size,hb.size,rfl,c,at_,.slice none 0 0,[],why,aC.new _ _ _,aH.nil _ _,Nat.zero_le _,aNy⟩,hb.alloc hb.size _⟩
theorem dO.ok {w0 w:World} (hb:Below w0.heap.size w0 w):dO true w0 (.returned .nilIface) w:=⟨rfl,hb⟩
theorem dO.yes {w w':World} {e:Ending} (h:dO true w e w'):e=.returned .nilIface∧Below w.heap.size w w':=h
theorem dO.no {w w':World} {e:Ending} (h:dO false w e w'):∃ fb,(w.heap.size≤fb∧e=.returned (.iface 39 (.pointer (some ⟨fb,0,none⟩)))∧wX w' fb 17)∧Below w.heap.size w w':=by
 obtain⟨⟨fb,h⟩,hb⟩:=h;exact⟨fb,h,hb⟩
theorem wW.yes {w w':World} {e:Ending} (h:wW true w e w'):e=.returned .nilIface∧Below w.heap.size w w':=h
theorem wW.no {w w':World} {e:Ending} (h:wW false w e w'):(∃ fb:Nat,e=.returned (.iface 39 (.pointer (some ⟨fb,0,none⟩))))∧Below w.heap.size w w':=by
 obtain⟨⟨fb,_,_,_,_,_,h,_⟩,hb⟩:=h;exact⟨⟨fb,h⟩,hb⟩
theorem aKm (w:World):Calls prog 28 #[.pointer none] w fun e w'=>e=.returned .nilIface∧w'=w:=by
 go_enter func28,ntmps28;go_wp2_with fail;go_ret;exact⟨rfl,rfl⟩
theorem aFl (a:Addr) (w:World):Calls prog 28 #[.pointer (some a)] w fun e w'=>e=.returned (.iface 39 (.pointer (some a)))∧w'=w:=by
 go_enter func28,ntmps28;go_wp2_with fail;go_ret;exact⟨rfl,rfl⟩
def qJ (F:List Fd):Fd:=.mk ⟨#[]⟩ 7 false 0 false false ⟨#[]⟩ false ⟨#[]⟩ 0 ⟨0,false,false⟩ F
theorem bDb (F:List Fd) (p:Pt):mQ (qJ F) p=aEa F p:=by
 rw[nL];unfold aEa qJ;simp only [Fd.aI,Fd.kind,Fd.fields];by_cases h0:p.kind=0
 · rw[if_pos h0,h0];rfl
 · rw[if_neg h0];by_cases h7:p.kind=7
   · rw[if_pos h7,h7];simp
   · rw[show (p.kind==7)=false by simpa using h7];simp
theorem aKn {F:List Fd} (h:F.length≤140737488351232):jY (qJ F):=by
 constructor<;>simp[qJ,Fd.name,Fd.kind,Fd.aI,Fd.eG,Fd.him,Fd.most,Fd.co,Fd.fields,D.aF]<;>first | exact h | decide | skip
theorem aHn (lim:Int) (F:List Fd) (a:Option Addr) (c:Nat) (p:Pt) (v:Value) (w:World) (hl:F.length≤140737488351232) (hmay:aL p=true) (hv:VI w 0 w.heap.size p v) (hfi:FI w 0 w.heap.size F (.slice a F.length c)) :
 Calls prog 10 #[.agg #[.int .i64 lim,.slice a F.length c],v] w (dO (rT lim F&&aEa F p) w):=by
 have hvs:v=.nilIface∨∃ T V,v=.iface T V:=by
  by_cases h0:p.kind=0
  · exact .inl (hv.mP h0)
  · obtain⟨T,V,_,h,_⟩:=hv.kindOf h0;exact .inr ⟨T,V,h⟩
 have HS:=zh (fun o=>qH lim F a c (w.alloc o) hl (bA hfi (zr.alloc lr o)));cases hok:rT lim F with
 | false =>
  rw[hok] at HS;rw[Bool.false_and];obtain⟨m,hm⟩:∃ m,F.length=m:=⟨_,rfl⟩
  rw[hm] at HS ⊢;clear hv hfi hok hl hmay hm;rcases hvs with rfl | ⟨T,V,rfl⟩
  all_goals
   go_enter func10,ntmps10;go_wp2_with (go_at_call 27;refine(HS.out _).mono ?_;intro e w1 he;obtain⟨⟨fb,rfl⟩,hb1⟩:=he.no;have HB:=zh ((zr.alloc lr _).trans (hb1.mono (by simp))));go_ret;exact dO.new rfl HB.out (.inr ⟨_,_,rfl⟩)
 | true =>
  rw[Bool.true_and,← bDb];rw[hok] at HS;obtain⟨_,_,_,_,ho⟩:=lQ hok;have HWR:=zh (show ∀ w':World,Below w.heap.size w w'→Calls prog 29 #[.agg #[.string ⟨#[]⟩,.int .u8 7,.bool false,.int .u8 0,.bool false,.bool false,.string ⟨#[]⟩,.bool false,.string ⟨#[]⟩,.int .i64 0,.int .i64 0,.bool false,.bool false,.slice a F.length c],v] w' (aS (mQ (qJ F) p) 17 w') from fun w' hb =>
   aFj (qJ F) 16 (by omega) (aKn hl) (Nat.le_refl 7) (fun h=>by cases h) (fun g hg=>aFk g 0 (ho g hg)) a c p v w' hmay (aX hv hb) (bA hfi hb))
  obtain⟨X,hX⟩:∃ X,mQ (qJ F) p=X:=⟨_,rfl⟩
  rw[hX] at HWR ⊢;obtain⟨m,hm⟩:∃ m,F.length=m:=⟨_,rfl⟩
  rw[hm] at HS HWR ⊢;clear hv hfi hok hl hmay hm ho hX;rcases hvs with rfl | ⟨T,V,rfl⟩
  all_goals
   cases X with
   | true =>
    go_enter func10,ntmps10;go_wp2_with (first
     | (go_at_call 27;refine(HS.out _).mono ?_;intro e w1 he;obtain⟨rfl,hb1⟩:=he.yes;have HB:=zh ((zr.alloc lr _).trans (hb1.mono (by simp)));have HBX:=zh (aC.below (aC.new w 26 #[.int .i64 lim,.slice a m c]) hb1 (by simp));have c1:=HBX.out.cell 1;simp at c1)
     | (go_at_call 29;refine(HWR.out _ HB.out).mono ?_;intro e w2 he2;obtain⟨rfl,hb2⟩:=he2.yes;have HB2:=zh (HB.out.trans (hb2.mono HB.out.size)))
     | (go_at_call 28;refine(aKm _).mono ?_;rintro e w3 ⟨rfl,rfl⟩))
    go_ret;exact dO.ok HB2.out
   | false =>
    go_enter func10,ntmps10;go_wp2_with (first
     | (go_at_call 27;refine(HS.out _).mono ?_;intro e w1 he;obtain⟨rfl,hb1⟩:=he.yes;have HB:=zh ((zr.alloc lr _).trans (hb1.mono (by simp)));have HBX:=zh (aC.below (aC.new w 26 #[.int .i64 lim,.slice a m c]) hb1 (by simp));have c1:=HBX.out.cell 1;simp at c1)
     | (go_at_call 29;refine(HWR.out _ HB.out).mono ?_;intro e w2 he2;obtain⟨fb,⟨hfb,rfl,hfo⟩,hb2⟩:=he2.no;have HB2:=zh (HB.out.trans (hb2.mono HB.out.size));have HFO:=zh hfo;have HLE:=zh (Nat.le_trans HB.out.size hfb);clear hfo hfb)
     | (go_at_call 28;refine(aFl _ _).mono ?_;rintro e w3 ⟨rfl,rfl⟩))
    go_ret;exact⟨⟨fb,HLE.out,rfl,HFO.out⟩,HB2.out⟩
