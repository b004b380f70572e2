import Derived.Test.YtcgnajeenflfaaaGreatDoorP22
set_option maxRecDepth 100000
set_option maxHeartbeats 4000000
set_option linter.all false
open Go.Proofs.Tryz Go.RowKit
namespace Go.Proofs.YtcgnajeenflfaaaGreatDoor
namespace Sc
open V (Same)
theorem aKi (p:Addr) (w:World) :
 CallsD prog 78 #[.pointer (some p)] .returning w fun e u' w'=>e=.returned (.tuple #[])∧u'=.returning∧w'=w:=by
 refine callsD_of_wpS func78 rfl fun c₀ cs hu=>?_
 apply wpS_seq;apply wpS_region;simp[wpOpsS,go_sem,recoverD,hu,ntmps78,Exit.thenS];rw[show Array.replicate 13 undef=#[undef,undef,undef,undef,undef,undef,undef,undef,undef,undef,undef,undef,undef] from rfl];simp;refine wpS_of_wp (Code.wp_mono (fun e a' w' (h:Ends (fun w'=>w'=w) e a' w')=>?_) ?_)
 · obtain⟨rfl,hd,rfl⟩:=h;simp[bodyPostS,results,Tryz.results78,hd];cases c₀;simp_all
 have hneq:∀ w:World,(binOp BinOp.neq 20 .nilIface .nilIface).run prog w=.ok (.bool false) w:=fun _=>by kernel_rfl
 go_wp2_with fail;exact⟨rfl,rfl,rfl⟩
theorem aNx (g:Nat) (x z:Int) (pa pb:Option Addr) (pn pk bn bk:Nat) (w:World) (hb:aC w g 126 #[.int .i64 z,.slice pb bn bk]) :
 CallsD prog 78 #[.pointer (some ⟨g,0,none⟩)] (.panicking [{ v:=.iface 126 (.agg #[.int .i64 x,.slice pa pn pk]),recovered:=false }]) w fun e u' w' =>
  e=.returned (.tuple #[])∧u'=.panicking [{ v:=.iface 126 (.agg #[.int .i64 x,.slice pa pn pk]),recovered:=true }]∧aC w' g 126 #[.int .i64 x,.slice pa pn pk]∧Below g w w':=by
 have c0:=hb.cell 0;have c1:=hb.cell 1;have z0:=hb.frozen 0;have z1:=hb.frozen 1;have HB:=zh hb;have hg:=hb.lt;clear hb;simp at c0 c1;refine callsD_of_wpS func78 rfl fun c₀ cs hu=>?_
 apply wpS_seq;apply wpS_region;simp[wpOpsS,go_sem,recoverD,hu,ntmps78,Exit.thenS];rw[show Array.replicate 13 undef=#[undef,undef,undef,undef,undef,undef,undef,undef,undef,undef,undef,undef,undef] from rfl];simp;refine wpS_of_wp (Code.wp_mono (fun e a' w' (h:Ends (fun w'=>aC w' g 126 #[.int .i64 x,.slice pa pn pk]∧Below g w w') e a' w')=>?_) ?_)
 · obtain⟨rfl,hd,h⟩:=h;simp[bodyPostS,results,Tryz.results78,hd,h]
 have hneq:∀ w:World,(binOp BinOp.neq 20 (.iface 126 (.agg #[.int .i64 x,.slice pa pn pk])) .nilIface).run prog w=.ok (.bool true) w:=fun _=>by kernel_rfl
 have hta:∀ (v:Value) (w:World),(Instr.typeAssert (.iface 126 v) 20 126 true).run prog w=.ok (.tuple #[v,.bool true]) w:=fun _ _=>by kernel_rfl
 have hnot:∀ (x:Bool) (w:World),(Op.unary .not (.bool x)).run prog w=.ok (.bool (!x)) w:=fun _ _=>rfl
 go_wp2_with fail;refine⟨rfl,rfl,by simpa using (HB.out.aU 0 (.int .i64 x)).aU 1 (.slice pa pn pk),((Below.refl g w).setCell (Nat.le_refl g) _).setCell (Nat.le_refl g) _⟩
def yY (ok:Bool) (w:World) (e:Ending) (w':World):Prop:=∃ c a n k,e=.returned (.agg #[.int .i64 c,.slice a n k])∧(c=0↔ok=true)∧Below w.heap.size w w'
theorem aHk (w:World) (tmps:Array Value) {w1:World} (h2:tmps.getD 2 undef=.pointer (some ⟨w.heap.size+1,0,none⟩)) (hb:aC w1 (w.heap.size+1) 126 #[.int .i64 0,.slice none 0 0]) (hB:Below w.heap.size w w1) :
 Leaves prog Tryz.f48 tmps (yY true w) [{ target:=.fn (.func 78) #[.pointer (some ⟨w.heap.size+1,0,none⟩)],args:=#[] }] .returning w1:=by
 have d0:=hb.cell 0;have d1:=hb.cell 1;simp at d0 d1;refine leaves_cons (f:=78) (args:=#[.pointer (some ⟨w.heap.size+1,0,none⟩)]) (by simp) (by simp[go_sem]) ?_;refine(aKi _ w1).mono ?_;rintro e u' w2 ⟨rfl,rfl,rfl⟩;refine⟨.agg #[.int .i64 0,.slice none 0 0],?_,⟨0,none,0,0,rfl,by simp,hB⟩⟩;simp only [Array.getD_eq_getD_getElem?] at h2;simp[results,Tryz.results48,go_sem,h2,d0,d1]
theorem nP (w:World) (tmps:Array Value) {w1:World} {c:Int} {pa:Option Addr} {pn pk:Nat} (hc:c≠0) (h2:tmps.getD 2 undef=.pointer (some ⟨w.heap.size+1,0,none⟩)) (hb:aC w1 (w.heap.size+1) 126 #[.int .i64 0,.slice none 0 0]) (hB:Below w.heap.size w w1) :
 Leaves prog Tryz.f48 tmps (yY false w) [{ target:=.fn (.func 78) #[.pointer (some ⟨w.heap.size+1,0,none⟩)],args:=#[] }] (.panicking [{ v:=.iface 126 (.agg #[.int .i64 c,.slice pa pn pk]),recovered:=false }]) w1:=by
 refine leaves_cons (f:=78) (args:=#[.pointer (some ⟨w.heap.size+1,0,none⟩)]) (by simp) (by simp[go_sem]) ?_;refine(aNx (w.heap.size+1) c 0 pa none pn pk 0 0 w1 hb).mono ?_;rintro e u' w2 ⟨rfl,rfl,hb2,hB2⟩;have d0:=hb2.cell 0;have d1:=hb2.cell 1;simp at d0 d1;refine⟨.agg #[.int .i64 c,.slice pa pn pk],?_,⟨c,pa,pn,pk,rfl,by simpa using hc,hB.trans (hB2.mono (Nat.le_succ _))⟩⟩;simp only [Array.getD_eq_getD_getElem?] at h2;simp[results,Tryz.results48,go_sem,h2,d0,d1]
theorem dY (lim:Int) (l:List Fd) (a:Option Addr) (c:Nat) (w:World) (hl:l.length≤140737488351232) (hfi:FI w 0 w.heap.size l (.slice a l.length c)) :
 Calls prog 48 #[.agg #[.int .i64 lim,.slice a l.length c]] w (yY (rT lim l) w):=by
 obtain⟨X,hX⟩:∃ X,rT lim l=X:=⟨_,rfl⟩
 rw[hX];have hmf:∀ (fn:Fn) (first cap:Array Value) (w:World),(Instr.makeFunc fn first cap).run prog w=.ok (.func fn first cap) w:=fun _ _ _ _=>rfl
 unfold rT at hX;have HX:=zh hX;have HB0:=zh (show ∀ o,aC ((w.alloc o).alloc (.cells #[.int .i64 0,.slice none 0 0] 126)) (w.heap.size+1) 126 #[.int .i64 0,.slice none 0 0] from fun o=>by
  have:=aC.new (w.alloc o) 126 #[.int .i64 0,.slice none 0 0];rwa [World.size_alloc] at this)
 have bDa:=zh (show ∀ o1 o2,Below w.heap.size w ((w.alloc o1).alloc o2) from fun o1 o2=>(zr.alloc lr _).alloc (by simp) _);have uK:=zh (show ∀ o1 o2 o3,FI (((w.alloc o1).alloc o2).alloc o3) 0 w.heap.size l (.slice a l.length c) from fun o1 o2 o3=>hfi.same (Same.of_below (((zr.alloc lr _).alloc (by simp) _).alloc (by simp;omega) _) lr));clear hX hfi;go_enter_defers func48,ntmps48
 by_cases h1:lim<1
 · have q1:decide (lim<1)=true:=decide_eq_true h1;go_wp2_with fail;rw[← HX.out,decide_eq_false (show ¬ (1≤lim∧lim≤65536) by omega)];exact nP w _ (by decide) rfl (HB0.out _) (bDa.out _ _)
 have q1:decide (lim<1)=false:=decide_eq_false h1;by_cases h2:65536<lim
 · have q2:decide (65536<lim)=true:=decide_eq_true h2;go_wp2_with fail;rw[← HX.out,decide_eq_false (show ¬ (1≤lim∧lim≤65536) by omega)];exact nP w _ (by decide) rfl (HB0.out _) (bDa.out _ _)
 have q2:decide (65536<lim)=false:=decide_eq_false h2;have hlim:decide (1≤lim∧lim≤65536)=true:=decide_eq_true (by omega);cases l with
 | nil =>
  go_wp2_with fail;rw[← HX.out,hlim];exact nP w _ (by decide) rfl (HB0.out _) (bDa.out _ _)
 | cons f r =>
  obtain⟨m,hm⟩:∃ m,(f::r).length=m:=⟨_,rfl⟩
  have q3:((m:Int)==0)=false:=by simp;rw[← hm];simp
  have HM:=zh hm;have HL:=zh hl;rw[hm] at uK ⊢;clear hm hl;go_wp2_with fail;obtain⟨W0,hW0⟩:∃ W0,W0=(w.alloc (.cells #[.int .i64 lim,.slice a m c] 26)).alloc (.cells #[.int .i64 0,.slice none 0 0] 126):=⟨_,rfl⟩
  have hz0:W0.heap.size=w.heap.size+2:=by rw[hW0];simp
  have hB0:aC W0 (w.heap.size+1) 126 #[.int .i64 0,.slice none 0 0]:=by rw[hW0];exact HB0.out _
  have hBe:Below w.heap.size w W0:=by rw[hW0];exact bDa.out _ _
  have hF0:FI (W0.alloc (.cells #[.int .i64 0] 3)) 0 w.heap.size (f::r) (.slice a (f::r).length c):=by rw[hW0,HM.out];exact uK.out _ _ _
  have hN0:aC (W0.alloc (.cells #[.int .i64 0] 3)) (w.heap.size+1+1) 3 #[.int .i64 ((0:Nat):Int)]:=by
   have:=aC.new W0 3 #[.int .i64 0];rwa [hz0] at this
  rw[← hW0];have hwk:=aYn (f::r) HL.out a c (.slice none 0 0) [] (w.heap.size+1+1) 0 w.heap.size (W0.alloc (.cells #[.int .i64 0] 3)) (by omega) (by simp) (by omega) (by simp;omega) hF0 hN0 (aH.nil _ _);obtain⟨Z,hZ⟩:∃ Z,iF 0 0 [] (f::r)=Z:=⟨_,rfl⟩
  rw[show iF 0 ([]:List Int).length [] (f::r)=Z from hZ,HM.out] at hwk;have hX2:=HX.out;rw[hlim,show iF 0 0 [] (f::r)=Z from hZ] at hX2;clear hW0;refine hwk.mono ?_;rintro e w9 ⟨he,wB⟩;have aB:Below (w.heap.size+2) (W0.alloc (.cells #[.int .i64 0] 3)) w9:=wB.below (fun k h e=>by omega) (by simp;omega);have hbw:Below (w.heap.size+2) W0 w9:=((Below.refl _ W0).alloc (by omega) _).trans aB;have uJ:aC w9 (w.heap.size+1) 126 #[.int .i64 0,.slice none 0 0]:=aC.below hB0 hbw (by omega);have bGr:Below w.heap.size w w9:=hBe.trans (hbw.mono (by omega));cases Z with
  | none =>
   obtain⟨cc,ca,cn,ck,hcc,rfl⟩:=he;unfold aCa;rw[← hX2];exact nP w _ hcc rfl uJ bGr
  | some q =>
   obtain⟨rfl,_⟩:=he;have d0:=uJ.cell 0;have d1:=uJ.cell 1;have z0:=uJ.frozen 0;have z1:=uJ.frozen 1;have HBQ:=zh uJ;have HEQ:=zh bGr;simp at d0 d1;clear uJ bGr hbw aB wB hwk hB0 hBe hF0 hN0;go_wp2_with fail;rw[show X=true by rw[← hX2];rfl];exact aHk w _ rfl (by simpa using (HBQ.out.aU 0 (.int .i64 0)).aU 1 (.slice none 0 0)) ((HEQ.out.setCell (Nat.le_succ w.heap.size) _).setCell (Nat.le_succ w.heap.size) _)
def wW (ok:Bool) (w:World) (e:Ending) (w':World):Prop :=
 (if ok then e=.returned .nilIface else ∃ fb c a n k,w.heap.size≤fb∧e=.returned (.iface 39 (.pointer (some ⟨fb,0,none⟩)))∧c≠0∧aC w' fb 44 #[.int .i64 c,.int .i64 0,.slice a n k,.nilIface])∧Below w.heap.size w w'
theorem qH (lim:Int) (l:List Fd) (a:Option Addr) (c:Nat) (w:World) (hl:l.length≤140737488351232) (hfi:FI w 0 w.heap.size l (.slice a l.length c)) :
 Calls prog 27 #[.agg #[.int .i64 lim,.slice a l.length c]] w (wW (rT lim l) w):=by
 have h1:∀ o,FI (w.alloc o) 0 (w.alloc o).heap.size l (.slice a l.length c):=fun o=>(hfi.same (Same.of_below (zr.alloc lr o) lr)).wide lr (by simp)
 have H1:=zh (fun o=>dY lim l a c (w.alloc o) hl (h1 o));obtain⟨m,hm⟩:∃ m,l.length=m:=⟨_,rfl⟩
 rw[hm] at H1 ⊢;clear h1 hfi;obtain⟨X,hX⟩:∃ X,rT lim l=X:=⟨_,rfl⟩
 rw[hX] at H1 ⊢;clear hX;cases X with
 | true =>
  go_enter func27,ntmps27;go_wp2_with (go_at_call 48;refine(H1.out _).mono ?_;rintro e w1 ⟨x,pa,pn,pk,rfl,hx,hb1⟩;have HB:=zh ((zr.alloc lr _).trans (hb1.mono (by simp)));have hz:=hb1.size;obtain rfl:=hx.2 rfl);go_ret;exact⟨rfl,HB.out.alloc HB.out.size _⟩
 | false =>
  go_enter func27,ntmps27;go_wp2_with (go_at_call 48;refine(H1.out _).mono ?_;rintro e w1 ⟨x,pa,pn,pk,rfl,hx,hb1⟩;have HB:=zh ((zr.alloc lr _).trans (hb1.mono (by simp)));have hz:=hb1.size;have hx0:x≠0:=(fun e=>by have:=hx.1 e;cases this);have q:(x != 0)=true:=(by simpa using hx0);have HX0:=zh hx0;clear hx0 hx);go_ret;have hs:=HB.out.size;refine⟨⟨_,x,pa,pn,pk,?_,rfl,HX0.out,?_⟩,(HB.out.alloc hs _).alloc (by simp;omega) _⟩
  · omega
  · have:=aC.new (w1.alloc (.cells #[.int .i64 x,.slice pa pn pk] 126)) 44 #[.int .i64 x,.int .i64 0,.slice pa pn pk,.nilIface];rwa [World.size_alloc] at this
open V (Same Pt VI aL rY oU jS fT dX cK bJ iK uQ fE gN fU gY dV bS jE fA fV oN)
def wX (w:World) (fb n:Nat):Prop:=∃ c at_ pv lp why,aC w fb 44 #[.int .i64 c,.int .i64 at_,pv,why]∧aH w (· = fb) pv lp∧lp.length≤n∧(why=.nilIface∨∃ T V,why=.iface T V)
def aS (ok:Bool) (n:Nat) (w:World) (e:Ending) (w':World):Prop :=
 (if ok then e=.returned (.pointer none) else ∃ fb,w.heap.size≤fb∧e=.returned (.pointer (some ⟨fb,0,none⟩))∧wX w' fb n)∧Below w.heap.size w w'
theorem aS.new {w0 w:World} {n g:Nat} {c at_:Int} {why:Value} (hg:g=w.heap.size) (hb:Below w0.heap.size w0 w) (aNy:why=.nilIface∨∃ T V,why=.iface T V) :
 aS false n w0 (.returned (.pointer (some ⟨g,0,none⟩))) (w.alloc (.cells #[.int .i64 c,.int .i64 at_,.slice none 0 0,why] 44)):=by
 rw[hg];exact⟨⟨w.heap.size,hb.size,rfl,c,at_,.slice none 0 0,[],why,aC.new _ _ _,aH.nil _ _,Nat.zero_le _,aNy⟩,hb.alloc hb.size _⟩
theorem aS.ok {w0 w:World} {n:Nat} (hb:Below w0.heap.size w0 w):aS true n w0 (.returned (.pointer none)) w:=⟨rfl,hb⟩
theorem aNz (f:Fd) (a:Option Addr) (k c n:Nat) (w:World):Calls prog 29 #[.agg (aR f (.slice a k c)).toArray,.nilIface] w (aS (!(f.aI==0)) n w):=by
 obtain⟨nm,kd,dn,nu,bd,lb,lm,hb,hm,mo,⟨st,sh,bk⟩,fs⟩:=f;rw[dN];simp only [Fd.aI];by_cases h0:nu=0
 · have q1:((nu:Int)==0)=true:=by simpa using h0
   rw[show (nu==0)=true by simpa using h0];clear h0;go_enter func29,ntmps29;go_wp2_with fail;go_ret;exact aS.new (by simp) (zr.alloc lr _) (.inl rfl)
 · have q1:((nu:Int)==0)=false:=by simpa using h0
   rw[show (nu==0)=false by simpa using h0];clear h0;go_enter func29,ntmps29;go_wp2_with fail;go_ret;exact aS.ok (zr.alloc lr _)
theorem aOa (f:Fd) (a:Option Addr) (k c n:Nat) (p:Pt) (T:TypeId) (V:Value) (w:World) {W:World} {lo hi:Nat} (hk:f.kind≤7) (hv:VI W lo hi p (.iface T V)) (hne:p.kind≠f.kind) :
 Calls prog 29 #[.agg (aR f (.slice a k c)).toArray,.iface T V] w (aS false n w):=by
 have HW:=zh (fun w=>oU p (.iface T V) f.kind w hk hv hne);obtain⟨nm,kd,dn,nu,bd,lb,lm,hb,hm,mo,⟨st,sh,bk⟩,fs⟩:=f;rw[dN];simp only [Fd.kind] at HW;clear hv hne hk;go_enter func29,ntmps29;go_wp2_with (go_at_call 49;refine(HW.out _).mono ?_;rintro e w1 ⟨fb,hfb,rfl,hbl,hb1⟩;have HB:=zh ((zr.alloc lr _).trans (hb1.mono (by simp))));go_ret;exact aS.new rfl HB.out (.inr ⟨_,_,rfl⟩)
theorem aKj (f:Fd) (a:Option Addr) (k c n:Nat) (p:Pt) (V:Value) (w:World) {W:World} {lo hi:Nat} (hk:f.kind≤7) (hv:VI W lo hi p (.iface 148 V)) (he:p.kind=f.kind) :
 Calls prog 29 #[.agg (aR f (.slice a k c)).toArray,.iface 148 V] w (aS true n w):=by
 have HW:=zh (fun w=>jS p (.iface 148 V) w (by omega) hv);have t1:=fT V;have t2:=iK V;have t3:=fU V;rw[he] at HW;obtain⟨nm,kd,dn,nu,bd,lb,lm,hb,hm,mo,⟨st,sh,bk⟩,fs⟩:=f;rw[dN];simp only [Fd.kind] at HW;clear hv he hk;go_enter func29,ntmps29;go_wp2_with (go_at_call 49;refine(HW.out _).mono ?_;rintro e w1 ⟨rfl,hb1⟩;have HB:=zh ((zr.alloc lr _).trans (hb1.mono (by simp))));go_ret;exact aS.ok HB.out
theorem aTl (f:Fd) (a:Option Addr) (k c n:Nat) (p:Pt) (b:Bool) (m:ByteArray) (w:World) {W:World} {lo hi:Nat} (hf:f.kind=2) (hv:VI W lo hi p (.iface 220 (.agg #[.bool b,.string m]))) (he:p.kind=f.kind)
 (hb:iJ b m.toList=0) (hlo:iJ f.eX f.eG.toList=0) (hhi:iJ f.hib f.him.toList=0) :
 Calls prog 29 #[.agg (aR f (.slice a k c)).toArray,.iface 220 (.agg #[.bool b,.string m])] w (aS (rX f b m.toList) n w):=by
 have HW:=zh (fun w=>jS p (.iface 220 (.agg #[.bool b,.string m])) w (by omega) hv);have t1:=dX (.agg #[.bool b,.string m]);have t3:=gY (.agg #[.bool b,.string m]);obtain⟨X,hX⟩:∃ X,rX f b m.toList=X:=⟨_,rfl⟩
 rw[hX];unfold rX at hX;rw[he] at HW;obtain⟨nm,kd,dn,nu,bd,lb,lm,hib,hm,mo,⟨st,sh,bk⟩,fs⟩:=f;rw[dN];replace hX:(!bd || (decide (0≤wE b m.toList lb lm.toList)&&decide (wE b m.toList hib hm.toList≤0)))=X:=hX;simp only [Fd.kind,Fd.eX,Fd.eG,Fd.hib,Fd.him] at HW hlo hhi hf;subst hf;obtain⟨r1,hr1⟩:∃ r,wE b m.toList lb lm.toList=r:=⟨_,rfl⟩
 obtain⟨r2,hr2⟩:∃ r,wE b m.toList hib hm.toList=r:=⟨_,rfl⟩
 rw[hr1,hr2] at hX;have HX:=zh hX;have H1:=zh (fun w=>mU b m lb lm w hb hlo r1 hr1);have H2:=zh (fun w=>mU b m hib hm w hb hhi r2 hr2);clear hv he hX hr1 hr2 hb hlo hhi;have m1:∀ w:World,(method 512 220 (.agg #[.bool b,.string m]) "Num").run prog w=.ok (301,.agg #[.bool b,.string m]) w:=fun _=>by kernel_rfl
 go_enter func29,ntmps29;go_wp2_with (go_at_call 49;refine(HW.out _).mono ?_;rintro e w1 ⟨rfl,hb1⟩;have HB:=zh ((zr.alloc lr _).trans (hb1.mono (by simp)));have nO:=zh (aC.below (aC.new w 79 #[.string nm,.int .u8 2,.bool dn,.int .u8 nu,.bool bd,.bool lb,.string lm,.bool hib,.string hm,.int .i64 mo,.int .i64 st,.bool sh,.bool bk,.slice a k c]) hb1 (by simp)));have c4:w1.cell? ⟨w.heap.size,4,none⟩=some (.bool bd):=nO.out.cell 4;have c5:w1.cell? ⟨w.heap.size,5,none⟩=some (.bool lb):=nO.out.cell 5;have c6:w1.cell? ⟨w.heap.size,6,none⟩=some (.string lm):=nO.out.cell 6;have c7:w1.cell? ⟨w.heap.size,7,none⟩=some (.bool hib):=nO.out.cell 7;have c8:w1.cell? ⟨w.heap.size,8,none⟩=some (.string hm):=nO.out.cell 8;have hbd:Below w1.heap.size w1 w1.drew:=(Below.refl w1.heap.size w1).drew;go_region_held3 (fun w'=>w'.cell? ⟨w.heap.size,4,none⟩=some (.bool bd)∧w'.cell? ⟨w.heap.size,5,none⟩=some (.bool lb)∧w'.cell? ⟨w.heap.size,6,none⟩=some (.string lm)∧w'.cell? ⟨w.heap.size,7,none⟩=some (.bool hib)∧w'.cell? ⟨w.heap.size,8,none⟩=some (.string hm)∧Below w1.heap.size w1 w') (go_keep) (first
  | (go_at_call 301;refine(jE b m _).mono ?_;rintro e w9 ⟨rfl,aB⟩;have k4:=V.keeps aB (p:=⟨w.heap.size,4,none⟩) (v:=.bool bd) (by assumption);have k5:=V.keeps aB (p:=⟨w.heap.size,5,none⟩) (v:=.bool lb) (by assumption);have k6:=V.keeps aB (p:=⟨w.heap.size,6,none⟩) (v:=.string lm) (by assumption);have k7:=V.keeps aB (p:=⟨w.heap.size,7,none⟩) (v:=.bool hib) (by assumption);have k8:=V.keeps aB (p:=⟨w.heap.size,8,none⟩) (v:=.string hm) (by assumption);have kb:=V.two (a:=_) (by assumption) aB)
  | (go_at_call 50;refine(H1.out _).mono ?_;rintro e w9 ⟨rfl,aB⟩;have k4:=V.keeps aB (p:=⟨w.heap.size,4,none⟩) (v:=.bool bd) (by assumption);have k5:=V.keeps aB (p:=⟨w.heap.size,5,none⟩) (v:=.bool lb) (by assumption);have k6:=V.keeps aB (p:=⟨w.heap.size,6,none⟩) (v:=.string lm) (by assumption);have k7:=V.keeps aB (p:=⟨w.heap.size,7,none⟩) (v:=.bool hib) (by assumption);have k8:=V.keeps aB (p:=⟨w.heap.size,8,none⟩) (v:=.string hm) (by assumption);have kb:=V.two (a:=_) (by assumption) aB))
 have HB2:=zh (HB.out.trans (kb.mono HB.out.size));have hbe:Below w9.heap.size w9 w9.drew:=(Below.refl w9.heap.size w9).drew;obtain⟨w2,hw2⟩:∃ w2,w2=w9:=⟨_,rfl⟩
 rw[← hw2] at k4 k5 k6 k7 k8 HB2 hbe ⊢;clear kb hbd hw2 nO c4 c5 c6 c7 c8;go_wp2_with fail;go_region_held3 (fun w'=>w'.cell? ⟨w.heap.size,4,none⟩=some (.bool bd)∧w'.cell? ⟨w.heap.size,5,none⟩=some (.bool lb)∧w'.cell? ⟨w.heap.size,6,none⟩=some (.string lm)∧w'.cell? ⟨w.heap.size,7,none⟩=some (.bool hib)∧w'.cell? ⟨w.heap.size,8,none⟩=some (.string hm)∧Below w2.heap.size w2 w') (go_keep) (first
  | (go_at_call 301;refine(jE b m _).mono ?_;rintro e w9 ⟨rfl,aB⟩;have k4:=V.keeps aB (p:=⟨w.heap.size,4,none⟩) (v:=.bool bd) (by assumption);have k5:=V.keeps aB (p:=⟨w.heap.size,5,none⟩) (v:=.bool lb) (by assumption);have k6:=V.keeps aB (p:=⟨w.heap.size,6,none⟩) (v:=.string lm) (by assumption);have k7:=V.keeps aB (p:=⟨w.heap.size,7,none⟩) (v:=.bool hib) (by assumption);have k8:=V.keeps aB (p:=⟨w.heap.size,8,none⟩) (v:=.string hm) (by assumption);have kb:=V.two (a:=_) (by assumption) aB)
  | (go_at_call 50;refine(H2.out _).mono ?_;rintro e w9 ⟨rfl,aB⟩;have k4:=V.keeps aB (p:=⟨w.heap.size,4,none⟩) (v:=.bool bd) (by assumption);have k5:=V.keeps aB (p:=⟨w.heap.size,5,none⟩) (v:=.bool lb) (by assumption);have k6:=V.keeps aB (p:=⟨w.heap.size,6,none⟩) (v:=.string lm) (by assumption);have k7:=V.keeps aB (p:=⟨w.heap.size,7,none⟩) (v:=.bool hib) (by assumption);have k8:=V.keeps aB (p:=⟨w.heap.size,8,none⟩) (v:=.string hm) (by assumption);have kb:=V.two (a:=_) (by assumption) aB))
 have HB9:=zh (HB2.out.trans (kb.mono HB2.out.size));have d4:w9.cell? ⟨w.heap.size,4,none⟩=some (.bool bd):=by assumption
 clear kb hbe;cases bd with
 | false =>
  go_wp2_with fail;go_ret;rw[show X=true by rw[← HX.out];rfl];exact aS.ok HB9.out
 | true =>
  by_cases g1:r1<0
  · have e1:decide (r1<0)=true:=decide_eq_true g1;have G1:=zh (show decide (0≤r1)=false from decide_eq_false (by omega));clear g1;go_wp2_with fail;go_ret;rw[show X=false by rw[← HX.out,G1.out];rfl];exact aS.new rfl HB9.out (.inl rfl)
  · have e1:decide (r1<0)=false:=decide_eq_false g1;have G1:=zh (show decide (0≤r1)=true from decide_eq_true (by omega));clear g1;by_cases g2:0<r2
    · have e2:decide (0<r2)=true:=decide_eq_true g2;have G2:=zh (show decide (r2≤0)=false from decide_eq_false (by omega));clear g2;go_wp2_with fail;go_ret;rw[show X=false by rw[← HX.out,G1.out,G2.out];rfl];exact aS.new rfl HB9.out (.inl rfl)
    · have e2:decide (0<r2)=false:=decide_eq_false g2;have G2:=zh (show decide (r2≤0)=true from decide_eq_true (by omega));clear g2;go_wp2_with fail;go_ret;rw[show X=true by rw[← HX.out,G1.out,G2.out];rfl];exact aS.ok HB9.out
open V (Pt aL bE)
open We (Co)
mutual
def cntF:Fd→Nat
 | .mk _ _ _ _ _ _ _ _ _ _ _ l=>1+uL l
def uL:List Fd→Nat
 | []=>0
 | f::r=>cntF f+uL r
end
theorem aHl (f:Fd):cntF f=1+uL f.fields:=by cases f;rw[cntF];rfl
theorem aYo:uL []=0:=by rw[uL]
theorem yZ (f:Fd) (r:List Fd):uL (f::r)=cntF f+uL r:=by rw[uL]
theorem aCf {f:Fd}:∀ {l:List Fd},f∈l→cntF f≤uL l:=by
 intro l;induction l with
 | nil=>intro h;cases h
 | cons g r ih =>
  intro h;rw[yZ];rcases List.mem_cons.1 h with rfl | h
  · omega
  · have:=ih h;omega
mutual
theorem aTm (d:Nat):∀ (f:Fd) (n m:Nat) (a:List Fd),oO n d a f=some m→m=n+cntF f
 | .mk an k e u b lb lm hb hm mo c l=>fun n m a h=>by
  rw[wK] at h;split at h
  · have:=zA (d+1) l (n+1) m [] h;rw[aHl];show m=n+(1+uL l)
    omega
  · cases h
theorem zA (d:Nat):∀ (l:List Fd) (n m:Nat) (a:List Fd),iF n d a l=some m→m=n+uL l
 | []=>fun n m a h=>by
  rw[oP] at h;injection h with h
  rw[aYo];omega
 | f::r=>fun n m a h=>by
  rw[kG] at h;cases hf:oO n d a f with
  | none=>rw[hf] at h;cases h
  | some k =>
   rw[hf] at h;have h1:=aTm d f n k a hf;have h2:=zA d r k m (a++[f]) h;rw[yZ];omega
end
theorem aRe {limit:Int} {l:List Fd} (h:rT limit l=true):uL l≤64:=by
 simp only [rT,Bool.and_eq_true,Option.isSome_iff_exists,decide_eq_true_eq] at h;obtain⟨_,m,hm⟩:=h;have h1:=zA 0 l 0 m [] hm;have h2:=(rU 0 l 0 m [] (by omega) hm).2.1;omega
def aCg (K:Co→ByteArray→List UInt8):Prop:=∀ c s,c.ok→s.size≤65536→(K c s).length≤600000000
theorem aYp (s:ByteArray):(qW s.toList).length≤2*s.size+2:=by
 have h1:=Es.aGg s.toList;rw[V.aD] at h1;unfold qW;simp only [List.length_append,List.length_cons,List.length_nil];omega
theorem aYq {K:Co→ByteArray→List UInt8} (hK:aCg K) {f:Fd} {p:Pt} (ho:yD f=false) (hk:p.kind=f.kind) (hm:aL p=true):(lH K f p).length≤650000000:=by
 obtain⟨_,_,hc,_⟩:=iT ho;obtain⟨c0,_,_,_,cn,c4,cr,ce⟩:=canon (bE hm);have hr:p.raw.size≤65536:=by
  by_cases h:p.kind=0∨p.kind=1∨p.kind=2∨p.kind=7
  · rw[ce h];decide
  · by_cases h4:p.kind=4
    · have:=c4 h4;omega
    · exact cr (by omega)
 have he:=aYp p.raw;unfold lH;split
 · simp
 · split
   · next h2 =>
     have:=(dR.1 (cn h2)).1;unfold bM fC;simp only [List.length_append];have h3:(if p.neg then p.mag.toList.map (255-·) else p.mag.toList).length=p.mag.toList.length:=by split<;>simp
     rw[h3];repeat' split
     all_goals simp only [List.length_cons,List.length_nil];omega
   · split
     · rw[V.aD];omega
     · split
       · next h6 =>
         have:=hK f.co p.raw (hc h6) hr;simp only [List.length_cons,List.length_append];omega
       · omega
theorem tQ (d:Bool) (l:List UInt8):(flips d l).length=l.length:=List.length_map _
theorem aCh {K:Co→ByteArray→List UInt8}:∀ (l:List Fd),(∀ g∈l,∀ p,mQ g p=true→aL p=true→(qX K g p).length≤cntF g*700000000) →
 ∀ ps:List Pt,ps.length=l.length→kH l ps=true→(∀ p∈ps,aL p=true)→(iW K l ps).length≤uL l*700000000:=by
 intro l;induction l with
 | nil=>intro _ ps _ _ _;rw[rW];simp
 | cons g r ih =>
  intro hC ps hl hf hm;cases ps with
  | nil=>cases hl
  | cons p ps =>
   rw[tJ] at hf;simp only [List.head?_cons,Option.getD_some,List.tail_cons,Bool.and_eq_true] at hf;have h1:=hC g List.mem_cons_self p hf.1 (hm p List.mem_cons_self);have h2:=ih (fun g hg=>hC g (List.mem_cons_of_mem _ hg)) ps (by simpa using hl) hf.2 (fun q hq=>hm q (List.mem_cons_of_mem _ hq));rw[tH,yZ,List.length_append];simp only [List.head?_cons,Option.getD_some,List.tail_cons];omega
theorem sG {K:Co→ByteArray→List UInt8} (hK:aCg K) (f:Fd):∀ d,xL d f→∀ p,mQ f p=true→aL p=true→(qX K f p).length≤cntF f*700000000:=by
 induction f using Fd.ind with
 | h f ih =>
  intro d hok p hf hm;obtain⟨_,_,_,_,ho,_,_,hin⟩:=hok;rw[nL] at hf;rw[tF,aHl];by_cases h0:p.kind=0
  · rw[if_pos h0];simp only [List.length_cons,List.length_nil];omega
  · rw[if_neg h0] at hf ⊢;simp only [Bool.and_eq_true,beq_iff_eq] at hf;rw[List.length_cons,tQ];by_cases h7:p.kind=7
    · rw[if_pos h7] at hf ⊢;simp only [Bool.and_eq_true,beq_iff_eq] at hf;have:=aCh (K:=K) f.fields (fun g hg p h1 h2=>ih g hg (d+1) (hin g hg) p h1 h2) p.items hf.2.1 hf.2.2 (fun q hq=>V.dW hm hq);simp only [List.length_append,List.length_cons,List.length_nil];omega
    · rw[if_neg h7];have:=aYq hK ho hf.1 hm;omega
