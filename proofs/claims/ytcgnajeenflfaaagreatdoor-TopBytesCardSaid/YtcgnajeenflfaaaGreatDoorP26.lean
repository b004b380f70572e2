import Derived.Test.YtcgnajeenflfaaaGreatDoorP22
import Derived.Test.YtcgnajeenflfaaaGreatDoorP25
set_option maxRecDepth 100000
set_option maxHeartbeats 4000000
set_option linter.all false
open Go.Proofs.Tryz Go.RowKit
namespace Go.Proofs.YtcgnajeenflfaaaGreatDoor
namespace Sc
open V (Same)
theorem scatch_idle (p:Addr) (w:World) :
 CallsD prog 78 #[.pointer (some p)] .returning w fun e u' w'=>e=.returned (.tuple #[])∧u'=.returning∧w'=w:=by
 refine callsD_of_wpS func78 rfl fun c₀ cs hu=>?_
 apply wpS_seq
 apply wpS_region
 simp[wpOpsS,go_sem,recoverD,hu,ntmps78,Exit.thenS]
 rw[show Array.replicate 13 undef=#[undef,undef,undef,undef,undef,undef,undef,undef,undef,undef,undef,undef,undef] from rfl]
 simp
 refine wpS_of_wp (Code.wp_mono (fun e a' w' (h:Ends (fun w'=>w'=w) e a' w')=>?_) ?_)
 · obtain⟨rfl,hd,rfl⟩:=h
   simp[bodyPostS,results,Tryz.results78,hd]
   cases c₀
   simp_all
 have hneq:∀ w:World,(binOp BinOp.neq 20 .nilIface .nilIface).run prog w=.ok (.bool false) w:=fun _=>by kernel_rfl
 go_wp2_with fail
 exact⟨rfl,rfl,rfl⟩
theorem scatch_bad (g:Nat) (x z:Int) (pa pb:Option Addr) (pn pk bn bk:Nat) (w:World) (hb:Blk w g 126 #[.int .i64 z,.slice pb bn bk]) :
 CallsD prog 78 #[.pointer (some ⟨g,0,none⟩)] (.panicking [{ v:=.iface 126 (.agg #[.int .i64 x,.slice pa pn pk]),recovered:=false }]) w fun e u' w' =>
  e=.returned (.tuple #[])∧u'=.panicking [{ v:=.iface 126 (.agg #[.int .i64 x,.slice pa pn pk]),recovered:=true }]∧Blk w' g 126 #[.int .i64 x,.slice pa pn pk]∧Below g w w':=by
 have c0:=hb.cell 0
 have c1:=hb.cell 1
 have z0:=hb.frozen 0
 have z1:=hb.frozen 1
 have HB:=zh hb
 have hg:=hb.lt
 clear hb
 simp at c0 c1
 refine callsD_of_wpS func78 rfl fun c₀ cs hu=>?_
 apply wpS_seq
 apply wpS_region
 simp[wpOpsS,go_sem,recoverD,hu,ntmps78,Exit.thenS]
 rw[show Array.replicate 13 undef=#[undef,undef,undef,undef,undef,undef,undef,undef,undef,undef,undef,undef,undef] from rfl]
 simp
 refine wpS_of_wp (Code.wp_mono (fun e a' w' (h:Ends (fun w'=>Blk w' g 126 #[.int .i64 x,.slice pa pn pk]∧Below g w w') e a' w')=>?_) ?_)
 · obtain⟨rfl,hd,h⟩:=h
   simp[bodyPostS,results,Tryz.results78,hd,h]
 have hneq:∀ w:World,(binOp BinOp.neq 20 (.iface 126 (.agg #[.int .i64 x,.slice pa pn pk])) .nilIface).run prog w=.ok (.bool true) w:=fun _=>by kernel_rfl
 have hta:∀ (v:Value) (w:World),(Instr.typeAssert (.iface 126 v) 20 126 true).run prog w=.ok (.tuple #[v,.bool true]) w:=fun _ _=>by kernel_rfl
 have hnot:∀ (x:Bool) (w:World),(Op.unary .not (.bool x)).run prog w=.ok (.bool (!x)) w:=fun _ _=>rfl
 go_wp2_with fail
 refine⟨rfl,rfl,by simpa using (HB.out.set_ 0 (.int .i64 x)).set_ 1 (.slice pa pn pk),((Below.refl g w).setCell (Nat.le_refl g) _).setCell (Nat.le_refl g) _⟩
def CheckPost (ok:Bool) (w:World) (e:Ending) (w':World):Prop:=∃ c a n k,e=.returned (.agg #[.int .i64 c,.slice a n k])∧(c=0↔ok=true)∧Below w.heap.size w w'
theorem sleaves_good (w:World) (tmps:Array Value) {w1:World} (h2:tmps.getD 2 undef=.pointer (some ⟨w.heap.size+1,0,none⟩)) (hb:Blk w1 (w.heap.size+1) 126 #[.int .i64 0,.slice none 0 0]) (hB:Below w.heap.size w w1) :
 Leaves prog Tryz.f48 tmps (CheckPost true w) [{ target:=.fn (.func 78) #[.pointer (some ⟨w.heap.size+1,0,none⟩)],args:=#[] }] .returning w1:=by
 have d0:=hb.cell 0
 have d1:=hb.cell 1
 simp at d0 d1
 refine leaves_cons (f:=78) (args:=#[.pointer (some ⟨w.heap.size+1,0,none⟩)]) (by simp) (by simp[go_sem]) ?_
 refine(scatch_idle _ w1).mono ?_
 rintro e u' w2 ⟨rfl,rfl,rfl⟩
 refine⟨.agg #[.int .i64 0,.slice none 0 0],?_,⟨0,none,0,0,rfl,by simp,hB⟩⟩
 simp only [Array.getD_eq_getD_getElem?] at h2
 simp[results,Tryz.results48,go_sem,h2,d0,d1]
theorem sleaves_bad (w:World) (tmps:Array Value) {w1:World} {c:Int} {pa:Option Addr} {pn pk:Nat} (hc:c≠0) (h2:tmps.getD 2 undef=.pointer (some ⟨w.heap.size+1,0,none⟩)) (hb:Blk w1 (w.heap.size+1) 126 #[.int .i64 0,.slice none 0 0]) (hB:Below w.heap.size w w1) :
 Leaves prog Tryz.f48 tmps (CheckPost false w) [{ target:=.fn (.func 78) #[.pointer (some ⟨w.heap.size+1,0,none⟩)],args:=#[] }] (.panicking [{ v:=.iface 126 (.agg #[.int .i64 c,.slice pa pn pk]),recovered:=false }]) w1:=by
 refine leaves_cons (f:=78) (args:=#[.pointer (some ⟨w.heap.size+1,0,none⟩)]) (by simp) (by simp[go_sem]) ?_
 refine(scatch_bad (w.heap.size+1) c 0 pa none pn pk 0 0 w1 hb).mono ?_
 rintro e u' w2 ⟨rfl,rfl,hb2,hB2⟩
 have d0:=hb2.cell 0
 have d1:=hb2.cell 1
 simp at d0 d1
 refine⟨.agg #[.int .i64 c,.slice pa pn pk],?_,⟨c,pa,pn,pk,rfl,by simpa using hc,hB.trans (hB2.mono (Nat.le_succ _))⟩⟩
 simp only [Array.getD_eq_getD_getElem?] at h2
 simp[results,Tryz.results48,go_sem,h2,d0,d1]
theorem check_any (lim:Int) (l:List Fd) (a:Option Addr) (c:Nat) (w:World) (hl:l.length≤140737488351232) (hfi:FI w 0 w.heap.size l (.slice a l.length c)) :
 Calls prog 48 #[.agg #[.int .i64 lim,.slice a l.length c]] w (CheckPost (okS lim l) w):=by
 obtain⟨X,hX⟩:∃ X,okS lim l=X:=⟨_,rfl⟩
 rw[hX]
 have hmf:∀ (fn:Fn) (first cap:Array Value) (w:World),(Instr.makeFunc fn first cap).run prog w=.ok (.func fn first cap) w:=fun _ _ _ _=>rfl
 unfold okS at hX
 have HX:=zh hX
 have HB0:=zh (show ∀ o,Blk ((w.alloc o).alloc (.cells #[.int .i64 0,.slice none 0 0] 126)) (w.heap.size+1) 126 #[.int .i64 0,.slice none 0 0] from fun o=>by
  have:=Blk.new (w.alloc o) 126 #[.int .i64 0,.slice none 0 0]
  rwa [World.size_alloc] at this)
 have HBel:=zh (show ∀ o1 o2,Below w.heap.size w ((w.alloc o1).alloc o2) from fun o1 o2=>(zr.alloc lr _).alloc (by simp) _)
 have HFI:=zh (show ∀ o1 o2 o3,FI (((w.alloc o1).alloc o2).alloc o3) 0 w.heap.size l (.slice a l.length c) from fun o1 o2 o3=>hfi.same (Same.of_below (((zr.alloc lr _).alloc (by simp) _).alloc (by simp;omega) _) lr))
 clear hX hfi
 go_enter_defers func48,ntmps48
 by_cases h1:lim<1
 · have q1:decide (lim<1)=true:=decide_eq_true h1
   go_wp2_with fail
   rw[← HX.out,decide_eq_false (show ¬ (1≤lim∧lim≤65536) by omega)]
   exact sleaves_bad w _ (by decide) rfl (HB0.out _) (HBel.out _ _)
 have q1:decide (lim<1)=false:=decide_eq_false h1
 by_cases h2:65536<lim
 · have q2:decide (65536<lim)=true:=decide_eq_true h2
   go_wp2_with fail
   rw[← HX.out,decide_eq_false (show ¬ (1≤lim∧lim≤65536) by omega)]
   exact sleaves_bad w _ (by decide) rfl (HB0.out _) (HBel.out _ _)
 have q2:decide (65536<lim)=false:=decide_eq_false h2
 have hlim:decide (1≤lim∧lim≤65536)=true:=decide_eq_true (by omega)
 cases l with
 | nil =>
  go_wp2_with fail
  rw[← HX.out,hlim]
  exact sleaves_bad w _ (by decide) rfl (HB0.out _) (HBel.out _ _)
 | cons f r =>
  obtain⟨m,hm⟩:∃ m,(f::r).length=m:=⟨_,rfl⟩
  have q3:((m:Int)==0)=false:=by simp;rw[← hm];simp
  have HM:=zh hm
  have HL:=zh hl
  rw[hm] at HFI ⊢
  clear hm hl
  go_wp2_with fail
  obtain⟨W0,hW0⟩:∃ W0,W0=(w.alloc (.cells #[.int .i64 lim,.slice a m c] 26)).alloc (.cells #[.int .i64 0,.slice none 0 0] 126):=⟨_,rfl⟩
  have hz0:W0.heap.size=w.heap.size+2:=by rw[hW0];simp
  have hB0:Blk W0 (w.heap.size+1) 126 #[.int .i64 0,.slice none 0 0]:=by rw[hW0];exact HB0.out _
  have hBe:Below w.heap.size w W0:=by rw[hW0];exact HBel.out _ _
  have hF0:FI (W0.alloc (.cells #[.int .i64 0] 3)) 0 w.heap.size (f::r) (.slice a (f::r).length c):=by rw[hW0,HM.out];exact HFI.out _ _ _
  have hN0:Blk (W0.alloc (.cells #[.int .i64 0] 3)) (w.heap.size+1+1) 3 #[.int .i64 ((0:Nat):Int)]:=by
   have:=Blk.new W0 3 #[.int .i64 0]
   rwa [hz0] at this
  rw[← hW0]
  have hwk:=walk_any (f::r) HL.out a c (.slice none 0 0) [] (w.heap.size+1+1) 0 w.heap.size (W0.alloc (.cells #[.int .i64 0] 3)) (by omega) (by simp) (by omega) (by simp;omega) hF0 hN0 (IntsP.nil _ _)
  obtain⟨Z,hZ⟩:∃ Z,walkL 0 0 [] (f::r)=Z:=⟨_,rfl⟩
  rw[show walkL 0 ([]:List Int).length [] (f::r)=Z from hZ,HM.out] at hwk
  have hX2:=HX.out
  rw[hlim,show walkL 0 0 [] (f::r)=Z from hZ] at hX2
  clear hW0
  refine hwk.mono ?_
  rintro e w9 ⟨he,hx9⟩
  have hb9:Below (w.heap.size+2) (W0.alloc (.cells #[.int .i64 0] 3)) w9:=hx9.below (fun k h e=>by omega) (by simp;omega)
  have hbw:Below (w.heap.size+2) W0 w9:=((Below.refl _ W0).alloc (by omega) _).trans hb9
  have hB9:Blk w9 (w.heap.size+1) 126 #[.int .i64 0,.slice none 0 0]:=Blk.below hB0 hbw (by omega)
  have hBe9:Below w.heap.size w w9:=hBe.trans (hbw.mono (by omega))
  cases Z with
  | none =>
   obtain⟨cc,ca,cn,ck,hcc,rfl⟩:=he
   unfold wrongE
   rw[← hX2]
   exact sleaves_bad w _ hcc rfl hB9 hBe9
  | some q =>
   obtain⟨rfl,_⟩:=he
   have d0:=hB9.cell 0
   have d1:=hB9.cell 1
   have z0:=hB9.frozen 0
   have z1:=hB9.frozen 1
   have HBQ:=zh hB9
   have HEQ:=zh hBe9
   simp at d0 d1
   clear hB9 hBe9 hbw hb9 hx9 hwk hB0 hBe hF0 hN0
   go_wp2_with fail
   rw[show X=true by rw[← hX2];rfl]
   exact sleaves_good w _ rfl (by simpa using (HBQ.out.set_ 0 (.int .i64 0)).set_ 1 (.slice none 0 0)) ((HEQ.out.setCell (Nat.le_succ w.heap.size) _).setCell (Nat.le_succ w.heap.size) _)
def SPost (ok:Bool) (w:World) (e:Ending) (w':World):Prop :=
 (if ok then e=.returned .nilIface else ∃ fb c a n k,w.heap.size≤fb∧e=.returned (.iface 39 (.pointer (some ⟨fb,0,none⟩)))∧c≠0∧Blk w' fb 44 #[.int .i64 c,.int .i64 0,.slice a n k,.nilIface])∧Below w.heap.size w w'
theorem SCheck_any (lim:Int) (l:List Fd) (a:Option Addr) (c:Nat) (w:World) (hl:l.length≤140737488351232) (hfi:FI w 0 w.heap.size l (.slice a l.length c)) :
 Calls prog 27 #[.agg #[.int .i64 lim,.slice a l.length c]] w (SPost (okS lim l) w):=by
 have h1:∀ o,FI (w.alloc o) 0 (w.alloc o).heap.size l (.slice a l.length c):=fun o=>(hfi.same (Same.of_below (zr.alloc lr o) lr)).wide lr (by simp)
 have H1:=zh (fun o=>check_any lim l a c (w.alloc o) hl (h1 o))
 obtain⟨m,hm⟩:∃ m,l.length=m:=⟨_,rfl⟩
 rw[hm] at H1 ⊢
 clear h1 hfi
 obtain⟨X,hX⟩:∃ X,okS lim l=X:=⟨_,rfl⟩
 rw[hX] at H1 ⊢
 clear hX
 cases X with
 | true =>
  go_enter func27,ntmps27
  go_wp2_with (go_at_call 48;refine(H1.out _).mono ?_;rintro e w1 ⟨x,pa,pn,pk,rfl,hx,hb1⟩;have HB:=zh ((zr.alloc lr _).trans (hb1.mono (by simp)));have hz:=hb1.size;obtain rfl:=hx.2 rfl)
  go_ret
  exact⟨rfl,HB.out.alloc HB.out.size _⟩
 | false =>
  go_enter func27,ntmps27
  go_wp2_with (go_at_call 48;refine(H1.out _).mono ?_;rintro e w1 ⟨x,pa,pn,pk,rfl,hx,hb1⟩;have HB:=zh ((zr.alloc lr _).trans (hb1.mono (by simp)));have hz:=hb1.size;have hx0:x≠0:=(fun e=>by have:=hx.1 e;cases this);have q:(x != 0)=true:=(by simpa using hx0);have HX0:=zh hx0;clear hx0 hx)
  go_ret
  have hs:=HB.out.size
  refine⟨⟨_,x,pa,pn,pk,?_,rfl,HX0.out,?_⟩,(HB.out.alloc hs _).alloc (by simp;omega) _⟩
  · omega
  · have:=Blk.new (w1.alloc (.cells #[.int .i64 x,.slice pa pn pk] 126)) 44 #[.int .i64 x,.int .i64 0,.slice pa pn pk,.nilIface]
    rwa [World.size_alloc] at this
open V (Same Pt VI mayB WantPost want_kind want_ok has_Number_truth has_Number_whole has_Number_row has_Number_tuple has_Raw_truth has_Raw_whole has_Raw_row has_Raw_tuple has_List_truth has_List_whole has_List_row has_List_tuple num_whole bytes_row len_tuple at_in)
def FaultOk (w:World) (fb n:Nat):Prop:=∃ c at_ pv lp why,Blk w fb 44 #[.int .i64 c,.int .i64 at_,pv,why]∧IntsP w (· = fb) pv lp∧lp.length≤n∧(why=.nilIface∨∃ T V,why=.iface T V)
def FitPost (ok:Bool) (n:Nat) (w:World) (e:Ending) (w':World):Prop :=
 (if ok then e=.returned (.pointer none) else ∃ fb,w.heap.size≤fb∧e=.returned (.pointer (some ⟨fb,0,none⟩))∧FaultOk w' fb n)∧Below w.heap.size w w'
theorem FitPost.new {w0 w:World} {n g:Nat} {c at_:Int} {why:Value} (hg:g=w.heap.size) (hb:Below w0.heap.size w0 w) (hwhy:why=.nilIface∨∃ T V,why=.iface T V) :
 FitPost false n w0 (.returned (.pointer (some ⟨g,0,none⟩))) (w.alloc (.cells #[.int .i64 c,.int .i64 at_,.slice none 0 0,why] 44)):=by
 rw[hg]
 exact⟨⟨w.heap.size,hb.size,rfl,c,at_,.slice none 0 0,[],why,Blk.new _ _ _,IntsP.nil _ _,Nat.zero_le _,hwhy⟩,hb.alloc hb.size _⟩
theorem FitPost.ok {w0 w:World} {n:Nat} (hb:Below w0.heap.size w0 w):FitPost true n w0 (.returned (.pointer none)) w:=⟨rfl,hb⟩
theorem wrong_null (f:Fd) (a:Option Addr) (k c n:Nat) (w:World):Calls prog 29 #[.agg (fcells f (.slice a k c)).toArray,.nilIface] w (FitPost (!(f.nulls==0)) n w):=by
 obtain⟨nm,kd,dn,nu,bd,lb,lm,hb,hm,mo,⟨st,sh,bk⟩,fs⟩:=f
 rw[fcells_mk]
 simp only [Fd.nulls]
 by_cases h0:nu=0
 · have q1:((nu:Int)==0)=true:=by simpa using h0
   rw[show (nu==0)=true by simpa using h0]
   clear h0
   go_enter func29,ntmps29
   go_wp2_with fail
   go_ret
   exact FitPost.new (by simp) (zr.alloc lr _) (.inl rfl)
 · have q1:((nu:Int)==0)=false:=by simpa using h0
   rw[show (nu==0)=false by simpa using h0]
   clear h0
   go_enter func29,ntmps29
   go_wp2_with fail
   go_ret
   exact FitPost.ok (zr.alloc lr _)
theorem wrong_kind (f:Fd) (a:Option Addr) (k c n:Nat) (p:Pt) (T:TypeId) (V:Value) (w:World) {W:World} {lo hi:Nat} (hk:f.kind≤7) (hv:VI W lo hi p (.iface T V)) (hne:p.kind≠f.kind) :
 Calls prog 29 #[.agg (fcells f (.slice a k c)).toArray,.iface T V] w (FitPost false n w):=by
 have HW:=zh (fun w=>want_kind p (.iface T V) f.kind w hk hv hne)
 obtain⟨nm,kd,dn,nu,bd,lb,lm,hb,hm,mo,⟨st,sh,bk⟩,fs⟩:=f
 rw[fcells_mk]
 simp only [Fd.kind] at HW
 clear hv hne hk
 go_enter func29,ntmps29
 go_wp2_with (go_at_call 49;refine(HW.out _).mono ?_;rintro e w1 ⟨fb,hfb,rfl,hbl,hb1⟩;have HB:=zh ((zr.alloc lr _).trans (hb1.mono (by simp))))
 go_ret
 exact FitPost.new rfl HB.out (.inr ⟨_,_,rfl⟩)
theorem wrong_truth (f:Fd) (a:Option Addr) (k c n:Nat) (p:Pt) (V:Value) (w:World) {W:World} {lo hi:Nat} (hk:f.kind≤7) (hv:VI W lo hi p (.iface 148 V)) (he:p.kind=f.kind) :
 Calls prog 29 #[.agg (fcells f (.slice a k c)).toArray,.iface 148 V] w (FitPost true n w):=by
 have HW:=zh (fun w=>want_ok p (.iface 148 V) w (by omega) hv)
 have t1:=has_Number_truth V
 have t2:=has_Raw_truth V
 have t3:=has_List_truth V
 rw[he] at HW
 obtain⟨nm,kd,dn,nu,bd,lb,lm,hb,hm,mo,⟨st,sh,bk⟩,fs⟩:=f
 rw[fcells_mk]
 simp only [Fd.kind] at HW
 clear hv he hk
 go_enter func29,ntmps29
 go_wp2_with (go_at_call 49;refine(HW.out _).mono ?_;rintro e w1 ⟨rfl,hb1⟩;have HB:=zh ((zr.alloc lr _).trans (hb1.mono (by simp))))
 go_ret
 exact FitPost.ok HB.out
theorem wrong_num (f:Fd) (a:Option Addr) (k c n:Nat) (p:Pt) (b:Bool) (m:ByteArray) (w:World) {W:World} {lo hi:Nat} (hf:f.kind=2) (hv:VI W lo hi p (.iface 220 (.agg #[.bool b,.string m]))) (he:p.kind=f.kind)
 (hb:chk b m.toList=0) (hlo:chk f.lob f.lom.toList=0) (hhi:chk f.hib f.him.toList=0) :
 Calls prog 29 #[.agg (fcells f (.slice a k c)).toArray,.iface 220 (.agg #[.bool b,.string m])] w (FitPost (inBnd f b m.toList) n w):=by
 have HW:=zh (fun w=>want_ok p (.iface 220 (.agg #[.bool b,.string m])) w (by omega) hv)
 have t1:=has_Number_whole (.agg #[.bool b,.string m])
 have t3:=has_List_whole (.agg #[.bool b,.string m])
 obtain⟨X,hX⟩:∃ X,inBnd f b m.toList=X:=⟨_,rfl⟩
 rw[hX]
 unfold inBnd at hX
 rw[he] at HW
 obtain⟨nm,kd,dn,nu,bd,lb,lm,hib,hm,mo,⟨st,sh,bk⟩,fs⟩:=f
 rw[fcells_mk]
 replace hX:(!bd || (decide (0≤ncmp b m.toList lb lm.toList)&&decide (ncmp b m.toList hib hm.toList≤0)))=X:=hX
 simp only [Fd.kind,Fd.lob,Fd.lom,Fd.hib,Fd.him] at HW hlo hhi hf
 subst hf
 obtain⟨r1,hr1⟩:∃ r,ncmp b m.toList lb lm.toList=r:=⟨_,rfl⟩
 obtain⟨r2,hr2⟩:∃ r,ncmp b m.toList hib hm.toList=r:=⟨_,rfl⟩
 rw[hr1,hr2] at hX
 have HX:=zh hX
 have H1:=zh (fun w=>compare_ok b m lb lm w hb hlo r1 hr1)
 have H2:=zh (fun w=>compare_ok b m hib hm w hb hhi r2 hr2)
 clear hv he hX hr1 hr2 hb hlo hhi
 have m1:∀ w:World,(method 512 220 (.agg #[.bool b,.string m]) "Num").run prog w=.ok (301,.agg #[.bool b,.string m]) w:=fun _=>by kernel_rfl
 go_enter func29,ntmps29
 go_wp2_with (go_at_call 49;refine(HW.out _).mono ?_;rintro e w1 ⟨rfl,hb1⟩;have HB:=zh ((zr.alloc lr _).trans (hb1.mono (by simp)));have HBF:=zh (Blk.below (Blk.new w 79 #[.string nm,.int .u8 2,.bool dn,.int .u8 nu,.bool bd,.bool lb,.string lm,.bool hib,.string hm,.int .i64 mo,.int .i64 st,.bool sh,.bool bk,.slice a k c]) hb1 (by simp)))
 have c4:w1.cell? ⟨w.heap.size,4,none⟩=some (.bool bd):=HBF.out.cell 4
 have c5:w1.cell? ⟨w.heap.size,5,none⟩=some (.bool lb):=HBF.out.cell 5
 have c6:w1.cell? ⟨w.heap.size,6,none⟩=some (.string lm):=HBF.out.cell 6
 have c7:w1.cell? ⟨w.heap.size,7,none⟩=some (.bool hib):=HBF.out.cell 7
 have c8:w1.cell? ⟨w.heap.size,8,none⟩=some (.string hm):=HBF.out.cell 8
 have hbd:Below w1.heap.size w1 w1.drew:=(Below.refl w1.heap.size w1).drew
 go_region_held3 (fun w'=>w'.cell? ⟨w.heap.size,4,none⟩=some (.bool bd)∧w'.cell? ⟨w.heap.size,5,none⟩=some (.bool lb)∧w'.cell? ⟨w.heap.size,6,none⟩=some (.string lm)∧w'.cell? ⟨w.heap.size,7,none⟩=some (.bool hib)∧w'.cell? ⟨w.heap.size,8,none⟩=some (.string hm)∧Below w1.heap.size w1 w') (go_keep) (first
  | (go_at_call 301;refine(num_whole b m _).mono ?_;rintro e w9 ⟨rfl,hb9⟩;have k4:=V.keeps hb9 (p:=⟨w.heap.size,4,none⟩) (v:=.bool bd) (by assumption);have k5:=V.keeps hb9 (p:=⟨w.heap.size,5,none⟩) (v:=.bool lb) (by assumption);have k6:=V.keeps hb9 (p:=⟨w.heap.size,6,none⟩) (v:=.string lm) (by assumption);have k7:=V.keeps hb9 (p:=⟨w.heap.size,7,none⟩) (v:=.bool hib) (by assumption);have k8:=V.keeps hb9 (p:=⟨w.heap.size,8,none⟩) (v:=.string hm) (by assumption);have kb:=V.two (a:=_) (by assumption) hb9)
  | (go_at_call 50;refine(H1.out _).mono ?_;rintro e w9 ⟨rfl,hb9⟩;have k4:=V.keeps hb9 (p:=⟨w.heap.size,4,none⟩) (v:=.bool bd) (by assumption);have k5:=V.keeps hb9 (p:=⟨w.heap.size,5,none⟩) (v:=.bool lb) (by assumption);have k6:=V.keeps hb9 (p:=⟨w.heap.size,6,none⟩) (v:=.string lm) (by assumption);have k7:=V.keeps hb9 (p:=⟨w.heap.size,7,none⟩) (v:=.bool hib) (by assumption);have k8:=V.keeps hb9 (p:=⟨w.heap.size,8,none⟩) (v:=.string hm) (by assumption);have kb:=V.two (a:=_) (by assumption) hb9))
 have HB2:=zh (HB.out.trans (kb.mono HB.out.size))
 have hbe:Below w9.heap.size w9 w9.drew:=(Below.refl w9.heap.size w9).drew
 obtain⟨w2,hw2⟩:∃ w2,w2=w9:=⟨_,rfl⟩
 rw[← hw2] at k4 k5 k6 k7 k8 HB2 hbe ⊢
 clear kb hbd hw2 HBF c4 c5 c6 c7 c8
 go_wp2_with fail
 go_region_held3 (fun w'=>w'.cell? ⟨w.heap.size,4,none⟩=some (.bool bd)∧w'.cell? ⟨w.heap.size,5,none⟩=some (.bool lb)∧w'.cell? ⟨w.heap.size,6,none⟩=some (.string lm)∧w'.cell? ⟨w.heap.size,7,none⟩=some (.bool hib)∧w'.cell? ⟨w.heap.size,8,none⟩=some (.string hm)∧Below w2.heap.size w2 w') (go_keep) (first
  | (go_at_call 301;refine(num_whole b m _).mono ?_;rintro e w9 ⟨rfl,hb9⟩;have k4:=V.keeps hb9 (p:=⟨w.heap.size,4,none⟩) (v:=.bool bd) (by assumption);have k5:=V.keeps hb9 (p:=⟨w.heap.size,5,none⟩) (v:=.bool lb) (by assumption);have k6:=V.keeps hb9 (p:=⟨w.heap.size,6,none⟩) (v:=.string lm) (by assumption);have k7:=V.keeps hb9 (p:=⟨w.heap.size,7,none⟩) (v:=.bool hib) (by assumption);have k8:=V.keeps hb9 (p:=⟨w.heap.size,8,none⟩) (v:=.string hm) (by assumption);have kb:=V.two (a:=_) (by assumption) hb9)
  | (go_at_call 50;refine(H2.out _).mono ?_;rintro e w9 ⟨rfl,hb9⟩;have k4:=V.keeps hb9 (p:=⟨w.heap.size,4,none⟩) (v:=.bool bd) (by assumption);have k5:=V.keeps hb9 (p:=⟨w.heap.size,5,none⟩) (v:=.bool lb) (by assumption);have k6:=V.keeps hb9 (p:=⟨w.heap.size,6,none⟩) (v:=.string lm) (by assumption);have k7:=V.keeps hb9 (p:=⟨w.heap.size,7,none⟩) (v:=.bool hib) (by assumption);have k8:=V.keeps hb9 (p:=⟨w.heap.size,8,none⟩) (v:=.string hm) (by assumption);have kb:=V.two (a:=_) (by assumption) hb9))
 have HB9:=zh (HB2.out.trans (kb.mono HB2.out.size))
 have d4:w9.cell? ⟨w.heap.size,4,none⟩=some (.bool bd):=by assumption
 clear kb hbe
 cases bd with
 | false =>
  go_wp2_with fail
  go_ret
  rw[show X=true by rw[← HX.out];rfl]
  exact FitPost.ok HB9.out
 | true =>
  by_cases g1:r1<0
  · have e1:decide (r1<0)=true:=decide_eq_true g1
    have G1:=zh (show decide (0≤r1)=false from decide_eq_false (by omega))
    clear g1
    go_wp2_with fail
    go_ret
    rw[show X=false by rw[← HX.out,G1.out];rfl]
    exact FitPost.new rfl HB9.out (.inl rfl)
  · have e1:decide (r1<0)=false:=decide_eq_false g1
    have G1:=zh (show decide (0≤r1)=true from decide_eq_true (by omega))
    clear g1
    by_cases g2:0<r2
    · have e2:decide (0<r2)=true:=decide_eq_true g2
      have G2:=zh (show decide (r2≤0)=false from decide_eq_false (by omega))
      clear g2
      go_wp2_with fail
      go_ret
      rw[show X=false by rw[← HX.out,G1.out,G2.out];rfl]
      exact FitPost.new rfl HB9.out (.inl rfl)
    · have e2:decide (0<r2)=false:=decide_eq_false g2
      have G2:=zh (show decide (r2≤0)=true from decide_eq_true (by omega))
      clear g2
      go_wp2_with fail
      go_ret
      rw[show X=true by rw[← HX.out,G1.out,G2.out];rfl]
      exact FitPost.ok HB9.out
theorem below_drewN {B:Nat} {w w':World} (h:Below B w w') (n:Nat):Below B w (w'.drewN n):=⟨h.os,h.tape,h.output,h.size,h.block⟩
theorem wrong_row3 (f:Fd) (a:Option Addr) (k c n:Nat) (p:Pt) (r:ByteArray) (w:World) {W:World} {lo hi:Nat} (hf:f.kind=3) (hv:VI W lo hi p (.iface 222 (.agg #[.int .u8 3,.string r]))) (he:p.kind=f.kind) (hr:r.size≤65536) :
 Calls prog 29 #[.agg (fcells f (.slice a k c)).toArray,.iface 222 (.agg #[.int .u8 3,.string r])] w (FitPost (decide ((r.size:Int)≤f.most)) n w):=by
 have HW:=zh (fun w=>want_ok p (.iface 222 (.agg #[.int .u8 3,.string r])) w (by omega) hv)
 have t1:=has_Number_row (.agg #[.int .u8 3,.string r])
 have t2:=has_Raw_row (.agg #[.int .u8 3,.string r])
 have t3:=has_List_row (.agg #[.int .u8 3,.string r])
 obtain⟨X,hX⟩:∃ X,(decide ((r.size:Int)≤f.most))=X:=⟨_,rfl⟩
 rw[hX]
 rw[he] at HW
 obtain⟨nm,kd,dn,nu,bd,lb,lm,hib,hm,mo,⟨st,sh,bk⟩,fs⟩:=f
 rw[fcells_mk]
 simp only [Fd.kind] at HW hf
 replace hX:(decide ((r.size:Int)≤mo))=X:=hX
 have HX:=zh hX
 clear hX
 subst hf
 have m1:∀ w:World,(method 512 222 (.agg #[.int .u8 3,.string r]) "Bytes").run prog w=.ok (303,.agg #[.int .u8 3,.string r]) w:=fun _=>by kernel_rfl
 clear hv he
 go_enter func29,ntmps29
 go_wp2_with (go_at_call 49;refine(HW.out _).mono ?_;rintro e w1 ⟨rfl,hb1⟩;have HB:=zh ((zr.alloc lr _).trans (hb1.mono (by simp)));have HBF:=zh (Blk.below (Blk.new w 79 #[.string nm,.int .u8 3,.bool dn,.int .u8 nu,.bool bd,.bool lb,.string lm,.bool hib,.string hm,.int .i64 mo,.int .i64 st,.bool sh,.bool bk,.slice a k c]) hb1 (by simp)))
 have c1:w1.cell? ⟨w.heap.size,1,none⟩=some (.int .u8 3):=HBF.out.cell 1
 have c9:w1.cell? ⟨w.heap.size,9,none⟩=some (.int .i64 mo):=HBF.out.cell 9
 have hbd:Below w1.heap.size w1 w1.drew:=(Below.refl w1.heap.size w1).drew
 refine wp_region_held_drew (S:=fun w'=>w'.cell? ⟨w.heap.size,1,none⟩=some (.int .u8 3)∧w'.cell? ⟨w.heap.size,9,none⟩=some (.int .i64 mo)∧Below w1.heap.size w1 w') (by kernel_rfl) ⟨c1,c9,hbd⟩ (fun hHeld=>?_)
 refine tx 0 ?v0 rfl (by kernel_rfl) tq (by rfl) ?hy0 (by assumption) ?rest0
 case hy0=>(rintro wS ⟨k1,k9,kb⟩;go_simp;try with_reducible rfl)
 try simp[Act.put]
 refine tx 1 ?v1 rfl (by kernel_rfl) tq (by rfl) ?hy1 (by assumption) ?rest1
 case hy1=>(rintro wS ⟨k1,k9,kb⟩;go_simp;try with_reducible rfl)
 try simp[Act.put]
 refine tx 2 ?v2 rfl (by kernel_rfl) tq (by rfl) ?hy2 (by assumption) ?rest2
 case hy2=>(rintro wS ⟨k1,k9,kb⟩;go_simp;try with_reducible rfl)
 try simp[Act.put]
 refine tx 3 ?v3 rfl (by kernel_rfl) tq (by rfl) ?hy3 (by assumption) ?rest3
 case hy3=>(rintro wS ⟨k1,k9,kb⟩;go_simp;try with_reducible rfl)
 try simp[Act.put]
 refine wpAnyH_take (i:=4) (v:=undef) rfl (by kernel_rfl) (by kernel_rfl) (by kernel_rfl) (fun _ _ _ h=>h) (Or.inr ⟨by rfl,rfl⟩) (by assumption) ?_
 try simp[Act.put]
 refine wpAnyH_take (i:=5) (v:=undef) rfl (by kernel_rfl) (by kernel_rfl) (by kernel_rfl) (fun _ _ _ h=>h) (Or.inr ⟨by rfl,rfl⟩) (by assumption) ?_
 try simp[Act.put]
 refine wpAnyH_take (i:=6) (v:=undef) rfl (by kernel_rfl) (by kernel_rfl) (by kernel_rfl) (fun _ _ _ h=>h) (Or.inr ⟨by rfl,rfl⟩) (by assumption) ?_
 try simp[Act.put]
 refine tx 7 ?v7 rfl (by kernel_rfl) tq (by rfl) ?hy7 (by assumption) ?rest7
 case hy7=>(rintro wS ⟨k1,k9,kb⟩;go_simp;try with_reducible rfl)
 try simp[Act.put]
 refine tx 8 ?v8 rfl (by kernel_rfl) tq (by rfl) ?hy8 (by assumption) ?rest8
 case hy8=>(rintro wS ⟨k1,k9,kb⟩;go_simp;try with_reducible rfl)
 try simp[Act.put]
 refine tx 9 ?v9 rfl (by kernel_rfl) tq (by rfl) ?hy9 (by assumption) ?rest9
 case hy9=>(rintro wS ⟨k1,k9,kb⟩;go_simp;try with_reducible rfl)
 try simp[Act.put]
 refine tx 12 ?v12 rfl (by kernel_rfl) tq (by rfl) ?hy12 (by assumption) ?rest12
 case hy12=>(rintro wS ⟨k1,k9,kb⟩;go_simp;try with_reducible rfl)
 try simp[Act.put]
 refine tx 13 ?v13 rfl (by kernel_rfl) tq (by rfl) ?hy13 (by assumption) ?rest13
 case hy13=>(rintro wS ⟨k1,k9,kb⟩;go_simp;try with_reducible rfl)
 try simp[Act.put]
 refine wpAnyH_ready (rs:=[10]) (by kernel_rfl) (by simp) ?_
 refine AllReadyH.cons rfl (fun K hK=>?_) AllReadyH.nil
 go_simp
 obtain⟨k1,k9,kb⟩:=hHeld
 refine(bytes_row 3 r _).mono ?_
 rintro e w9 ⟨rfl,hb9⟩
 replace k1:=V.keeps hb9 k1
 replace k9:=V.keeps hb9 k9
 replace kb:=V.two kb hb9
 go_wp2_with fail
 refine hK.out _ _ ⟨k1,k9,kb⟩ (fun hHeld=>?_)
 try simp[Act.put]
 refine tx 11 ?v11 rfl (by kernel_rfl) tq (by rfl) ?hy11 (by assumption) ?rest11
 case hy11=>(rintro wS ⟨k1,k9,kb⟩;go_simp;try with_reducible rfl)
 try simp[Act.put]
 refine tx 14 ?v14 rfl (by kernel_rfl) tq (by rfl) ?hy14 (by assumption) ?rest14
 case hy14=>(rintro wS ⟨k1,k9,kb⟩;go_simp;try with_reducible rfl)
 try simp[Act.put]
 refine tx 15 ?v15 rfl (by kernel_rfl) tq (by rfl) ?hy15 (by assumption) ?rest15
 case hy15=>(rintro wS ⟨k1,k9,kb⟩;go_simp;try with_reducible rfl)
 try simp[Act.put]
 refine wpAnyH_done (by kernel_rfl) ?_ _
 obtain⟨k1,k9,kb⟩:=hHeld
 have HB2:=zh (HB.out.trans (kb.mono HB.out.size))
 have d1:w9.cell? ⟨w.heap.size,1,none⟩=some (.int .u8 3):=by assumption
 clear kb hbd c1 c9 HBF
 by_cases g1:mo<(r.size:Int)
 · have e1:decide (mo<(r.size:Int))=true:=decide_eq_true g1
   have HXF:=zh (show X=false by rw[← HX.out,decide_eq_false (show ¬ (r.size:Int)≤mo by omega)])
   skip
   go_wp2_with fail
   go_ret
   rw[HXF.out]
   exact FitPost.new rfl HB2.out (.inl rfl)
 · have e1:decide (mo<(r.size:Int))=false:=decide_eq_false g1
   have HXX:=zh (show true=X by rw[← HX.out,decide_eq_true (show (r.size:Int)≤mo by omega)])
   have g1n:(r.size:Int)≤mo:=by omega
   clear g1
   go_wp2_with fail
   go_ret
   rw[← HXX.out]
   exact FitPost.ok HB2.out
theorem wrong_row4 (f:Fd) (a:Option Addr) (k c n:Nat) (p:Pt) (r:ByteArray) (w:World) {W:World} {lo hi:Nat} (hf:f.kind=4) (hv:VI W lo hi p (.iface 222 (.agg #[.int .u8 4,.string r]))) (he:p.kind=f.kind) (hr:r.size≤65536) :
 Calls prog 29 #[.agg (fcells f (.slice a k c)).toArray,.iface 222 (.agg #[.int .u8 4,.string r])] w (FitPost (true) n w):=by
 have HW:=zh (fun w=>want_ok p (.iface 222 (.agg #[.int .u8 4,.string r])) w (by omega) hv)
 have t1:=has_Number_row (.agg #[.int .u8 4,.string r])
 have t2:=has_Raw_row (.agg #[.int .u8 4,.string r])
 have t3:=has_List_row (.agg #[.int .u8 4,.string r])
 obtain⟨X,hX⟩:∃ X,(true)=X:=⟨_,rfl⟩
 rw[hX]
 rw[he] at HW
 obtain⟨nm,kd,dn,nu,bd,lb,lm,hib,hm,mo,⟨st,sh,bk⟩,fs⟩:=f
 rw[fcells_mk]
 simp only [Fd.kind] at HW hf
 replace hX:(true)=X:=hX
 have HX:=zh hX
 clear hX
 subst hf
 have m1:∀ w:World,(method 512 222 (.agg #[.int .u8 4,.string r]) "Bytes").run prog w=.ok (303,.agg #[.int .u8 4,.string r]) w:=fun _=>by kernel_rfl
 clear hv he
 go_enter func29,ntmps29
 go_wp2_with (go_at_call 49;refine(HW.out _).mono ?_;rintro e w1 ⟨rfl,hb1⟩;have HB:=zh ((zr.alloc lr _).trans (hb1.mono (by simp)));have HBF:=zh (Blk.below (Blk.new w 79 #[.string nm,.int .u8 4,.bool dn,.int .u8 nu,.bool bd,.bool lb,.string lm,.bool hib,.string hm,.int .i64 mo,.int .i64 st,.bool sh,.bool bk,.slice a k c]) hb1 (by simp)))
 have c1:w1.cell? ⟨w.heap.size,1,none⟩=some (.int .u8 4):=HBF.out.cell 1
 have c9:w1.cell? ⟨w.heap.size,9,none⟩=some (.int .i64 mo):=HBF.out.cell 9
 go_quiet (fail)
 have HB2:=zh (show Below w.heap.size w (w1.drewN nq) from below_drewN HB.out nq)
 go_wp2_with fail
 go_ret
 rw[← HX.out]
 exact FitPost.ok HB2.out
theorem wrong_row5 (f:Fd) (a:Option Addr) (k c n:Nat) (p:Pt) (r:ByteArray) (w:World) {W:World} {lo hi:Nat} (hf:f.kind=5) (hv:VI W lo hi p (.iface 222 (.agg #[.int .u8 5,.string r]))) (he:p.kind=f.kind) (hr:r.size≤65536) :
 Calls prog 29 #[.agg (fcells f (.slice a k c)).toArray,.iface 222 (.agg #[.int .u8 5,.string r])] w (FitPost (decide ((r.size:Int)≤f.most)&&decide (U.checkS r<0)) n w):=by
 have HW:=zh (fun w=>want_ok p (.iface 222 (.agg #[.int .u8 5,.string r])) w (by omega) hv)
 have t1:=has_Number_row (.agg #[.int .u8 5,.string r])
 have t2:=has_Raw_row (.agg #[.int .u8 5,.string r])
 have t3:=has_List_row (.agg #[.int .u8 5,.string r])
 obtain⟨X,hX⟩:∃ X,(decide ((r.size:Int)≤f.most)&&decide (U.checkS r<0))=X:=⟨_,rfl⟩
 rw[hX]
 rw[he] at HW
 obtain⟨nm,kd,dn,nu,bd,lb,lm,hib,hm,mo,⟨st,sh,bk⟩,fs⟩:=f
 rw[fcells_mk]
 simp only [Fd.kind] at HW hf
 replace hX:(decide ((r.size:Int)≤mo)&&decide (U.checkS r<0))=X:=hX
 have HX:=zh hX
 clear hX
 subst hf
 have m1:∀ w:World,(method 512 222 (.agg #[.int .u8 5,.string r]) "Bytes").run prog w=.ok (303,.agg #[.int .u8 5,.string r]) w:=fun _=>by kernel_rfl
 clear hv he
 go_enter func29,ntmps29
 go_wp2_with (go_at_call 49;refine(HW.out _).mono ?_;rintro e w1 ⟨rfl,hb1⟩;have HB:=zh ((zr.alloc lr _).trans (hb1.mono (by simp)));have HBF:=zh (Blk.below (Blk.new w 79 #[.string nm,.int .u8 5,.bool dn,.int .u8 nu,.bool bd,.bool lb,.string lm,.bool hib,.string hm,.int .i64 mo,.int .i64 st,.bool sh,.bool bk,.slice a k c]) hb1 (by simp)))
 have c1:w1.cell? ⟨w.heap.size,1,none⟩=some (.int .u8 5):=HBF.out.cell 1
 have c9:w1.cell? ⟨w.heap.size,9,none⟩=some (.int .i64 mo):=HBF.out.cell 9
 have hbd:Below w1.heap.size w1 w1.drew:=(Below.refl w1.heap.size w1).drew
 go_region_held3 (fun w'=>w'.cell? ⟨w.heap.size,1,none⟩=some (.int .u8 5)∧w'.cell? ⟨w.heap.size,9,none⟩=some (.int .i64 mo)∧Below w1.heap.size w1 w') (go_keep) (first
  | (go_at_call 303;refine(bytes_row 5 r _).mono ?_;rintro e w9 ⟨rfl,hb9⟩;have k1:=V.keeps hb9 (p:=⟨w.heap.size,1,none⟩) (v:=.int .u8 5) (by assumption);have k9:=V.keeps hb9 (p:=⟨w.heap.size,9,none⟩) (v:=.int .i64 mo) (by assumption);have kb:=V.two (a:=_) (by assumption) hb9))
 have HB2:=zh (HB.out.trans (kb.mono HB.out.size))
 have d1:w9.cell? ⟨w.heap.size,1,none⟩=some (.int .u8 5):=by assumption
 clear kb hbd c1 c9 HBF
 by_cases g1:mo<(r.size:Int)
 · have e1:decide (mo<(r.size:Int))=true:=decide_eq_true g1
   have HXF:=zh (show X=false by rw[← HX.out,decide_eq_false (show ¬ (r.size:Int)≤mo by omega)];rfl)
   skip
   go_wp2_with fail
   go_ret
   rw[HXF.out]
   exact FitPost.new rfl HB2.out (.inl rfl)
 · have e1:decide (mo<(r.size:Int))=false:=decide_eq_false g1
   have HXX:=zh (show decide (U.checkS r<0)=X by rw[← HX.out,decide_eq_true (show (r.size:Int)≤mo by omega)];rfl)
   have g1n:(r.size:Int)≤mo:=by omega
   clear g1
   obtain⟨q,hq⟩:∃ q,U.checkS r=q:=⟨_,rfl⟩
   have HU:=zh (fun w=>by have:=U.Check_any r (by omega) w;rw[hq] at this;exact this)
   have HXQ:=zh (show decide (q<0)=X by rw[← HXX.out,hq])
   clear hq
   by_cases g2:0≤q
   · have e2:decide (0≤q)=true:=decide_eq_true g2
     have HXF:=zh (show X=false by rw[← HXQ.out];exact decide_eq_false (by omega))
     clear g2
     go_wp2_with (first | (go_at_call 303;refine(bytes_row 5 r _).mono ?_;rintro e w5 ⟨rfl,hb5⟩;have HB5:=zh (HB2.out.trans (hb5.mono HB2.out.size))) | (go_at_call 51;refine(HU.out _).mono ?_;rintro e w6 ⟨rfl,hb6⟩;have HB6:=zh (HB5.out.trans (hb6.mono HB5.out.size))))
     go_ret
     rw[HXF.out]
     exact FitPost.new rfl HB6.out (.inr ⟨_,_,rfl⟩)
   · have e2:decide (0≤q)=false:=decide_eq_false g2
     have HXF:=zh (show X=true by rw[← HXQ.out];exact decide_eq_true (by omega))
     clear g2
     go_wp2_with (first | (go_at_call 303;refine(bytes_row 5 r _).mono ?_;rintro e w5 ⟨rfl,hb5⟩;have HB5:=zh (HB2.out.trans (hb5.mono HB2.out.size))) | (go_at_call 51;refine(HU.out _).mono ?_;rintro e w6 ⟨rfl,hb6⟩;have HB6:=zh (HB5.out.trans (hb6.mono HB5.out.size))))
     go_ret
     rw[HXF.out]
     exact FitPost.ok HB6.out
theorem wrong_row6 (f:Fd) (a:Option Addr) (k c n:Nat) (p:Pt) (r:ByteArray) (w:World) {W:World} {lo hi:Nat} (hf:f.kind=6) (hv:VI W lo hi p (.iface 222 (.agg #[.int .u8 6,.string r]))) (he:p.kind=f.kind) (hr:r.size≤65536) :
 Calls prog 29 #[.agg (fcells f (.slice a k c)).toArray,.iface 222 (.agg #[.int .u8 6,.string r])] w (FitPost (decide (U.checkS r<0)) n w):=by
 have HW:=zh (fun w=>want_ok p (.iface 222 (.agg #[.int .u8 6,.string r])) w (by omega) hv)
 have t1:=has_Number_row (.agg #[.int .u8 6,.string r])
 have t2:=has_Raw_row (.agg #[.int .u8 6,.string r])
 have t3:=has_List_row (.agg #[.int .u8 6,.string r])
 obtain⟨X,hX⟩:∃ X,(decide (U.checkS r<0))=X:=⟨_,rfl⟩
 rw[hX]
 rw[he] at HW
 obtain⟨nm,kd,dn,nu,bd,lb,lm,hib,hm,mo,⟨st,sh,bk⟩,fs⟩:=f
 rw[fcells_mk]
 simp only [Fd.kind] at HW hf
 replace hX:(decide (U.checkS r<0))=X:=hX
 have HX:=zh hX
 clear hX
 subst hf
 have m1:∀ w:World,(method 512 222 (.agg #[.int .u8 6,.string r]) "Bytes").run prog w=.ok (303,.agg #[.int .u8 6,.string r]) w:=fun _=>by kernel_rfl
 clear hv he
 go_enter func29,ntmps29
 go_wp2_with (go_at_call 49;refine(HW.out _).mono ?_;rintro e w1 ⟨rfl,hb1⟩;have HB:=zh ((zr.alloc lr _).trans (hb1.mono (by simp)));have HBF:=zh (Blk.below (Blk.new w 79 #[.string nm,.int .u8 6,.bool dn,.int .u8 nu,.bool bd,.bool lb,.string lm,.bool hib,.string hm,.int .i64 mo,.int .i64 st,.bool sh,.bool bk,.slice a k c]) hb1 (by simp)))
 have c1:w1.cell? ⟨w.heap.size,1,none⟩=some (.int .u8 6):=HBF.out.cell 1
 have c9:w1.cell? ⟨w.heap.size,9,none⟩=some (.int .i64 mo):=HBF.out.cell 9
 go_quiet (fail)
 have HB2:=zh (show Below w.heap.size w (w1.drewN nq) from below_drewN HB.out nq)
 obtain⟨q,hq⟩:∃ q,U.checkS r=q:=⟨_,rfl⟩
 have HU:=zh (fun w=>by have:=U.Check_any r (by omega) w;rw[hq] at this;exact this)
 have HXQ:=zh (show decide (q<0)=X by rw[← HX.out,hq])
 clear hq
 by_cases g2:0≤q
 · have e2:decide (0≤q)=true:=decide_eq_true g2
   have HXF:=zh (show X=false by rw[← HXQ.out];exact decide_eq_false (by omega))
   clear g2
   go_wp2_with (first | (go_at_call 303;refine(bytes_row 6 r _).mono ?_;rintro e w5 ⟨rfl,hb5⟩;have HB5:=zh (HB2.out.trans (hb5.mono HB2.out.size))) | (go_at_call 51;refine(HU.out _).mono ?_;rintro e w6 ⟨rfl,hb6⟩;have HB6:=zh (HB5.out.trans (hb6.mono HB5.out.size))))
   go_ret
   rw[HXF.out]
   exact FitPost.new rfl HB6.out (.inr ⟨_,_,rfl⟩)
 · have e2:decide (0≤q)=false:=decide_eq_false g2
   have HXF:=zh (show X=true by rw[← HXQ.out];exact decide_eq_true (by omega))
   clear g2
   go_wp2_with (first | (go_at_call 303;refine(bytes_row 6 r _).mono ?_;rintro e w5 ⟨rfl,hb5⟩;have HB5:=zh (HB2.out.trans (hb5.mono HB2.out.size))) | (go_at_call 51;refine(HU.out _).mono ?_;rintro e w6 ⟨rfl,hb6⟩;have HB6:=zh (HB5.out.trans (hb6.mono HB5.out.size))))
   go_ret
   rw[HXF.out]
   exact FitPost.ok HB6.out
open V (Same Pt VI mayB WantPost want_kind want_ok has_Number_tuple has_Raw_tuple has_List_tuple len_tuple at_in)
theorem vi_later {w w':World} {p:Pt} {v:Value} (h:VI w 0 w.heap.size p v) (hb:Below w.heap.size w w'):VI w' 0 w'.heap.size p v:=(h.same (Same.of_below hb lr)).wide lr hb.size
theorem fi_later {w w':World} {l:List Fd} {v:Value} (h:FI w 0 w.heap.size l v) (hb:Below w.heap.size w w'):FI w' 0 w'.heap.size l v:=(h.same (Same.of_below hb lr)).wide lr hb.size
theorem FitPost.yes {n:Nat} {w w':World} {e:Ending} (h:FitPost true n w e w'):e=.returned (.pointer none)∧Below w.heap.size w w':=h
theorem FitPost.no {n:Nat} {w w':World} {e:Ending} (h:FitPost false n w e w'):∃ fb,(w.heap.size≤fb∧e=.returned (.pointer (some ⟨fb,0,none⟩))∧FaultOk w' fb n)∧Below w.heap.size w w':=by
 obtain⟨⟨fb,h⟩,hb⟩:=h
 exact⟨fb,h,hb⟩
def WrongAt (g:Fd) (n:Nat):Prop:=FFit g→∀ (a:Option Addr) (c:Nat) (q:Pt) (v:Value) (w:World),mayB q=true→VI w 0 w.heap.size q v→FI w 0 w.heap.size g.fields (.slice a g.fields.length c) →
 Calls prog 29 #[.agg (fcells g (.slice a g.fields.length c)).toArray,v] w (FitPost (fitF g q) n w)
theorem fitL_drop {F:List Fd} {l:List Pt} {j:Nat} (h:j<F.length) (h2:j<l.length):fitL (F.drop j) (l.drop j)=(fitF F[j] l[j]&&fitL (F.drop (j+1)) (l.drop (j+1))):=by
 rw[List.drop_eq_getElem_cons h,List.drop_eq_getElem_cons h2,fitL_cons];rfl
theorem vi_item {w:World} {lo hi n cap:Nat} {b:Option Addr} {p:Pt} (h:VI w lo hi p (.iface 118 (.agg #[.slice b n cap]))) (hk:p.kind=7) (j:Nat) (hj:j<p.items.length) :
 ∃ g u,b=some ⟨g,0,none⟩∧g<hi∧w.cell? ⟨g,j,none⟩=some u∧VI w lo hi p.items[j] u:=by
 generalize hv:Value.iface 118 (.agg #[.slice b n cap])=v at h
 cases h with
 | null _ h=>omega
 | truth _ h=>omega
 | whole _ h=>omega
 | row _ _ _ _ h=>omega
 | tuple _ h a cap' F hc cells deep =>
  simp only [Value.iface.injEq,Value.agg.injEq,true_and] at hv
  have hv2:=congrArg (fun a:Array Value=>a[0]?) hv
  simp only [List.getElem?_toArray,List.getElem?_cons_zero,Option.some.injEq,Value.slice.injEq] at hv2
  obtain⟨e1,e2,e3⟩:=hv2
  subst e1 e3
  obtain⟨g,hg,_,h2,h3⟩:=cells j hj
  exact⟨g,F j,hg,h2,h3,deep j hj⟩
theorem within_any (f:Fd) (n:Nat) (hn:n≤20) (hff:FFit f) (p:Pt) (b:Option Addr) (cap:Nat) (a:Option Addr) (c:Nat) (w:World) (hmay:mayB p=true) (hk:p.kind=7) (hil:p.items.length≤1024) (IH:∀ g∈f.fields,WrongAt g n)
 (hv:VI w 0 w.heap.size p (.iface 118 (.agg #[.slice b p.items.length cap]))) (hfi:FI w 0 w.heap.size f.fields (.slice a f.fields.length c)) :
 Calls prog 52 #[.agg (fcells f (.slice a f.fields.length c)).toArray,.iface 118 (.agg #[.slice b p.items.length cap])] w (FitPost (p.items.length==f.fields.length&&fitL f.fields p.items) (n+1) w):=by
 have HV:=zh hv
 have HFI:=zh hfi
 have HIH:=zh IH
 have hfl:=hff.l
 obtain⟨F,hF⟩:∃ F,f.fields=F:=⟨_,rfl⟩
 obtain⟨m,hm⟩:∃ m,F.length=m:=⟨_,rfl⟩
 obtain⟨il,hil2⟩:∃ il,p.items.length=il:=⟨_,rfl⟩
 rw[hF] at HIH HFI hfl ⊢
 rw[hm] at HFI hfl ⊢
 rw[hil2] at HV hil ⊢
 have hcf:∃ nm kd dn nu bd lb lm hib hm2 mo st sh bk,(fcells f (.slice a m c)).toArray=#[.string nm,.int .u8 kd,.bool dn,.int .u8 nu,.bool bd,.bool lb,.string lm,.bool hib,.string hm2,.int .i64 mo,.int .i64 st,.bool sh,.bool bk,.slice a m c] :=
  ⟨f.name,(f.kind:Int),f.down,(f.nulls:Int),f.bnd,f.lob,f.lom,f.hib,f.him,f.most,f.co.str,f.co.sh,f.co.back,rfl⟩
 obtain⟨nm,kd,dn,nu,bd,lb,lm,hib,hm2,mo,st,sh,bk,hcf⟩:=hcf
 rw[hcf]
 clear hv hfi IH hcf hff hF
 have mL:∀ w:World,(method 512 118 (.agg #[.slice b il cap]) "Len").run prog w=.ok (279,.agg #[.slice b il cap]) w:=fun _=>by kernel_rfl
 have mA:∀ w:World,(method 512 118 (.agg #[.slice b il cap]) "At").run prog w=.ok (277,.agg #[.slice b il cap]) w:=fun _=>by kernel_rfl
 go_enter func52,ntmps52
 go_wp2_with fail
 generalize hW:w.alloc (.cells _ 79)=w1
 have hB1:Below w.heap.size w w1:=by rw[← hW];exact zr.alloc lr _
 have c13:w1.cell? ⟨w.heap.size,13,none⟩=some (.slice a m c):=by rw[← hW,cellA];simp
 have HB1:=zh hB1
 clear hW hB1
 have hbd:Below w1.heap.size w1 w1.drew:=(Below.refl w1.heap.size w1).drew
 go_region_held3 (fun w'=>w'.cell? ⟨w.heap.size,13,none⟩=some (.slice a m c)∧Below w1.heap.size w1 w') (go_keep) (first
  | (go_at_call 279;refine(len_tuple b il cap _).mono ?_;rintro e w9 ⟨rfl,hb9⟩;have k13:=V.keeps hb9 (p:=⟨w.heap.size,13,none⟩) (v:=.slice a m c) (by assumption);have kb:=V.two (a:=_) (by assumption) hb9))
 have HB2:=zh (HB1.out.trans (kb.mono HB1.out.size))
 clear kb hbd c13
 by_cases hne:il=m
 · subst hne
   have q1:((il:Int) != (il:Int))=false:=by simp
   have HX:=zh (show (il==il&&fitL F p.items)=fitL F p.items by simp)
   go_wp2_with fail
   rw[show ((il:Int) != (il:Int))=false by simp]
   go_loopw [19] (fun iv wr=>∃ j:Nat,j≤il∧iv=.int .i64 (j:Int)∧Below w.heap.size w wr∧Hid (fitL F p.items=fitL (F.drop j) (p.items.drop j))) (fun iv _=>il-(intOf iv).toNat)
   case atStart=>exact⟨0,Nat.zero_le _,rfl,HB2.out,zh rfl⟩
   case round =>
    obtain⟨j,hj,rfl,hB,hfit⟩:=hrel
    by_cases hlt:j<il
    · have q2:decide ((j:Int)<(il:Int))=true:=decide_eq_true (by omega)
      have hfi:=fi_later HFI.out hB
      obtain⟨a',c',he,hc,hpl⟩:=hfi.open
      injection he with e1 e2 e3
      subst e1 e3
      have hjF:j<F.length:=by omega
      have hjp:j<p.items.length:=by omega
      obtain⟨bb,off,u,rfl,_,hbh,hcl,hff,hsub⟩:=hpl j hjF
      obtain⟨k0,k1,k2,k3,k4,k5,k6,k7,k8,k9,k10,k11,k12,k13⟩:=hcl.all
      obtain⟨au,cu,rfl,hsc,hso⟩:=hsub.open
      obtain⟨gi,ui,rfl,_,hci,hvi⟩:=vi_item (vi_later HV.out hB) hk j hjp
      have hmq:=V.mayB_item hmay (List.getElem_mem hjp)
      have hIH:=HIH.out F[j] (List.getElem_mem hjF)
      have hfd:=fitL_drop hjF hjp
      obtain⟨g,hg⟩:∃ g,F[j]=g:=⟨_,rfl⟩
      obtain⟨q,hq⟩:∃ q,p.items[j]=q:=⟨_,rfl⟩
      rw[hg] at k0 k1 k2 k3 k4 k5 k6 k7 k8 k9 k10 k11 k12 hff hsub hIH hfd k13
      rw[hq] at hvi hmq hfd
      have HFD:=zh hfd
      have HSUB:=zh hsub
      have HVI:=zh hvi
      have HI2:=zh (hIH hff)
      have HMQ:=zh hmq
      have HB3:=zh hB
      have HM:=zh hm
      have HIL:=zh hil2
      have hcc:il≤c:=by omega
      clear hfi hpl hcl hsub hvi hmq hIH hfd hg hq hff hB hsc hso e2 hc hm hil2 hjF hjp
      go_wp2_with fail
      generalize hW:wr.alloc (.cells _ 79)=w2
      have hBW:Below wr.heap.size wr w2:=by rw[← hW];exact zr.alloc lr _
      replace hci:=V.keeps hBW hci
      clear k0 k1 k2 k3 k4 k5 k6 k7 k8 k9 k10 k11 k12 k13
      have k0:w2.cell? ⟨wr.heap.size,0,none⟩=some (.string g.name):=by rw[← hW,cellA];rfl
      have k1:w2.cell? ⟨wr.heap.size,1,none⟩=some (.int .u8 g.kind):=by rw[← hW,cellA];rfl
      have k2:w2.cell? ⟨wr.heap.size,2,none⟩=some (.bool g.down):=by rw[← hW,cellA];rfl
      have k3:w2.cell? ⟨wr.heap.size,3,none⟩=some (.int .u8 g.nulls):=by rw[← hW,cellA];rfl
      have k4:w2.cell? ⟨wr.heap.size,4,none⟩=some (.bool g.bnd):=by rw[← hW,cellA];rfl
      have k5:w2.cell? ⟨wr.heap.size,5,none⟩=some (.bool g.lob):=by rw[← hW,cellA];rfl
      have k6:w2.cell? ⟨wr.heap.size,6,none⟩=some (.string g.lom):=by rw[← hW,cellA];rfl
      have k7:w2.cell? ⟨wr.heap.size,7,none⟩=some (.bool g.hib):=by rw[← hW,cellA];rfl
      have k8:w2.cell? ⟨wr.heap.size,8,none⟩=some (.string g.him):=by rw[← hW,cellA];rfl
      have k9:w2.cell? ⟨wr.heap.size,9,none⟩=some (.int .i64 g.most):=by rw[← hW,cellA];rfl
      have k10:w2.cell? ⟨wr.heap.size,10,none⟩=some (.int .i64 g.co.str):=by rw[← hW,cellA];rfl
      have k11:w2.cell? ⟨wr.heap.size,11,none⟩=some (.bool g.co.sh):=by rw[← hW,cellA];rfl
      have k12:w2.cell? ⟨wr.heap.size,12,none⟩=some (.bool g.co.back):=by rw[← hW,cellA];rfl
      have k13:w2.cell? ⟨wr.heap.size,13,none⟩=some (.slice au g.fields.length cu):=by rw[← hW,cellA];rfl
      have HBW:=zh hBW
      clear hW hBW
      have hbd:Below w2.heap.size w2 w2.drew:=(Below.refl w2.heap.size w2).drew
      cases hfq:fitF g q with
      | true =>
       rw[hfq] at HFD
       go_region_held3 (fun w'=>w'.cell? ⟨wr.heap.size,0,none⟩=some (.string g.name)∧w'.cell? ⟨wr.heap.size,1,none⟩=some (.int .u8 g.kind)∧w'.cell? ⟨wr.heap.size,2,none⟩=some (.bool g.down)∧w'.cell? ⟨wr.heap.size,3,none⟩=some (.int .u8 g.nulls)∧w'.cell? ⟨wr.heap.size,4,none⟩=some (.bool g.bnd)∧w'.cell? ⟨wr.heap.size,5,none⟩=some (.bool g.lob)∧w'.cell? ⟨wr.heap.size,6,none⟩=some (.string g.lom)∧w'.cell? ⟨wr.heap.size,7,none⟩=some (.bool g.hib)∧w'.cell? ⟨wr.heap.size,8,none⟩=some (.string g.him)∧w'.cell? ⟨wr.heap.size,9,none⟩=some (.int .i64 g.most)∧w'.cell? ⟨wr.heap.size,10,none⟩=some (.int .i64 g.co.str)∧w'.cell? ⟨wr.heap.size,11,none⟩=some (.bool g.co.sh)∧w'.cell? ⟨wr.heap.size,12,none⟩=some (.bool g.co.back)∧w'.cell? ⟨wr.heap.size,13,none⟩=some (.slice au g.fields.length cu)∧w'.cell? ⟨gi,j,none⟩=some (ui)∧Below w2.heap.size w2 w') (go_keep) (first
        | (go_at_call 277;refine(at_in gi il cap j ui _ (by omega) (by omega) (by assumption)).mono ?_;rintro e w9 ⟨rfl,hb9⟩;have k0:=V.keeps hb9 (p:=⟨wr.heap.size,0,none⟩) (v:=.string g.name) (by assumption);have k1:=V.keeps hb9 (p:=⟨wr.heap.size,1,none⟩) (v:=.int .u8 g.kind) (by assumption);have k2:=V.keeps hb9 (p:=⟨wr.heap.size,2,none⟩) (v:=.bool g.down) (by assumption);have k3:=V.keeps hb9 (p:=⟨wr.heap.size,3,none⟩) (v:=.int .u8 g.nulls) (by assumption);have k4:=V.keeps hb9 (p:=⟨wr.heap.size,4,none⟩) (v:=.bool g.bnd) (by assumption);have k5:=V.keeps hb9 (p:=⟨wr.heap.size,5,none⟩) (v:=.bool g.lob) (by assumption);have k6:=V.keeps hb9 (p:=⟨wr.heap.size,6,none⟩) (v:=.string g.lom) (by assumption);have k7:=V.keeps hb9 (p:=⟨wr.heap.size,7,none⟩) (v:=.bool g.hib) (by assumption);have k8:=V.keeps hb9 (p:=⟨wr.heap.size,8,none⟩) (v:=.string g.him) (by assumption);have k9:=V.keeps hb9 (p:=⟨wr.heap.size,9,none⟩) (v:=.int .i64 g.most) (by assumption);have k10:=V.keeps hb9 (p:=⟨wr.heap.size,10,none⟩) (v:=.int .i64 g.co.str) (by assumption);have k11:=V.keeps hb9 (p:=⟨wr.heap.size,11,none⟩) (v:=.bool g.co.sh) (by assumption);have k12:=V.keeps hb9 (p:=⟨wr.heap.size,12,none⟩) (v:=.bool g.co.back) (by assumption);have k13:=V.keeps hb9 (p:=⟨wr.heap.size,13,none⟩) (v:=.slice au g.fields.length cu) (by assumption);have k14:=V.keeps hb9 (p:=⟨gi,j,none⟩) (v:=ui) (by assumption);have kb:=V.two (a:=_) (by assumption) hb9)
        | (go_at_call 29;have hcur:=(show Below w2.heap.size w2 _ from by assumption);refine(HI2.out au cu q ui _ HMQ.out (vi_later HVI.out (HBW.out.trans (hcur.mono HBW.out.size))) (fi_later HSUB.out (HBW.out.trans (hcur.mono HBW.out.size)))).mono ?_;intro e w9 he9;rw[hfq] at he9;obtain⟨rfl,hb9⟩:=he9.yes;have k0:=V.keeps hb9 (p:=⟨wr.heap.size,0,none⟩) (v:=.string g.name) (by assumption);have k1:=V.keeps hb9 (p:=⟨wr.heap.size,1,none⟩) (v:=.int .u8 g.kind) (by assumption);have k2:=V.keeps hb9 (p:=⟨wr.heap.size,2,none⟩) (v:=.bool g.down) (by assumption);have k3:=V.keeps hb9 (p:=⟨wr.heap.size,3,none⟩) (v:=.int .u8 g.nulls) (by assumption);have k4:=V.keeps hb9 (p:=⟨wr.heap.size,4,none⟩) (v:=.bool g.bnd) (by assumption);have k5:=V.keeps hb9 (p:=⟨wr.heap.size,5,none⟩) (v:=.bool g.lob) (by assumption);have k6:=V.keeps hb9 (p:=⟨wr.heap.size,6,none⟩) (v:=.string g.lom) (by assumption);have k7:=V.keeps hb9 (p:=⟨wr.heap.size,7,none⟩) (v:=.bool g.hib) (by assumption);have k8:=V.keeps hb9 (p:=⟨wr.heap.size,8,none⟩) (v:=.string g.him) (by assumption);have k9:=V.keeps hb9 (p:=⟨wr.heap.size,9,none⟩) (v:=.int .i64 g.most) (by assumption);have k10:=V.keeps hb9 (p:=⟨wr.heap.size,10,none⟩) (v:=.int .i64 g.co.str) (by assumption);have k11:=V.keeps hb9 (p:=⟨wr.heap.size,11,none⟩) (v:=.bool g.co.sh) (by assumption);have k12:=V.keeps hb9 (p:=⟨wr.heap.size,12,none⟩) (v:=.bool g.co.back) (by assumption);have k13:=V.keeps hb9 (p:=⟨wr.heap.size,13,none⟩) (v:=.slice au g.fields.length cu) (by assumption);have k14:=V.keeps hb9 (p:=⟨gi,j,none⟩) (v:=ui) (by assumption);have kb:=V.two (a:=_) (by assumption) hb9))
       have HB4:=zh (HB3.out.trans ((HBW.out.trans (kb.mono HBW.out.size)).mono HB3.out.size))
       clear kb hbd
       go_wp2_with fail
       exact⟨⟨j+1,by omega,by simp,HB4.out,zh (by rw[hfit.out,HFD.out,Bool.true_and])⟩,by simp[intOf];omega⟩
      | false =>
       go_region_held3 (fun w'=>w'.cell? ⟨wr.heap.size,0,none⟩=some (.string g.name)∧w'.cell? ⟨wr.heap.size,1,none⟩=some (.int .u8 g.kind)∧w'.cell? ⟨wr.heap.size,2,none⟩=some (.bool g.down)∧w'.cell? ⟨wr.heap.size,3,none⟩=some (.int .u8 g.nulls)∧w'.cell? ⟨wr.heap.size,4,none⟩=some (.bool g.bnd)∧w'.cell? ⟨wr.heap.size,5,none⟩=some (.bool g.lob)∧w'.cell? ⟨wr.heap.size,6,none⟩=some (.string g.lom)∧w'.cell? ⟨wr.heap.size,7,none⟩=some (.bool g.hib)∧w'.cell? ⟨wr.heap.size,8,none⟩=some (.string g.him)∧w'.cell? ⟨wr.heap.size,9,none⟩=some (.int .i64 g.most)∧w'.cell? ⟨wr.heap.size,10,none⟩=some (.int .i64 g.co.str)∧w'.cell? ⟨wr.heap.size,11,none⟩=some (.bool g.co.sh)∧w'.cell? ⟨wr.heap.size,12,none⟩=some (.bool g.co.back)∧w'.cell? ⟨wr.heap.size,13,none⟩=some (.slice au g.fields.length cu)∧w'.cell? ⟨gi,j,none⟩=some (ui)∧Below w2.heap.size w2 w') (go_keep) (first
        | (go_at_call 277;refine(at_in gi il cap j ui _ (by omega) (by omega) (by assumption)).mono ?_;rintro e w9 ⟨rfl,hb9⟩;have k0:=V.keeps hb9 (p:=⟨wr.heap.size,0,none⟩) (v:=.string g.name) (by assumption);have k1:=V.keeps hb9 (p:=⟨wr.heap.size,1,none⟩) (v:=.int .u8 g.kind) (by assumption);have k2:=V.keeps hb9 (p:=⟨wr.heap.size,2,none⟩) (v:=.bool g.down) (by assumption);have k3:=V.keeps hb9 (p:=⟨wr.heap.size,3,none⟩) (v:=.int .u8 g.nulls) (by assumption);have k4:=V.keeps hb9 (p:=⟨wr.heap.size,4,none⟩) (v:=.bool g.bnd) (by assumption);have k5:=V.keeps hb9 (p:=⟨wr.heap.size,5,none⟩) (v:=.bool g.lob) (by assumption);have k6:=V.keeps hb9 (p:=⟨wr.heap.size,6,none⟩) (v:=.string g.lom) (by assumption);have k7:=V.keeps hb9 (p:=⟨wr.heap.size,7,none⟩) (v:=.bool g.hib) (by assumption);have k8:=V.keeps hb9 (p:=⟨wr.heap.size,8,none⟩) (v:=.string g.him) (by assumption);have k9:=V.keeps hb9 (p:=⟨wr.heap.size,9,none⟩) (v:=.int .i64 g.most) (by assumption);have k10:=V.keeps hb9 (p:=⟨wr.heap.size,10,none⟩) (v:=.int .i64 g.co.str) (by assumption);have k11:=V.keeps hb9 (p:=⟨wr.heap.size,11,none⟩) (v:=.bool g.co.sh) (by assumption);have k12:=V.keeps hb9 (p:=⟨wr.heap.size,12,none⟩) (v:=.bool g.co.back) (by assumption);have k13:=V.keeps hb9 (p:=⟨wr.heap.size,13,none⟩) (v:=.slice au g.fields.length cu) (by assumption);have k14:=V.keeps hb9 (p:=⟨gi,j,none⟩) (v:=ui) (by assumption);have kb:=V.two (a:=_) (by assumption) hb9)
        | (go_at_call 29;have hcur:=(show Below w2.heap.size w2 _ from by assumption);refine(HI2.out au cu q ui _ HMQ.out (vi_later HVI.out (HBW.out.trans (hcur.mono HBW.out.size))) (fi_later HSUB.out (HBW.out.trans (hcur.mono HBW.out.size)))).mono ?_;intro e w9 he9;rw[hfq] at he9;obtain⟨fb,⟨hfb,rfl,hfo⟩,hb9⟩:=he9.no;have HFO:=zh hfo;clear hfo;have hwfb:=Nat.le_trans hcur.size hfb;have k0:=V.keeps hb9 (p:=⟨wr.heap.size,0,none⟩) (v:=.string g.name) (by assumption);have k1:=V.keeps hb9 (p:=⟨wr.heap.size,1,none⟩) (v:=.int .u8 g.kind) (by assumption);have k2:=V.keeps hb9 (p:=⟨wr.heap.size,2,none⟩) (v:=.bool g.down) (by assumption);have k3:=V.keeps hb9 (p:=⟨wr.heap.size,3,none⟩) (v:=.int .u8 g.nulls) (by assumption);have k4:=V.keeps hb9 (p:=⟨wr.heap.size,4,none⟩) (v:=.bool g.bnd) (by assumption);have k5:=V.keeps hb9 (p:=⟨wr.heap.size,5,none⟩) (v:=.bool g.lob) (by assumption);have k6:=V.keeps hb9 (p:=⟨wr.heap.size,6,none⟩) (v:=.string g.lom) (by assumption);have k7:=V.keeps hb9 (p:=⟨wr.heap.size,7,none⟩) (v:=.bool g.hib) (by assumption);have k8:=V.keeps hb9 (p:=⟨wr.heap.size,8,none⟩) (v:=.string g.him) (by assumption);have k9:=V.keeps hb9 (p:=⟨wr.heap.size,9,none⟩) (v:=.int .i64 g.most) (by assumption);have k10:=V.keeps hb9 (p:=⟨wr.heap.size,10,none⟩) (v:=.int .i64 g.co.str) (by assumption);have k11:=V.keeps hb9 (p:=⟨wr.heap.size,11,none⟩) (v:=.bool g.co.sh) (by assumption);have k12:=V.keeps hb9 (p:=⟨wr.heap.size,12,none⟩) (v:=.bool g.co.back) (by assumption);have k13:=V.keeps hb9 (p:=⟨wr.heap.size,13,none⟩) (v:=.slice au g.fields.length cu) (by assumption);have k14:=V.keeps hb9 (p:=⟨gi,j,none⟩) (v:=ui) (by assumption);have kb:=V.two (a:=_) (by assumption) hb9))
       have HB4:=zh (HB3.out.trans ((HBW.out.trans (kb.mono HBW.out.size)).mono HB3.out.size))
       have hzb:=Nat.le_trans HBW.out.size kb.size
       clear kb hbd
       obtain⟨fc,fat,pv,lp,why,hbl,hpv,hlp,hwhy⟩:=HFO.out
       obtain⟨pa,pc,rfl,_⟩:=hpv.form
       have f0:=hbl.cell 0
       have f1:=hbl.cell 1
       have f2:=hbl.cell 2
       have f3:=hbl.cell 3
       have z2:=hbl.frozen 2
       have hfl2:=hbl.lt
       simp at f0 f1 f2 f3
       have HBL:=zh hbl
       have HPV:=zh (show ∀ o,IntsIn (w9.alloc o) 0 w9.heap.size (.slice pa lp.length pc) lp from fun o=>hpv.reads.later (zr.alloc lr _))
       clear hbl hpv HFO
       go_wp2_with (first
        | (at_builtin;refine wpList_append_ints rfl (.tmp 33) (.tmp 37) rfl rfl (OwnN.one w9 w9.heap.size _ lr) rfl (HPV.out _) (by simp;omega) (zr.alloc lr _) (by simp) ?_;intro c2 cap2 w3 hO3 hB3 hs3 hz3;have g2:=(hB3.cell (p:=⟨fb,2,none⟩) hfl2).trans f2;have y2:w3.frozen? ⟨fb,2,none⟩=false:=(Blk.below HBL.out hB3 hfl2).frozen 2;have hfl3:=Nat.lt_of_lt_of_le hfl2 hB3.size))
       go_ret
       rw[show (il==il&&fitL F p.items)=false by rw[HX.out,hfit.out,HFD.out,hfq];rfl]
       have hle:w.heap.size≤fb:=Nat.le_trans (Nat.le_trans HB3.out.size HBW.out.size) hwfb
       refine⟨⟨fb,hle,rfl,fc,fat,.slice c2 (1+lp.length) cap2,[(j:Int)]++lp,why,by simpa using (Blk.below HBL.out hB3 hfl2).set_ 2 (.slice c2 (1+lp.length) cap2),?_,by simp;omega,hwhy⟩,(HB4.out.trans (hB3.mono HB4.out.size)).setCell hle _⟩
       refine IntsP.keep (w:=w3) (bad:=(· = fb)) (IntsP.of (OwnN.reads hO3) lr (fun k h1 _ e=>by omega)) (by simp[World.setCell]) (fun k _ hne=>Below.heap_setCell _ _ _ _ hne) (fun _ _ e=>e)
    · have q2:decide ((j:Int)<(il:Int))=false:=decide_eq_false (by omega)
      have hje:j=il:=by omega
      have HE:=zh (show fitL F p.items=true by rw[hfit.out,List.drop_of_length_le (show F.length≤j by omega),fitL_nil])
      clear hje hm hil2
      go_wp2_with fail
      go_ret
      rw[HX.out,HE.out]
      exact FitPost.ok hB
 · have q1:((il:Int) != (m:Int))=true:=by simp;omega
   have HX:=zh (show (il==m&&fitL F p.items)=false by rw[show (il==m)=false by simpa using hne];rfl)
   clear hne
   go_wp2_with fail
   go_ret
   rw[HX.out]
   exact FitPost.new rfl HB2.out (.inl rfl)
