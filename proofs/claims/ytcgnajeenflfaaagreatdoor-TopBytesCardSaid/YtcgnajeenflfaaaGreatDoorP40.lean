import Derived.Test.YtcgnajeenflfaaaGreatDoorP37
import Derived.Test.YtcgnajeenflfaaaGreatDoorP38
import Derived.Test.YtcgnajeenflfaaaGreatDoorP39
set_option maxRecDepth 100000
set_option maxHeartbeats 4000000
set_option linter.all false
open Go.Proofs.Tryz Go.RowKit
namespace Go.Proofs.YtcgnajeenflfaaaGreatDoor
namespace Sc
open We (Co TblAt WfT keyM)
open D (Dm Wf)
open Ta (Tm)
theorem part_any {D:Dm} (wf:Wf D) {T:Tm} (wt:WfT T) (t:Addr) (f:Fd):∀ d,OkF d f→ReadAt 41 (rdF (keyM D T) f) D T t f d:=by
 induction f using Fd.ind with
 | h f ih =>
  intro d hok
  refine part_of t f d hok ?_
  have hok2:=hok
  obtain⟨_,_,_,_,ho,_,_,hin⟩:=hok2
  obtain⟨⟨h1,h7,_⟩,_⟩:=odd_not ho
  have hc:f.kind=1∨f.kind=2∨f.kind=3∨f.kind=4∨f.kind=5∨f.kind=6∨f.kind=7:=by omega
  rcases hc with h | h | h | h | h | h | h
  · exact payr_bool t f d hok h
  · exact payr_num t f d hok h
  · exact payr_bytes t f d hok h
  · exact payr_id t f d hok h
  · exact payr_name t f d hok h
  · exact payr_text wf wt t f d hok h
  · exact payr_tuple t f d hok h fun g hg=>ih g hg (d+1) (hin g hg)
open V (Same Pt VI mayB mayB_ok PS)
def FTook (R:Option (Pt×List UInt8)) (s:ByteArray) (w:World) (e:Ending) (w':World):Prop :=
 (match R with
  | some (p,l)=>∃ (u:Value) (n:Nat),e=.returned (.tuple #[u,.int .i64 (n:Int),.nilIface])∧n≤s.size∧l=s.toList.drop n∧VI w' w.heap.size w'.heap.size p u
  | none=>∃ fb c at_ pv lp why,w.heap.size≤fb∧e=.returned (.tuple #[.nilIface,.int .i64 0,.iface 39 (.pointer (some ⟨fb,0,none⟩))])∧Blk w' fb 44 #[.int .i64 c,.int .i64 at_,pv,why]∧IntsP w' (fun k=>k=fb∨k<w.heap.size) pv lp∧lp.length≤17∧(0≤at_∧at_≤s.size)∧(why=.nilIface∨∃ T V,why=.iface T V))∧Below w.heap.size w w'
theorem tleaves_good (g:Nat) (R:Option (Pt×List UInt8)) (s:ByteArray) (w:World) (tmps:Array Value) {w1:World} {u:Value} {n:Nat} (h6:tmps.getD 6 undef=.pointer (some ⟨g+1,0,none⟩)) (h7:tmps.getD 7 undef=.pointer (some ⟨g+1+1,0,none⟩)) (h8:tmps.getD 8 undef=.pointer (some ⟨g+1+1+1,0,none⟩))
 (hb0:Blk w1 (g+1) 34 #[u]) (hb1:Blk w1 (g+1+1) 3 #[.int .i64 (n:Int)]) (hb2:Blk w1 (g+1+1+1) 36 #[.nilIface]) (hp:FTook R s w (.returned (.tuple #[u,.int .i64 (n:Int),.nilIface])) w1) :
 Leaves prog Tryz.f22 tmps (FTook R s w) [{ target:=.fn (.func 40) #[.pointer (some ⟨g+1,0,none⟩),.pointer (some ⟨g+1+1,0,none⟩),.pointer (some ⟨g+1+1+1,0,none⟩)],args:=#[] }] .returning w1:=by
 have d0:=hb0.cell 0
 have d1:=hb1.cell 0
 have d2:=hb2.cell 0
 simp at d0 d1 d2
 refine leaves_cons (f:=40) (args:=#[.pointer (some ⟨g+1,0,none⟩),.pointer (some ⟨g+1+1,0,none⟩),.pointer (some ⟨g+1+1+1,0,none⟩)]) (by simp) (by simp[go_sem]) ?_
 refine(tcatch_idle _ _ _ w1).mono ?_
 rintro e u' w2 ⟨rfl,rfl,rfl⟩
 refine⟨.tuple #[u,.int .i64 (n:Int),.nilIface],?_,hp⟩
 simp only [Array.getD_eq_getD_getElem?] at h6 h7 h8
 simp[results,Tryz.results22,go_sem,h6,h7,h8,d0,d1,d2]
theorem tleaves_bad (g:Nat) (s:ByteArray) (w:World) (tmps:Array Value) {w1:World} {v n er:Value} {ch:List PanicEntry} (h6:tmps.getD 6 undef=.pointer (some ⟨g+1,0,none⟩)) (h7:tmps.getD 7 undef=.pointer (some ⟨g+1+1,0,none⟩)) (h8:tmps.getD 8 undef=.pointer (some ⟨g+1+1+1,0,none⟩))
 (hb0:Blk w1 (g+1) 34 #[v]) (hb1:Blk w1 (g+1+1) 3 #[n]) (hb2:Blk w1 (g+1+1+1) 36 #[er]) (hgw:w.heap.size=g) {wx:World} (hx:g+1+1+1<wx.heap.size) (hf:Fails s.size wx (.panicked ch) w1) (hB:Below w.heap.size w w1) :
 Leaves prog Tryz.f22 tmps (FTook none s w) [{ target:=.fn (.func 40) #[.pointer (some ⟨g+1,0,none⟩),.pointer (some ⟨g+1+1,0,none⟩),.pointer (some ⟨g+1+1+1,0,none⟩)],args:=#[] }] (.panicking ch) w1:=by
 obtain⟨fb,c,a,pv,lp,why,f1,f2,f3,f4,f5,f6,f7⟩:=hf
 injection f2 with f2
 subst f2
 refine leaves_cons (f:=40) (args:=#[.pointer (some ⟨g+1,0,none⟩),.pointer (some ⟨g+1+1,0,none⟩),.pointer (some ⟨g+1+1+1,0,none⟩)]) (by simp) (by simp[go_sem]) ?_
 refine(tcatch_bad (g+1) (g+1+1) (g+1+1+1) fb v n er w1 hb0 hb1 hb2 (by omega) (by omega)).mono ?_
 rintro e u' w2 ⟨rfl,rfl,⟨e0,e1,e2⟩,hx2⟩
 have d0:=e0.cell 0
 have d1:=e1.cell 0
 have d2:=e2.cell 0
 simp at d0 d1 d2
 refine⟨.tuple #[.nilIface,.int .i64 0,.iface 39 (.pointer (some ⟨fb,0,none⟩))],?_,⟨⟨fb,c,a,pv,lp,why,by omega,rfl,hx2.blk (fun e=>by omega) f3,?_,f5,f6,f7⟩,hB.trans (hx2.below (fun k hk e=>by omega) (by have:=hB.size;omega))⟩⟩
 · simp only [Array.getD_eq_getD_getElem?] at h6 h7 h8
   simp[results,Tryz.results22,go_sem,h6,h7,h8,d0,d1,d2]
 · exact f4.keep hx2.size (fun k hk hn=>hx2.block k hk fun e=>hn (.inr (by omega))) (fun k _ e=>e.imp id fun e=>by omega)
theorem leftL_zero (b:ByteArray) (a:Nat):leftL b a false=b.toList.drop a:=by
 unfold leftL flips
 exact List.map_id' _
theorem make_zero {p:Pt} (h:mayB p=true) (hd:V.depthP p≤15):V.makeE p=0:=by
 unfold V.makeE
 cases hq:V.deepB 16 p with
 | true=>have:=(V.deepB_iff 16 p).1 hq;omega
 | false=>simp[h]
theorem blk_drew {w:World} {g:Nat} {t:TypeId} {cs:Array Value} (h:Blk w g t cs):Blk w.drew g t cs:=h
theorem take_end {C:Prop} {T0 T1 T2 lo a:Nat} {w w5:World} {u:Value} {p:Pt} (h01:T0<T1) (h12:T1<T2) (h2:T2<lo) (hw:w.heap.size≤T0) (hlo:lo≤w5.heap.size) {v0 v1 v2:Value} (b0:Blk w5 T0 34 #[v0]) (b1:Blk w5 T1 3 #[v1]) (b2:Blk w5 T2 36 #[v2])
 (hv:VI w5 lo w5.heap.size p u) (hB:Below w.heap.size w w5)
 (h:(Blk ((((w5.setCell ⟨T0,0,none⟩ u).setCell ⟨T0,0,none⟩ u).setCell ⟨T1,0,none⟩ (.int .i64 (a:Int))).setCell ⟨T2,0,none⟩ .nilIface).drew T0 34 #[u] ∧
  Blk ((((w5.setCell ⟨T0,0,none⟩ u).setCell ⟨T0,0,none⟩ u).setCell ⟨T1,0,none⟩ (.int .i64 (a:Int))).setCell ⟨T2,0,none⟩ .nilIface).drew T1 3 #[.int .i64 (a:Int)] ∧
  Blk ((((w5.setCell ⟨T0,0,none⟩ u).setCell ⟨T0,0,none⟩ u).setCell ⟨T1,0,none⟩ (.int .i64 (a:Int))).setCell ⟨T2,0,none⟩ .nilIface).drew T2 36 #[.nilIface] ∧
  VI ((((w5.setCell ⟨T0,0,none⟩ u).setCell ⟨T0,0,none⟩ u).setCell ⟨T1,0,none⟩ (.int .i64 (a:Int))).setCell ⟨T2,0,none⟩ .nilIface).drew w.heap.size ((((w5.setCell ⟨T0,0,none⟩ u).setCell ⟨T0,0,none⟩ u).setCell ⟨T1,0,none⟩ (.int .i64 (a:Int))).setCell ⟨T2,0,none⟩ .nilIface).drew.heap.size p u ∧
  Below w.heap.size w ((((w5.setCell ⟨T0,0,none⟩ u).setCell ⟨T0,0,none⟩ u).setCell ⟨T1,0,none⟩ (.int .i64 (a:Int))).setCell ⟨T2,0,none⟩ .nilIface).drew)→C):C:=by
 have XF:Xv (fun k=>k=T0∨k=T1∨k=T2) w5 ((((w5.setCell ⟨T0,0,none⟩ u).setCell ⟨T0,0,none⟩ u).setCell ⟨T1,0,none⟩ (.int .i64 (a:Int))).setCell ⟨T2,0,none⟩ .nilIface).drew :=
  (((((Xv.refl (fun k=>k=T0∨k=T1∨k=T2) w5).set_ (b:=T0) (fun _=>Or.inl rfl) 0 u).set_ (b:=T0) (fun _=>Or.inl rfl) 0 u).set_ (b:=T1) (fun _=>Or.inr (Or.inl rfl)) 0 (.int .i64 (a:Int))).set_ (b:=T2) (fun _=>Or.inr (Or.inr rfl)) 0 .nilIface).drew
 have e0:Blk ((w5.setCell ⟨T0,0,none⟩ u).setCell ⟨T0,0,none⟩ u) T0 34 #[u]:=by simpa using (b0.set_ 0 u).set_ 0 u
 have e1:Blk (((w5.setCell ⟨T0,0,none⟩ u).setCell ⟨T0,0,none⟩ u).setCell ⟨T1,0,none⟩ (.int .i64 (a:Int))) T1 3 #[.int .i64 (a:Int)]:=by simpa using (blk_set (blk_set b1 (by omega:T1≠T0) 0 u) (by omega:T1≠T0) 0 u).set_ 0 (.int .i64 (a:Int))
 have e2:Blk ((((w5.setCell ⟨T0,0,none⟩ u).setCell ⟨T0,0,none⟩ u).setCell ⟨T1,0,none⟩ (.int .i64 (a:Int))).setCell ⟨T2,0,none⟩ .nilIface) T2 36 #[.nilIface]:=by
  simpa using (blk_set (blk_set (blk_set b2 (by omega:T2≠T0) 0 u) (by omega:T2≠T0) 0 u) (by omega:T2≠T1) 0 (.int .i64 (a:Int))).set_ 0 .nilIface
 exact h ⟨blk_drew (blk_set (blk_set e0 (by omega) 0 _) (by omega) 0 _),blk_drew (blk_set e1 (by omega) 0 _),blk_drew e2,(hv.same (XF.same (fun k h1 _ e=>by omega) lr)).wide (by omega) XF.size,hB.trans (XF.below (fun k hk e=>by omega) hB.size)⟩
theorem Take_any {D:Dm} (wf:Wf D) {T:Tm} (wt:WfT T) (t:Addr) (f:Fd) (hok:okS 65536 [f]=true) (hff:FFit f) (a0:Option Addr) (k0:Nat) (s:ByteArray) (w:World) (hs:s.size≤4194304) (htb:Tb D T t w) (hfi:FI w 0 w.heap.size f.fields (.slice a0 f.fields.length k0)) :
 Calls prog 22 #[.pointer (some t),.agg (fcells f (.slice a0 f.fields.length k0)).toArray,.string s] w (FTook (rdF (keyM D T) f s.toList) s w):=by
 have hokf:=(okS_all hok).2.2.2.2 f List.mem_cons_self
 have hmf:∀ (fn:Fn) (first cap:Array Value) (w:World),(Instr.makeFunc fn first cap).run prog w=.ok (.func fn first cap) w:=fun _ _ _ _=>rfl
 have HR:=zh (fun (w':World) (hb:Below w.heap.size w w')=>fieldRefused_any f a0 k0 t w' hff (fi_later hfi hb))
 have HPT:=zh (fun (w':World) (rb:Nat) (hrb:w.heap.size≤rb) (hb:Below w.heap.size w w') (hr:Rdr w' rb (.pointer (some t)) s 0 false (.slice none 0 0))=>part_any wf wt t f 0 hokf w.heap.size a0 k0 rb s 0 false (.slice none 0 0) [] w' hs (Nat.zero_le _) hrb lr hr (OwnN.nil _ _) (htb.later hb lr) (hfi.same (Same.of_below hb lr)))
 rw[hok] at HR
 obtain⟨Z,hZ⟩:∃ Z,rdF (keyM D T) f s.toList=Z:=⟨_,rfl⟩
 rw[leftL_zero,List.drop_zero,hZ] at HPT
 have HSO:=zh (fun p l (e:rdF (keyM D T) f s.toList=some (p,l))=>rdF_sound f 0 hokf _ _ _ e)
 rw[hZ] at HSO ⊢
 obtain⟨m,hm⟩:∃ m,f.fields.length=m:=⟨_,rfl⟩
 rw[hm,fcells_14] at HR HPT
 rw[hm,fcells_14]
 clear hZ hfi htb hokf hm hff hok
 have HC:=zh (show ∀ W,Below (w.heap.size+1+1+1+1) ((((w.alloc (.cells #[.string f.name,.int .u8 f.kind,.bool f.down,.int .u8 f.nulls,.bool f.bnd,.bool f.lob,.string f.lom,.bool f.hib,.string f.him,.int .i64 f.most,.int .i64 f.co.str,.bool f.co.sh,.bool f.co.back,.slice a0 m k0] 79)).alloc (.cells #[.nilIface] 34)).alloc (.cells #[.int .i64 0] 3)).alloc (.cells #[.nilIface] 36)) W →
  Blk W w.heap.size 79 #[.string f.name,.int .u8 f.kind,.bool f.down,.int .u8 f.nulls,.bool f.bnd,.bool f.lob,.string f.lom,.bool f.hib,.string f.him,.int .i64 f.most,.int .i64 f.co.str,.bool f.co.sh,.bool f.co.back,.slice a0 m k0] ∧
  Blk W (w.heap.size+1) 34 #[.nilIface]∧Blk W (w.heap.size+1+1) 3 #[.int .i64 0]∧Blk W (w.heap.size+1+1+1) 36 #[.nilIface]∧Below w.heap.size w W from fun W hW=>by
  obtain⟨A1,hA1⟩:∃ A1,A1=w.alloc (.cells #[.string f.name,.int .u8 f.kind,.bool f.down,.int .u8 f.nulls,.bool f.bnd,.bool f.lob,.string f.lom,.bool f.hib,.string f.him,.int .i64 f.most,.int .i64 f.co.str,.bool f.co.sh,.bool f.co.back,.slice a0 m k0] 79):=⟨_,rfl⟩
  rw[← hA1] at hW
  have z1:A1.heap.size=w.heap.size+1:=by rw[hA1];simp
  have b1:Blk A1 w.heap.size 79 #[.string f.name,.int .u8 f.kind,.bool f.down,.int .u8 f.nulls,.bool f.bnd,.bool f.lob,.string f.lom,.bool f.hib,.string f.him,.int .i64 f.most,.int .i64 f.co.str,.bool f.co.sh,.bool f.co.back,.slice a0 m k0]:=by rw[hA1];exact Blk.new _ _ _
  have e1:Below w.heap.size w A1:=by rw[hA1];exact zr.alloc lr _
  obtain⟨A2,hA2⟩:∃ A2,A2=A1.alloc (.cells #[.nilIface] 34):=⟨_,rfl⟩
  rw[← hA2] at hW
  have z2:A2.heap.size=w.heap.size+1+1:=by rw[hA2];simp[z1]
  have b2:Blk A2 (w.heap.size+1) 34 #[.nilIface]:=by rw[hA2,← z1];exact Blk.new _ _ _
  have e2:Below A1.heap.size A1 A2:=by rw[hA2];exact zr.alloc lr _
  obtain⟨A3,hA3⟩:∃ A3,A3=A2.alloc (.cells #[.int .i64 0] 3):=⟨_,rfl⟩
  rw[← hA3] at hW
  have z3:A3.heap.size=w.heap.size+1+1+1:=by rw[hA3];simp[z2]
  have b3:Blk A3 (w.heap.size+1+1) 3 #[.int .i64 0]:=by rw[hA3,← z2];exact Blk.new _ _ _
  have e3:Below A2.heap.size A2 A3:=by rw[hA3];exact zr.alloc lr _
  have b4:Blk (A3.alloc (.cells #[.nilIface] 36)) (w.heap.size+1+1+1) 36 #[.nilIface]:=by rw[← z3];exact Blk.new _ _ _
  have e4:Below A3.heap.size A3 (A3.alloc (.cells #[.nilIface] 36)):=zr.alloc lr _
  exact⟨Blk.below (Blk.below (Blk.below (Blk.below b1 e2 b1.lt) e3 (by omega)) e4 (by omega)) hW (by omega),Blk.below (Blk.below (Blk.below b2 e3 b2.lt) e4 (by omega)) hW (by omega),Blk.below (Blk.below b3 e4 b3.lt) hW (by omega),Blk.below b4 hW (by omega),
   e1.trans ((e2.mono (by omega)).trans ((e3.mono (by omega)).trans ((e4.mono (by omega)).trans (hW.mono (by omega)))))⟩)
 go_enter_defers func22,ntmps22
 have hB0:=(HC.out _ zr).2.2.2.2
 have HB0:=zh hB0
 clear hB0
 go_wp2_with (go_at_call 39;refine(HR.out _ HB0.out).mono ?_;intro e w1 he;obtain⟨rfl,hb1⟩:=he.yes;obtain⟨q1,q2,q3,q4,q5⟩:=HC.out w1 (hb1.mono (by simp));have HQ:=zh (And.intro q2 (And.intro q3 (And.intro q4 q5)));obtain⟨c0,c1,c2,c3,c4,c5,c6,c7,c8,c9,c10,c11,c12,c13⟩:=f14 q1;have HF1:=zh q1;have l1:=q1.lt;clear q1 q2 q3 q4 q5 hb1)
 obtain⟨W2,hW2⟩:∃ W2,w1.alloc (.cells #[.pointer (some t),.string s,.int .i64 0,.int .u8 0,.slice none 0 0] 111)=W2:=⟨_,rfl⟩
 rw[hW2]
 have hb2:Below w1.heap.size w1 W2:=by rw[← hW2];exact zr.alloc lr _
 have hR2:Rdr W2 w1.heap.size (.pointer (some t)) s 0 false (.slice none 0 0):=by rw[← hW2];exact Blk.new _ _ _
 obtain⟨q2,q3,q4,q5⟩:=HQ.out
 have hB2:Below w.heap.size w W2:=q5.trans (hb2.mono q5.size)
 have Q2:=zh (Blk.below q2 hb2 q2.lt)
 have Q3:=zh (Blk.below q3 hb2 q3.lt)
 have Q4:=zh (Blk.below q4 hb2 q4.lt)
 have hr1:w.heap.size+1+1+1<w1.heap.size:=q4.lt
 have hr2:w1.heap.size<W2.heap.size:=hR2.lt
 have HB2:=zh hB2
 have HPP:=zh (HPT.out W2 w1.heap.size q5.size hB2 hR2)
 clear hW2 hb2 hR2 q2 q3 q4 q5 hB2 c0 c1 c2 c3 c4 c5 c6 c7 c8 c9 c10 c11 c12 c13
 refine HPP.out.mono ?_
 intro e w3 hpg
 cases Z with
 | none =>
  obtain⟨hf,hx⟩:=hpg
  obtain⟨ch,rfl⟩:=hf.form
  have hxb:Below w1.heap.size W2 w3:=hx.below (fun k hk e=>by
   rcases e with e | e
   · omega
   · cases e) (by omega)
  exact tleaves_bad w.heap.size s w _ rfl rfl rfl (Blk.below Q2.out hxb (by omega)) (Blk.below Q3.out hxb (by omega)) (Blk.below Q4.out hxb (by omega)) rfl (by omega) hf (HB2.out.trans (hxb.mono (by have:=HB2.out.size;omega)))
 | some x =>
  obtain⟨p,l⟩:=x
  obtain⟨⟨u,a,pv2,rfl,ha,rfl,hr3,_,_,hps⟩,hx⟩:=hpg
  have hxb:Below w1.heap.size W2 w3:=hx.below (fun k hk e=>by
   rcases e with e | e
   · omega
   · cases e) (by omega)
  obtain⟨ua,uc,rfl⟩:=hps.form
  obtain⟨_,_,hmay,hdep⟩:=HSO.out p _ rfl
  have HB3:=zh (HB2.out.trans (hxb.mono (by have:=HB2.out.size;omega)))
  have HR3:=zh hr3
  have P2:=zh (Blk.below Q2.out hxb (by omega))
  have P3:=zh (Blk.below Q3.out hxb (by omega))
  have P4:=zh (Blk.below Q4.out hxb (by omega))
  have HMK:=zh (fun (w4:World) (hb:Below w3.heap.size w3 w4)=>V.make_any p (.slice ua p.items.length uc) w4 (fit_of_may hmay) ((hps.keep hb.size (fun k hk _=>hb.block k hk) (fun _ _ h=>h)).reads))
  have HZ0:=zh (make_zero hmay (by omega))
  obtain⟨pn,hpn⟩:∃ pn,p.items.length=pn:=⟨_,rfl⟩
  rw[hpn] at HMK ⊢
  simp only [V.cellsOf]
  clear hps hx hxb hr3 hmay hdep hpn
  go_wp2_with fail
  obtain⟨W4,hW4⟩:∃ W4,w3.alloc (.cells #[.int .u8 p.kind,.bool p.yes,.bool p.neg,.string p.mag,.string p.raw,.slice ua pn uc] 57)=W4:=⟨_,rfl⟩
  rw[hW4]
  have hb4:Below w3.heap.size w3 W4:=by rw[← hW4];exact zr.alloc lr _
  refine(HMK.out W4 hb4).mono ?_
  rintro e w5 ⟨u2,rfl,-,hv5,hb5⟩
  have hv5:=hv5 HZ0.out
  rw[HZ0.out]
  have hb35:Below w3.heap.size w3 w5:=hb4.trans (hb5.mono hb4.size)
  have HB5:=zh (HB3.out.trans (hb35.mono HB3.out.size))
  have R2:=zh (Blk.below P2.out hb35 P2.out.lt)
  have R3:=zh (Blk.below P3.out hb35 P3.out.lt)
  have R4:=zh (Blk.below P4.out hb35 P4.out.lt)
  have HR5:=zh (show Rdr w5 w1.heap.size (.pointer (some t)) s a false pv2 from Blk.below HR3.out hb35 HR3.out.lt)
  have HV5:=zh hv5
  have t0:w5.cell? ⟨w.heap.size+1,0,none⟩=some .nilIface:=R2.out.cell 0
  have t1:w5.cell? ⟨w.heap.size+1+1,0,none⟩=some (.int .i64 0):=R3.out.cell 0
  have t2:w5.cell? ⟨w.heap.size+1+1+1,0,none⟩=some .nilIface:=R4.out.cell 0
  have z0:=R2.out.frozen 0
  have z1:=R3.out.frozen 0
  have z2:=R4.out.frozen 0
  have ra:w5.cell? ⟨w1.heap.size,2,none⟩=some (.int .i64 (a:Int)):=HR5.out.cell 2
  have hsz5:w3.heap.size<W4.heap.size∧W4.heap.size≤w5.heap.size:=⟨by rw[← hW4];simp,hb5.size⟩
  have hl3:=P4.out.lt
  have hvs:u2=.nilIface∨∃ T V,u2=.iface T V:=by
   by_cases h0:p.kind=0
   · exact .inl (hv5.nilOf h0)
   · obtain⟨T,V,_,h,_⟩:=hv5.kindOf h0
     exact .inr ⟨T,V,h⟩
  clear hb4 hb5 hb35 hv5 hW4
  rcases hvs with rfl | ⟨U2,V2,rfl⟩
  all_goals
   go_wp2_with fail
   go_region
   go_wp2_with fail
   refine take_end (T0:=w.heap.size+1) (T1:=w.heap.size+1+1) (T2:=w.heap.size+1+1+1) (w:=w) (w5:=w5) (lo:=W4.heap.size) (p:=p) (a:=a) (by omega) (by omega) (by omega) (by omega) (by omega) R2.out R3.out R4.out HV5.out HB5.out ?_
   rintro ⟨e0,e1,e2,e3,e4⟩
   exact tleaves_good w.heap.size _ s w _ rfl rfl rfl e0 e1 e2 ⟨⟨_,a,rfl,ha,leftL_zero s a,e3⟩,e4⟩
open V (Same Pt VI mayB mayB_ok depthP)
def DecPost (R:Option Pt) (n:Nat) (w:World) (e:Ending) (w':World):Prop :=
 (match R with
  | some p=>∃ u,e=.returned (.tuple #[u,.nilIface])∧VI w' w.heap.size w'.heap.size p u
  | none=>∃ fb c at_ pv why,w.heap.size≤fb∧e=.returned (.tuple #[.nilIface,.iface 39 (.pointer (some ⟨fb,0,none⟩))])∧Blk w' fb 44 #[.int .i64 c,.int .i64 at_,pv,why]∧0≤at_∧at_≤n)∧Below w.heap.size w w'
theorem DecPost.no {R:Option Pt} {n fb:Nat} {w w':World} {c at_:Int} {pv why:Value} (h:R=none) (h1:w.heap.size≤fb) (h2:Blk w' fb 44 #[.int .i64 c,.int .i64 at_,pv,why]) (h3:0≤at_) (h4:at_≤n) (h5:Below w.heap.size w w') :
 DecPost R n w (.returned (.tuple #[.nilIface,.iface 39 (.pointer (some ⟨fb,0,none⟩))])) w':=by
 unfold DecPost;rw[h];exact⟨⟨fb,c,at_,pv,why,h1,rfl,h2,h3,h4⟩,h5⟩
theorem refusedNo_any (lim:Int) (F:List Fd) (a:Option Addr) (c:Nat) (t:Addr) (w:World) (hl:F.length≤140737488351232) (hfi:FI w 0 w.heap.size F (.slice a F.length c)) (hno:okS lim F=false) :
 Calls prog 21 #[.pointer (some t),.agg #[.int .i64 lim,.slice a F.length c]] w fun e w'=>∃ fb c why,w.heap.size≤fb∧e=.returned (.iface 39 (.pointer (some ⟨fb,0,none⟩)))∧Blk w' fb 44 #[.int .i64 c,.int .i64 0,.slice none 0 0,why]∧Below w.heap.size w w':=by
 have HS:=zh (fun o=>SCheck_any lim F a c (w.alloc o) hl (fi_later hfi (zr.alloc lr o)))
 obtain⟨m,hm⟩:∃ m,F.length=m:=⟨_,rfl⟩
 rw[hno,hm] at HS
 rw[hm]
 clear hno hm hfi hl
 go_enter func21,ntmps21
 go_wp2_with (go_at_call 27;refine(HS.out _).mono ?_;intro e w1 he;obtain⟨⟨fb,rfl⟩,hb1⟩:=he.no;have HB:=zh ((zr.alloc lr _).trans (hb1.mono (by simp))))
 go_ret
 exact⟨_,_,_,HB.out.size,rfl,Blk.new _ _ _,HB.out.alloc HB.out.size _⟩
theorem _root_.Go.Proofs.YtcgnajeenflfaaaGreatDoor.V.one_row (w:World) (u:Value) (T:TypeId):RowIn 1 (w.alloc (.cells #[u] T)) w.heap.size (w.heap.size+1) (.slice (some ⟨w.heap.size,0,none⟩) 1 1) 1 [u]:=RowIn.lit w T #[u] 1 1 rfl
theorem sub_from (b:ByteArray) (a:Nat) (h:a≤b.size):(b.extract a b.size).toList=b.toList.drop a∧(b.extract a b.size).size=b.size-a:=by
 have h1:(b.extract a b.size).toList=b.toList.drop a:=by
  rw[Lib.toList_data,Lib.toList_data]
  simp[ByteArray.extract,ByteArray.copySlice]
  rw[List.take_of_length_le]
  simp[List.length_drop]
 exact⟨h1,by rw[← V.size_of,h1,List.length_drop,V.size_of]⟩
theorem Decode_any {D:Dm} (wf:Wf D) {T:Tm} (wt:WfT T) (t:Addr) (lim:Int) (F:List Fd) (a0:Option Addr) (k0:Nat) (key:ByteArray) (w:World) (hl:F.length≤140737488351232) (hkey:key.size≤4611686018427387904) (htb:Tb D T t w) (hG:GErr w) (hfi:FI w 0 w.heap.size F (.slice a0 F.length k0)) :
 Calls prog 8 #[.pointer (some t),.agg #[.int .i64 lim,.slice a0 F.length k0],.string key] w (DecPost (decS (keyM D T) lim F key.toList) key.size w):=by
 obtain⟨KM,hKM⟩:∃ KM,keyM D T=KM:=⟨_,rfl⟩
 obtain⟨m,hm⟩:∃ m,F.length=m:=⟨_,rfl⟩
 have HG:=zh hG
 have hgl:1<w.heap.size:=World.block_lt_of_cell? w _ hG
 have HSB:=zh (show ∀ o,Blk (w.alloc o) w.heap.size 26 #[.int .i64 lim,.slice a0 m k0]→True from fun _ _=>trivial)
 cases hok:okS lim F with
 | false =>
  have HNO:=zh (show decS KM lim F key.toList=none by unfold decS;rw[hok];rfl)
  have HR:=zh (fun o=>refusedNo_any lim F a0 k0 t (w.alloc o) hl (fi_later hfi (zr.alloc lr o)) hok)
  rw[hm] at HR ⊢
  rw[hKM]
  clear hfi htb hG hok
  go_enter func8,ntmps8
  go_wp2_with (go_at_call 21;refine(HR.out _).mono ?_;rintro e w1 ⟨fb,fc,why,hfb,rfl,hbk,hb1⟩;have HB1:=zh ((zr.alloc lr _).trans (hb1.mono (by simp)));have HBK:=zh hbk;have HFB:=zh (show w.heap.size≤fb by simp at hfb;omega);clear hbk hb1 hfb)
  refine bodyPost_ret (v:=.tuple #[.nilIface,.iface 39 (.pointer (some ⟨fb,0,none⟩))]) (by simp[results,Tryz.f8]) rfl ?_
  exact .no HNO.out HFB.out HBK.out (Int.le_refl _) (Int.natCast_nonneg _) HB1.out
 | true =>
  obtain⟨hlim1,hlim2,hne,h64,_⟩:=okS_all hok
  have HR:=zh (fun o=>packRefused_any lim F a0 k0 t (w.alloc o) hl (fi_later hfi (zr.alloc lr o)))
  rw[hok] at HR
  have HFT:=zh (fun (i:Nat) (h:i<F.length) (b:ByteArray) (w':World) (hb:Below w.heap.size w w') (hs:b.size≤4194304) (hff:FFit F[i]) (au:Option Addr) (cu:Nat) (hsub:FI w' 0 w.heap.size F[i].fields (.slice au F[i].fields.length cu)) =>
   Take_any wf wt t F[i] (okS_one hok (List.getElem_mem h)) hff au cu b w' hs (tb_later htb hb) (hsub.wide lr hb.size))
  rw[hKM] at HFT ⊢
  have HFI:=zh hfi
  have HM:=zh hm
  have HOK:=zh hok
  rw[hm] at HR ⊢
  have hm64:m≤64:=by omega
  have hm1:1≤m:=by
   rcases Nat.eq_zero_or_pos m with h | h
   · exact absurd (List.eq_nil_of_length_eq_zero (hm.trans h)) hne
   · exact h
  clear hfi htb hG hok hne h64
  obtain⟨R,hR⟩:∃ R,decS KM lim F key.toList=R:=⟨_,rfl⟩
  rw[hR]
  have HRD:=zh (show R=if (key.size:Int)≤lim then match rdL KM F key.toList with
   | none=>none
   | some (ps,r)=>if r=[] then some (.mk 7 false false .empty .empty ps) else none else none by
   rw[← hR];unfold decS;rw[HOK.out,Bool.true_and,V.size_of]
   by_cases h:(key.size:Int)≤lim<;>simp[h]
   rfl)
  clear hR
  have HSC:=zh (show ∀ w1,Below (w.alloc (.cells #[.int .i64 lim,.slice a0 m k0] 26)).heap.size (w.alloc (.cells #[.int .i64 lim,.slice a0 m k0] 26)) w1→Blk w1 w.heap.size 26 #[.int .i64 lim,.slice a0 m k0] from fun w1 hb=>Blk.below (Blk.new _ _ _) hb (by simp))
  go_enter func8,ntmps8
  by_cases hbig:lim<(key.size:Int)
  · have q1:decide (lim<(key.size:Int))=true:=decide_eq_true hbig
    have HNO:=zh (show R=none by rw[HRD.out,if_neg (by omega)])
    go_wp2_with (go_at_call 21;refine(HR.out _).mono ?_;intro e w1 he;obtain⟨rfl,hb1⟩:=he.yes;have HB1:=zh ((zr.alloc lr _).trans (hb1.mono (by simp)));obtain⟨s0,s1⟩:=f2 (HSC.out _ hb1);clear hb1)
    go_region
    go_wp2_with fail
    refine bodyPost_ret (v:=.tuple #[.nilIface,.iface 39 (.pointer (some ⟨w1.heap.size,0,none⟩))]) (by simp[results,Tryz.f8]) rfl ?_
    exact .no HNO.out HB1.out.size (blk_drew (Blk.new _ _ _)) (by omega) (by omega) (HB1.out.alloc HB1.out.size _).drew
  have q1:decide (lim<(key.size:Int))=false:=decide_eq_false hbig
  have HRR:=zh (show R=match rdL KM F key.toList with
   | none=>none
   | some (ps,r)=>if r=[] then some (.mk 7 false false .empty .empty ps) else none by rw[HRD.out,if_pos (by omega)])
  have hks:key.size≤65536:=by omega
  go_wp2_with (go_at_call 21;refine(HR.out _).mono ?_;intro e w1 he;obtain⟨rfl,hb1⟩:=he.yes;have HB1:=zh ((zr.alloc lr _).trans (hb1.mono (by simp)));obtain⟨s0,s1⟩:=f2 (HSC.out _ hb1);clear hb1)
  go_loopw [9,10,37] (fun rv av iv wr=>∃ (i a:Nat) (ps:List Pt) (us:List Value),i≤m∧iv=.int .i64 (i:Int)∧av=.int .i64 (a:Int)∧a≤key.size∧ps.length=i∧Hid (wr.ownsRow w.heap.size 34 1 rv i us)∧Hid (V.Vals wr w.heap.size rv.ownBlock ps us)∧Hid (Below w.heap.size w wr) ∧
   Hid (rdL KM F key.toList=(rdL KM (F.drop i) (key.toList.drop a)).map fun x=>(ps++x.1,x.2))∧Hid (∀ p∈ps,mayB p=true∧depthP p≤15)) (fun _ _ iv _=>m-(intOf iv).toNat)
  case atStart=>exact⟨0,0,[],[],Nat.zero_le _,rfl,rfl,Nat.zero_le _,rfl,zh (World.ownsRow_nil _ _ _ _),zh (V.Vals.nil _ _ _),zh HB1.out,zh (by rw[List.drop_zero,List.drop_zero];generalize rdL KM F key.toList=Y;cases Y<;>simp),zh (fun p hp=>by cases hp)⟩
  case round =>
   obtain⟨i,a,ps,us,hi2,rfl,rfl,ha,hpl,HOw,HVw,HBw,HREL,HMY⟩:=hrel
   obtain⟨ra,rc,rfl⟩:=row_slice HOw.out
   by_cases hlt:i<m
   · have q2:decide ((i:Int)<(m:Int))=true:=decide_eq_true (by omega)
     have hiF:i<F.length:=by rw[HM.out];exact hlt
     obtain⟨a',c',he,hc,hpl2⟩:=(HFI.out.same (Same.of_below HBw.out lr)).open
     injection he with e1 e2 e3
     subst e1 e3
     obtain⟨bb,off,uu,rfl,_,hbh,hcl,hff,hsub⟩:=hpl2 i hiF
     obtain⟨k0',k1',k2',k3',k4',k5',k6',k7',k8',k9',k10',k11',k12',k13'⟩:=hcl.all
     have HTF:=zh (HFT.out i hiF)
     have hdr:=List.drop_eq_getElem_cons (l:=F) (i:=i) hiF
     obtain⟨f,hf⟩:∃ f,F[i]=f:=⟨_,rfl⟩
     rw[hf] at k0' k1' k2' k3' k4' k5' k6' k7' k8' k9' k10' k11' k12' hff hsub hdr HTF
     obtain⟨au,cu,rfl,_,_⟩:=hsub.open
     have qs:(i:Int)≤(k0:Int):=by rw[HM.out] at hc;omega
     obtain⟨gm,hgl2⟩:∃ gm,f.fields.length=gm:=⟨_,rfl⟩
     rw[hgl2] at k13' hsub HTF
     have hss:=sub_from key a ha
     obtain⟨sub,hsb⟩:∃ sub,key.extract a key.size=sub:=⟨_,rfl⟩
     rw[hsb] at hss
     have HKEY:=zh hss.1
     have HSZ:=zh hss.2
     have HSB2:=zh hsb
     obtain⟨Z,hZ⟩:∃ Z,rdF KM f sub.toList=Z:=⟨_,rfl⟩
     have HZ:=zh hZ
     have HDR:=zh hdr
     have HFF:=zh hff
     have HSUB:=zh hsub
     have HGL:=zh hgl2
     have HFM:=zh (show f∈F by rw[← hf];exact List.getElem_mem hiF)
     have bl:bb<wr.heap.size:=World.block_lt_of_cell? wr _ k0'
     have g1:(a:Int)≤(key.size:Int):=by omega
     clear hpl2 hcl hff hsub hf hdr hgl2 hc hZ hsb hss
     go_wp2_with fail
     obtain⟨W3,hW3⟩:∃ W3,wr.alloc (.cells #[.string f.name,.int .u8 f.kind,.bool f.down,.int .u8 f.nulls,.bool f.bnd,.bool f.lob,.string f.lom,.bool f.hib,.string f.him,.int .i64 f.most,.int .i64 f.co.str,.bool f.co.sh,.bool f.co.back,.slice au gm cu] 79)=W3:=⟨_,rfl⟩
     have hb3:Below wr.heap.size wr W3:=by rw[← hW3];exact zr.alloc lr _
     obtain⟨d0,d1,d2,d3,d4,d5,d6,d7,d8,d9,d10,d11,d12,d13⟩:=f14 (show Blk W3 wr.heap.size 79 #[.string f.name,.int .u8 f.kind,.bool f.down,.int .u8 f.nulls,.bool f.bnd,.bool f.lob,.string f.lom,.bool f.hib,.string f.him,.int .i64 f.most,.int .i64 f.co.str,.bool f.co.sh,.bool f.co.back,.slice au gm cu] by rw[← hW3];exact Blk.new _ _ _)
     rw[hW3]
     have HB3:=zh (HBw.out.trans (hb3.mono HBw.out.size))
     have HO3:=zh (V.own_below HOw.out hb3)
     have HV3:=zh (HVw.out.below hb3)
     have hsb3:FI W3.drew 0 w.heap.size f.fields (.slice au gm cu):=(HSUB.out.same (Same.of_below hb3 HBw.out.size)).same (fun _ _ _=>rfl)
     have hcall:=HTF.out sub W3.drew HB3.out.drew (by have:=HSZ.out;omega) HFF.out au cu hsb3
     rw[fcells_14,HZ.out] at hcall
     have HTK:=zh hcall
     clear hcall hsb3 hW3 hb3 k0' k1' k2' k3' k4' k5' k6' k7' k8' k9' k10' k11' k12' k13'
     refine wp_region_held_drew (S:=fun w'=>w'.cell? ⟨wr.heap.size,0,none⟩=some (.string f.name)∧w'.cell? ⟨wr.heap.size,1,none⟩=some (.int .u8 f.kind)∧w'.cell? ⟨wr.heap.size,2,none⟩=some (.bool f.down)∧w'.cell? ⟨wr.heap.size,3,none⟩=some (.int .u8 f.nulls)∧w'.cell? ⟨wr.heap.size,4,none⟩=some (.bool f.bnd)∧w'.cell? ⟨wr.heap.size,5,none⟩=some (.bool f.lob)∧w'.cell? ⟨wr.heap.size,6,none⟩=some (.string f.lom)∧w'.cell? ⟨wr.heap.size,7,none⟩=some (.bool f.hib)∧w'.cell? ⟨wr.heap.size,8,none⟩=some (.string f.him)∧w'.cell? ⟨wr.heap.size,9,none⟩=some (.int .i64 f.most)∧w'.cell? ⟨wr.heap.size,10,none⟩=some (.int .i64 f.co.str)∧w'.cell? ⟨wr.heap.size,11,none⟩=some (.bool f.co.sh)∧w'.cell? ⟨wr.heap.size,12,none⟩=some (.bool f.co.back)∧w'.cell? ⟨wr.heap.size,13,none⟩=some (.slice au gm cu)∧Below W3.heap.size W3 w') (by kernel_rfl) ⟨d0,d1,d2,d3,d4,d5,d6,d7,d8,d9,d10,d11,d12,d13,(Below.refl _ W3).drew⟩ (fun hHeld=>?_)
     refine tx 0 ?v0 rfl (by kernel_rfl) tq (by rfl) ?hy0 (by assumption) ?rest0
     case hy0=>(rintro wS ⟨d0,d1,d2,d3,d4,d5,d6,d7,d8,d9,d10,d11,d12,d13,kb⟩;go_simp;try with_reducible rfl)
     try simp[Act.put]
     refine tx 1 ?v1 rfl (by kernel_rfl) tq (by rfl) ?hy1 (by assumption) ?rest1
     case hy1=>(rintro wS ⟨d0,d1,d2,d3,d4,d5,d6,d7,d8,d9,d10,d11,d12,d13,kb⟩;go_simp;try with_reducible rfl)
     try simp[Act.put]
     refine tx 2 ?v2 rfl (by kernel_rfl) tq (by rfl) ?hy2 (by assumption) ?rest2
     case hy2=>(rintro wS ⟨d0,d1,d2,d3,d4,d5,d6,d7,d8,d9,d10,d11,d12,d13,kb⟩;go_simp;try with_reducible rfl)
     try simp[Act.put]
     refine tx 3 ?v3 rfl (by kernel_rfl) tq (by rfl) ?hy3 (by assumption) ?rest3
     case hy3=>(rintro wS ⟨d0,d1,d2,d3,d4,d5,d6,d7,d8,d9,d10,d11,d12,d13,kb⟩;go_simp;try with_reducible rfl)
     try simp[Act.put]
     refine tx 4 ?v4 rfl (by kernel_rfl) tq (by rfl) ?hy4 (by assumption) ?rest4
     case hy4=>(rintro wS ⟨d0,d1,d2,d3,d4,d5,d6,d7,d8,d9,d10,d11,d12,d13,kb⟩;go_simp;try with_reducible rfl)
     try simp[Act.put]
     refine wpAnyH_ready (rs:=[5]) (by kernel_rfl) (by simp) ?_
     refine AllReadyH.cons rfl (fun K hK=>?_) AllReadyH.nil
     go_simp
     obtain⟨d0,d1,d2,d3,d4,d5,d6,d7,d8,d9,d10,d11,d12,d13,kb⟩:=hHeld
     rw[HSB2.out]
     refine HTK.out.mono ?_
     intro e w4 htk
     obtain⟨hres,hb4⟩:=htk
     replace d0:=V.keeps hb4 d0
     replace d1:=V.keeps hb4 d1
     replace d2:=V.keeps hb4 d2
     replace d3:=V.keeps hb4 d3
     replace d4:=V.keeps hb4 d4
     replace d5:=V.keeps hb4 d5
     replace d6:=V.keeps hb4 d6
     replace d7:=V.keeps hb4 d7
     replace d8:=V.keeps hb4 d8
     replace d9:=V.keeps hb4 d9
     replace d10:=V.keeps hb4 d10
     replace d11:=V.keeps hb4 d11
     replace d12:=V.keeps hb4 d12
     replace d13:=V.keeps hb4 d13
     replace kb:=V.two kb hb4
     clear hb4
     cases Z with
     | none =>
      obtain⟨fb,fc,fa,fpv,flp,fwhy,hf1,rfl,hf3,hf4,hf5,hf6,hf7⟩:=hres
      have HMV:=zh (moved_any fb fc fa fpv fwhy flp _ a i w4 (HG.out.later (HB3.out.trans (kb.mono HB3.out.size))) hf3 hf4 hf5 hf6.1 (by have:=hf6.2;have:=HSZ.out;omega))
      have HFA:=zh hf6
      have HK4:=zh kb
      clear hf3 hf4 hf5 hf6 hf7
      go_wp2_with fail
      refine hK.out _ _ ⟨d0,d1,d2,d3,d4,d5,d6,d7,d8,d9,d10,d11,d12,d13,kb⟩ (fun hHeld=>?_)
      try simp[Act.put]
      refine tx 6 ?v6n rfl (by kernel_rfl) tq (by rfl) ?hy6n (by assumption) ?rest6n
      case hy6n=>(rintro wS ⟨d0,d1,d2,d3,d4,d5,d6,d7,d8,d9,d10,d11,d12,d13,kb⟩;go_simp;try with_reducible rfl)
      try simp[Act.put]
      refine tx 7 ?v7n rfl (by kernel_rfl) tq (by rfl) ?hy7n (by assumption) ?rest7n
      case hy7n=>(rintro wS ⟨d0,d1,d2,d3,d4,d5,d6,d7,d8,d9,d10,d11,d12,d13,kb⟩;go_simp;try with_reducible rfl)
      try simp[Act.put]
      refine tx 8 ?v8n rfl (by kernel_rfl) tq (by rfl) ?hy8n (by assumption) ?rest8n
      case hy8n=>(rintro wS ⟨d0,d1,d2,d3,d4,d5,d6,d7,d8,d9,d10,d11,d12,d13,kb⟩;go_simp;try with_reducible rfl)
      try simp[Act.put]
      refine tx 9 ?v9n rfl (by kernel_rfl) tq (by rfl) ?hy9n (by assumption) ?rest9n
      case hy9n=>(rintro wS ⟨d0,d1,d2,d3,d4,d5,d6,d7,d8,d9,d10,d11,d12,d13,kb⟩;go_simp;try with_reducible rfl)
      try simp[Act.put]
      refine tx 10 ?v10n rfl (by kernel_rfl) tq (by rfl) ?hy10n (by assumption) ?rest10n
      case hy10n=>(rintro wS ⟨d0,d1,d2,d3,d4,d5,d6,d7,d8,d9,d10,d11,d12,d13,kb⟩;go_simp;try with_reducible rfl)
      try simp[Act.put]
      refine tx 11 ?v11n rfl (by kernel_rfl) tq (by rfl) ?hy11n (by assumption) ?rest11n
      case hy11n=>(rintro wS ⟨d0,d1,d2,d3,d4,d5,d6,d7,d8,d9,d10,d11,d12,d13,kb⟩;go_simp;try with_reducible rfl)
      try simp[Act.put]
      refine tx 12 ?v12n rfl (by kernel_rfl) tq (by rfl) ?hy12n (by assumption) ?rest12n
      case hy12n=>(rintro wS ⟨d0,d1,d2,d3,d4,d5,d6,d7,d8,d9,d10,d11,d12,d13,kb⟩;go_simp;try with_reducible rfl)
      try simp[Act.put]
      refine wpAnyH_done (by kernel_rfl) ?_ _
      clear hHeld kb d0 d1 d2 d3 d4 d5 d6 d7 d8 d9 d10 d11 d12 d13
      go_wp2_with fail
      refine HMV.out.mono ?_
      rintro e w5 ⟨f2,pv2,hf2,rfl,hbk,hb5⟩
      have HB5:=zh (HB3.out.trans ((HK4.out.trans (hb5.mono HK4.out.size)).mono HB3.out.size))
      have HF2:=zh hbk
      have HL2:=zh (show w.heap.size≤f2 from Nat.le_trans (Nat.le_trans HB3.out.size HK4.out.size) hf2)
      have HNO:=zh (show R=none by rw[HRR.out,HREL.out,HDR.out,rdL_cons,← HKEY.out,HZ.out];rfl)
      clear hbk hb5 hf2
      go_wp2_with fail
      refine bodyPost_ret (v:=.tuple #[.nilIface,.iface 39 (.pointer (some ⟨f2,0,none⟩))]) (by simp[results,Tryz.f8]) rfl ?_
      exact .no HNO.out HL2.out HF2.out (by have:=HFA.out;omega) (by have:=HFA.out;have:=HSZ.out;omega) HB5.out
     | some x =>
      obtain⟨q,l⟩:=x
      obtain⟨u,n,rfl,hn,rfl,hvi⟩:=hres
      have HVI:=zh hvi
      have HK4:=zh kb
      have hz4:W3.heap.size≤w4.heap.size:=kb.size
      have HU1:=zh (V.VI.one hvi)
      clear hvi
      go_wp2_with fail
      refine hK.out _ _ ⟨d0,d1,d2,d3,d4,d5,d6,d7,d8,d9,d10,d11,d12,d13,kb⟩ (fun hHeld=>?_)
      try simp[Act.put]
      refine tx 6 ?v6s rfl (by kernel_rfl) tq (by rfl) ?hy6s (by assumption) ?rest6s
      case hy6s=>(rintro wS ⟨d0,d1,d2,d3,d4,d5,d6,d7,d8,d9,d10,d11,d12,d13,kb⟩;go_simp;try with_reducible rfl)
      try simp[Act.put]
      refine tx 7 ?v7s rfl (by kernel_rfl) tq (by rfl) ?hy7s (by assumption) ?rest7s
      case hy7s=>(rintro wS ⟨d0,d1,d2,d3,d4,d5,d6,d7,d8,d9,d10,d11,d12,d13,kb⟩;go_simp;try with_reducible rfl)
      try simp[Act.put]
      refine tx 8 ?v8s rfl (by kernel_rfl) tq (by rfl) ?hy8s (by assumption) ?rest8s
      case hy8s=>(rintro wS ⟨d0,d1,d2,d3,d4,d5,d6,d7,d8,d9,d10,d11,d12,d13,kb⟩;go_simp;try with_reducible rfl)
      try simp[Act.put]
      refine tx 9 ?v9s rfl (by kernel_rfl) tq (by rfl) ?hy9s (by assumption) ?rest9s
      case hy9s=>(rintro wS ⟨d0,d1,d2,d3,d4,d5,d6,d7,d8,d9,d10,d11,d12,d13,kb⟩;go_simp;try with_reducible rfl)
      try simp[Act.put]
      refine tx 10 ?v10s rfl (by kernel_rfl) tq (by rfl) ?hy10s (by assumption) ?rest10s
      case hy10s=>(rintro wS ⟨d0,d1,d2,d3,d4,d5,d6,d7,d8,d9,d10,d11,d12,d13,kb⟩;go_simp;try with_reducible rfl)
      try simp[Act.put]
      refine tx 11 ?v11s rfl (by kernel_rfl) tq (by rfl) ?hy11s (by assumption) ?rest11s
      case hy11s=>(rintro wS ⟨d0,d1,d2,d3,d4,d5,d6,d7,d8,d9,d10,d11,d12,d13,kb⟩;go_simp;try with_reducible rfl)
      try simp[Act.put]
      refine tx 12 ?v12s rfl (by kernel_rfl) tq (by rfl) ?hy12s (by assumption) ?rest12s
      case hy12s=>(rintro wS ⟨d0,d1,d2,d3,d4,d5,d6,d7,d8,d9,d10,d11,d12,d13,kb⟩;go_simp;try with_reducible rfl)
      try simp[Act.put]
      refine wpAnyH_done (by kernel_rfl) ?_ _
      clear hHeld kb d0 d1 d2 d3 d4 d5 d6 d7 d8 d9 d10 d11 d12 d13
      have HB4:=zh (HB3.out.trans (HK4.out.mono HB3.out.size))
      have HO4:=zh (V.own_below HO3.out HK4.out)
      have HV4:=zh (HV3.out.below HK4.out)
      have hvs:u=.nilIface∨∃ T V,u=.iface T V:=by
       by_cases h0:q.kind=0
       · exact .inl (HVI.out.nilOf h0)
       · obtain⟨T,V,_,h,_⟩:=HVI.out.kindOf h0
         exact .inr ⟨T,V,h⟩
      rcases hvs with rfl | ⟨U2,V2,rfl⟩
      all_goals
       have hus:=fun (x:Value)=>V.one_row w4 x 34
       go_wp2_with (at_builtin;refine wpList_append_at rfl (.tmp 58) (.tmp 60) 74 rfl 34 .nilIface 1 16 underlying74 V.infoV rfl (by decide) rfl (HO4.out.alloc _) rfl (hus _) (fun y hy=>by rw[List.mem_singleton.1 hy];rfl) (by omega) (by decide) (by simp;have:=HB4.out.size;omega) ?_;intro c9 cap9 w9 hO9 hg9 hat9)
       obtain⟨g9,hg9b⟩:∃ g,c9=some ⟨g,0,none⟩:=by
        rcases hO9.2 with ⟨he,h0⟩ | ⟨g,_,_,he,_⟩
        · omega
        · injection he with he _ _
          exact⟨g,he⟩
       subst hg9b
       have hba:∀ o,Below w4.heap.size w4 (w4.alloc o):=fun o=>zr.alloc lr o
       have hV9:=V.Vals.snoc (HV4.out.below (hba _)) (HVI.out.same (Same.of_below (hba _) lr)) HB3.out.size (hba _).size (fun k hk=>.inl (World.ownsRow.lt HO3.out k hk).2) hg9 (hat9.imp (fun e=>e.symm) (fun e=>Nat.le_of_eq (Option.some.inj e).symm))
       have hB9:=(HB4.out.alloc HB4.out.size _).grown hg9 (by simp;have:=HB4.out.size;omega) (fun k hk=>(World.ownsRow.lt HO4.out k hk).1)
       have hsz2:=HSZ.out
       have HWN:=zh (show wrap64 ((a:Int)+(n:Int))=((a+n:Nat):Int) by unfold wrap64;omega)
       have hso:=rdF_sound f 0 ((okS_all HOK.out).2.2.2.2 f HFM.out) _ _ _ HZ.out
       have hrel:rdL KM F key.toList=(rdL KM (F.drop (i+1)) (key.toList.drop (a+n))).map fun x=>((ps++[q])++x.1,x.2):=by
        rw[HREL.out,HDR.out,rdL_cons,← HKEY.out,HZ.out]
        simp only [Option.bind_some]
        rw[HKEY.out,List.drop_drop]
        generalize rdL KM (F.drop (i+1)) (key.toList.drop (a+n))=Y
        cases Y<;>simp
       exact⟨⟨i+1,a+n,ps++[q],us++[_],by omega,by simp,by rw[HWN.out],by omega,by simp[hpl],zh hO9,zh hV9,zh hB9,zh hrel,zh (fun p hp=>by
        rcases List.mem_append.1 hp with hp | hp
        · exact HMY.out p hp
        · rw[List.mem_singleton.1 hp];exact⟨hso.2.2.1,by have:=hso.2.2.2;omega⟩)⟩,by simp[intOf];omega⟩
   · obtain rfl:i=m:=by omega
     have q2:decide ((i:Int)<(i:Int))=false:=decide_eq_false (by omega)
     have HRL:=zh (show rdL KM F key.toList=some (ps,key.toList.drop a) by
      rw[HREL.out,show F.drop i=[] by rw[← HM.out,List.drop_length],rdL_nil];simp)
     by_cases ham:a<key.size
     · have q3:decide ((a:Int)<(key.size:Int))=true:=decide_eq_true (by omega)
       have HNO:=zh (show R=none by
        rw[HRR.out,HRL.out]
        simp only
        rw[if_neg]
        intro e
        have:=congrArg List.length e
        rw[List.length_drop,V.size_of] at this
        simp at this
        omega)
       go_wp2_with fail
       refine bodyPost_ret (v:=.tuple #[.nilIface,.iface 39 (.pointer (some ⟨wr.heap.size,0,none⟩))]) (by simp[results,Tryz.f8]) rfl ?_
       exact .no HNO.out HBw.out.size (Blk.new _ _ _) (Int.natCast_nonneg _) (by omega) (HBw.out.alloc HBw.out.size _)
     · have q3:decide ((a:Int)<(key.size:Int))=false:=decide_eq_false (by omega)
       have HYE:=zh (show R=some (.mk 7 false false .empty .empty ps) by
        rw[HRR.out,HRL.out]
        simp only
        rw[if_pos (List.drop_of_length_le (by rw[V.size_of];omega))])
       have hE0:V.ofE ps=0:=by
        rcases V.ofE_three ps with ⟨h,_⟩ | ⟨_,h,_⟩ | ⟨_,_,h⟩
        · omega
        · obtain⟨q,hq,hd⟩:=V.deepT.1 h
          have:=(HMY.out q hq).2
          omega
        · exact h
       have HE0:=zh hE0
       have HOF:=zh (V.of_any ps us (.slice ra i rc) wr w.heap.size (by rw[hpl];exact HOw.out) (by omega) (fun h=>by rw[h] at hpl;simp at hpl;omega) (fun j hj=>by
        obtain⟨u,lo,hi,h1,h2,h3,h4,_⟩:=HVw.out.2 j hj
        have h5:=HMY.out ps[j] (List.getElem_mem hj)
        exact⟨u,h1,h2.wide (Nat.zero_le _) h4,h5.1,by omega⟩))
       clear hE0
       go_wp2_with fail
       refine HOF.out.mono ?_
       rintro e w2 ⟨tv,rfl,-,hof,hb2⟩
       obtain⟨ta,tcap,rfl,hcap,hcells⟩:=hof HE0.out
       rw[HE0.out]
       have HCE:=zh hcells
       have HB2:=zh hb2
       clear hof hcells hb2
       go_wp2_with fail
       refine(is_zero _).mono ?_
       rintro e w3 ⟨rfl,hb3⟩
       have HB3:=zh hb3
       clear hb3
       go_wp2_with fail
       refine bodyPost_ret (v:=.tuple #[.iface 118 (.agg #[.slice ta ps.length tcap]),.nilIface]) (by simp[results,Tryz.f8,hpl]) rfl ?_
       have hbb:Below wr.heap.size wr w3:=HB2.out.trans (HB3.out.mono HB2.out.size)
       unfold DecPost
       rw[HYE.out]
       refine⟨⟨_,rfl,V.VI.tuple (.mk 7 false false .empty .empty ps) rfl ta tcap (fun j=>us.getD j .nilIface) hcap (fun j hj=>?_) (fun j hj=>?_)⟩,HBw.out.trans (hbb.mono HBw.out.size)⟩
       · obtain⟨g,u,h1,h2,h3,h4,h5⟩:=HCE.out j hj
         refine⟨g,h1,Nat.le_trans HBw.out.size h2,Nat.lt_of_lt_of_le h3 HB3.out.size,?_⟩
         rw[V.keeps HB3.out h5,List.getD_eq_getElem?_getD,h4];rfl
       · obtain⟨u,lo,hi,h1,h2,h3,h4,_⟩:=HVw.out.2 j hj
         show VI w3 w.heap.size w3.heap.size ps[j] (us.getD j .nilIface)
         rw[List.getD_eq_getElem?_getD,h1]
         exact(h2.same (Same.of_below hbb h4)).wide h3 (Nat.le_trans h4 hbb.size)
