import Derived.Test.YtcgnajeenflfaaaGreatDoorP37
import Derived.Test.YtcgnajeenflfaaaGreatDoorP40
import Derived.Test.YtcgnajeenflfaaaGreatDoorP43
set_option maxRecDepth 100000
set_option maxHeartbeats 4000000
set_option linter.all false
open Go.Proofs.Tryz Go.RowKit
namespace Go.Proofs.YtcgnajeenflfaaaGreatDoor
namespace V
def aPt (p:Pt) (w:World) (e:Ending) (w':World):Prop:=∃ u,e=.returned (.tuple #[u,.bool (bW p==0)])∧(bW p≠0→u=.nilIface)∧(bW p=0→VI w' w.heap.size w'.heap.size p u)∧Below w.heap.size w w'
theorem sQ (p:Pt) (v:Value) (w:World) (hf:Fit p) (hp:PI w 0 w.heap.size p.items v) :
 Calls prog 12 #[.agg #[.int .u8 p.kind,.bool p.yes,.bool p.neg,.string p.mag,.string p.raw,v]] w (aPt p w):=by
 obtain⟨a,c,rfl,_,_⟩:=hp.open;have HM:=zh (fun o=>aCl p (.slice a p.items.length c) (w.alloc o) hf ((hp.same (Same.of_below (zr.alloc lr o) lr)).wide lr (by simp)));obtain⟨m,hm⟩:∃ m,p.items.length=m:=⟨_,rfl⟩
 rw[hm] at HM ⊢;clear hp hm hf;obtain⟨E,hE⟩:∃ E,bW p=E:=⟨_,rfl⟩
 have HE:=zh hE;go_enter func12,ntmps12;go_wp2_with fail;refine(HM.out _).mono ?_;rintro e w1 ⟨u,rfl,h1,h2,hb1⟩;rw[hE] at h1 h2 ⊢;have H1:=zh h1;have H2:=zh h2;have HB:=zh ((zr.alloc lr _).trans (hb1.mono (by simp)));have HS:=zh hb1.size;clear h1 h2 hb1 hE;go_wp2_with fail;refine bodyPost_ret (v:=.tuple #[u,.bool (E==0)]) (by simp[results,Tryz.f12]) rfl ?_;unfold aPt;rw[HE.out];exact⟨u,rfl,H1.out,fun h=>(H2.out h).wide (by simp) lr,HB.out⟩
end V
namespace Sc
open We (Co gL lF bT)
open D (Dm Wf)
open Ta (Tm)
theorem bAu {D:Dm} (wf:Wf D) {T:Tm} (wt:lF T) (t:Addr) (f:Fd):∀ d,xL d f→mZ 41 (rdF (bT D T) f) D T t f d:=by
 induction f using Fd.ind with
 | h f ih =>
  intro d hok;refine bDq t f d hok ?_;have hok2:=hok;obtain⟨_,_,_,_,ho,_,_,hin⟩:=hok2;obtain⟨⟨h1,h7,_⟩,_⟩:=iT ho;have hc:f.kind=1∨f.kind=2∨f.kind=3∨f.kind=4∨f.kind=5∨f.kind=6∨f.kind=7:=by omega
  rcases hc with h | h | h | h | h | h | h
  · exact aUn t f d hok h
  · exact aZt t f d hok h
  · exact aOz t f d hok h
  · exact bDr t f d hok h
  · exact aUp t f d hok h
  · exact aUo wf wt t f d hok h
  · exact aPl t f d hok h fun g hg=>ih g hg (d+1) (hin g hg)
open V (Same Pt VI aL bE PS)
def aRt (R:Option (Pt×List UInt8)) (s:ByteArray) (w:World) (e:Ending) (w':World):Prop :=
 (match R with
  | some (p,l)=>∃ (u:Value) (n:Nat),e=.returned (.tuple #[u,.int .i64 (n:Int),.nilIface])∧n≤s.size∧l=s.toList.drop n∧VI w' w.heap.size w'.heap.size p u
  | none=>∃ fb c at_ pv lp why,w.heap.size≤fb∧e=.returned (.tuple #[.nilIface,.int .i64 0,.iface 39 (.pointer (some ⟨fb,0,none⟩))])∧aC w' fb 44 #[.int .i64 c,.int .i64 at_,pv,why]∧aH w' (fun k=>k=fb∨k<w.heap.size) pv lp∧lp.length≤17∧(0≤at_∧at_≤s.size)∧(why=.nilIface∨∃ T V,why=.iface T V))∧Below w.heap.size w w'
theorem aIc (g:Nat) (R:Option (Pt×List UInt8)) (s:ByteArray) (w:World) (tmps:Array Value) {w1:World} {u:Value} {n:Nat} (h6:tmps.getD 6 undef=.pointer (some ⟨g+1,0,none⟩)) (h7:tmps.getD 7 undef=.pointer (some ⟨g+1+1,0,none⟩)) (h8:tmps.getD 8 undef=.pointer (some ⟨g+1+1+1,0,none⟩))
 (hb0:aC w1 (g+1) 34 #[u]) (hb1:aC w1 (g+1+1) 3 #[.int .i64 (n:Int)]) (hb2:aC w1 (g+1+1+1) 36 #[.nilIface]) (hp:aRt R s w (.returned (.tuple #[u,.int .i64 (n:Int),.nilIface])) w1) :
 Leaves prog Tryz.f22 tmps (aRt R s w) [{ target:=.fn (.func 40) #[.pointer (some ⟨g+1,0,none⟩),.pointer (some ⟨g+1+1,0,none⟩),.pointer (some ⟨g+1+1+1,0,none⟩)],args:=#[] }] .returning w1:=by
 have d0:=hb0.cell 0;have d1:=hb1.cell 0;have d2:=hb2.cell 0;simp at d0 d1 d2;refine leaves_cons (f:=40) (args:=#[.pointer (some ⟨g+1,0,none⟩),.pointer (some ⟨g+1+1,0,none⟩),.pointer (some ⟨g+1+1+1,0,none⟩)]) (by simp) (by simp[go_sem]) ?_;refine(aKw _ _ _ w1).mono ?_;rintro e u' w2 ⟨rfl,rfl,rfl⟩;refine⟨.tuple #[u,.int .i64 (n:Int),.nilIface],?_,hp⟩;simp only [Array.getD_eq_getD_getElem?] at h6 h7 h8;simp[results,Tryz.results22,go_sem,h6,h7,h8,d0,d1,d2]
theorem aLs (g:Nat) (s:ByteArray) (w:World) (tmps:Array Value) {w1:World} {v n er:Value} {ch:List PanicEntry} (h6:tmps.getD 6 undef=.pointer (some ⟨g+1,0,none⟩)) (h7:tmps.getD 7 undef=.pointer (some ⟨g+1+1,0,none⟩)) (h8:tmps.getD 8 undef=.pointer (some ⟨g+1+1+1,0,none⟩))
 (hb0:aC w1 (g+1) 34 #[v]) (hb1:aC w1 (g+1+1) 3 #[n]) (hb2:aC w1 (g+1+1+1) 36 #[er]) (hgw:w.heap.size=g) {wx:World} (hx:g+1+1+1<wx.heap.size) (hf:Fails s.size wx (.panicked ch) w1) (hB:Below w.heap.size w w1) :
 Leaves prog Tryz.f22 tmps (aRt none s w) [{ target:=.fn (.func 40) #[.pointer (some ⟨g+1,0,none⟩),.pointer (some ⟨g+1+1,0,none⟩),.pointer (some ⟨g+1+1+1,0,none⟩)],args:=#[] }] (.panicking ch) w1:=by
 obtain⟨fb,c,a,pv,lp,why,f1,f2,f3,f4,f5,f6,f7⟩:=hf;injection f2 with f2
 subst f2;refine leaves_cons (f:=40) (args:=#[.pointer (some ⟨g+1,0,none⟩),.pointer (some ⟨g+1+1,0,none⟩),.pointer (some ⟨g+1+1+1,0,none⟩)]) (by simp) (by simp[go_sem]) ?_;refine(aOk (g+1) (g+1+1) (g+1+1+1) fb v n er w1 hb0 hb1 hb2 (by omega) (by omega)).mono ?_;rintro e u' w2 ⟨rfl,rfl,⟨e0,e1,e2⟩,hx2⟩;have d0:=e0.cell 0;have d1:=e1.cell 0;have d2:=e2.cell 0;simp at d0 d1 d2;refine⟨.tuple #[.nilIface,.int .i64 0,.iface 39 (.pointer (some ⟨fb,0,none⟩))],?_,⟨⟨fb,c,a,pv,lp,why,by omega,rfl,hx2.blk (fun e=>by omega) f3,?_,f5,f6,f7⟩,hB.trans (hx2.below (fun k hk e=>by omega) (by have:=hB.size;omega))⟩⟩
 · simp only [Array.getD_eq_getD_getElem?] at h6 h7 h8;simp[results,Tryz.results22,go_sem,h6,h7,h8,d0,d1,d2]
 · exact f4.keep hx2.size (fun k hk hn=>hx2.block k hk fun e=>hn (.inr (by omega))) (fun k _ e=>e.imp id fun e=>by omega)
theorem aDe (b:ByteArray) (a:Nat):aK b a false=b.toList.drop a:=by
 unfold aK flips;exact List.map_id' _
theorem aVr {p:Pt} (h:aL p=true) (hd:V.aW p≤15):V.bW p=0:=by
 unfold V.bW;cases hq:V.dH 16 p with
 | true=>have:=(V.sV 16 p).1 hq;omega
 | false=>simp[h]
theorem xG {w:World} {g:Nat} {t:TypeId} {cs:Array Value} (h:aC w g t cs):aC w.drew g t cs:=h
theorem wD {C:Prop} {T0 T1 T2 lo a:Nat} {w w5:World} {u:Value} {p:Pt} (h01:T0<T1) (h12:T1<T2) (h2:T2<lo) (hw:w.heap.size≤T0) (hlo:lo≤w5.heap.size) {v0 v1 v2:Value} (b0:aC w5 T0 34 #[v0]) (b1:aC w5 T1 3 #[v1]) (b2:aC w5 T2 36 #[v2])
 (hv:VI w5 lo w5.heap.size p u) (hB:Below w.heap.size w w5)
 (h:(aC ((((w5.setCell ⟨T0,0,none⟩ u).setCell ⟨T0,0,none⟩ u).setCell ⟨T1,0,none⟩ (.int .i64 (a:Int))).setCell ⟨T2,0,none⟩ .nilIface).drew T0 34 #[u] ∧
  aC ((((w5.setCell ⟨T0,0,none⟩ u).setCell ⟨T0,0,none⟩ u).setCell ⟨T1,0,none⟩ (.int .i64 (a:Int))).setCell ⟨T2,0,none⟩ .nilIface).drew T1 3 #[.int .i64 (a:Int)] ∧
  aC ((((w5.setCell ⟨T0,0,none⟩ u).setCell ⟨T0,0,none⟩ u).setCell ⟨T1,0,none⟩ (.int .i64 (a:Int))).setCell ⟨T2,0,none⟩ .nilIface).drew T2 36 #[.nilIface] ∧
  VI ((((w5.setCell ⟨T0,0,none⟩ u).setCell ⟨T0,0,none⟩ u).setCell ⟨T1,0,none⟩ (.int .i64 (a:Int))).setCell ⟨T2,0,none⟩ .nilIface).drew w.heap.size ((((w5.setCell ⟨T0,0,none⟩ u).setCell ⟨T0,0,none⟩ u).setCell ⟨T1,0,none⟩ (.int .i64 (a:Int))).setCell ⟨T2,0,none⟩ .nilIface).drew.heap.size p u ∧
  Below w.heap.size w ((((w5.setCell ⟨T0,0,none⟩ u).setCell ⟨T0,0,none⟩ u).setCell ⟨T1,0,none⟩ (.int .i64 (a:Int))).setCell ⟨T2,0,none⟩ .nilIface).drew)→C):C:=by
 have XF:Xv (fun k=>k=T0∨k=T1∨k=T2) w5 ((((w5.setCell ⟨T0,0,none⟩ u).setCell ⟨T0,0,none⟩ u).setCell ⟨T1,0,none⟩ (.int .i64 (a:Int))).setCell ⟨T2,0,none⟩ .nilIface).drew :=
  (((((Xv.refl (fun k=>k=T0∨k=T1∨k=T2) w5).aU (b:=T0) (fun _=>Or.inl rfl) 0 u).aU (b:=T0) (fun _=>Or.inl rfl) 0 u).aU (b:=T1) (fun _=>Or.inr (Or.inl rfl)) 0 (.int .i64 (a:Int))).aU (b:=T2) (fun _=>Or.inr (Or.inr rfl)) 0 .nilIface).drew
 have e0:aC ((w5.setCell ⟨T0,0,none⟩ u).setCell ⟨T0,0,none⟩ u) T0 34 #[u]:=by simpa using (b0.aU 0 u).aU 0 u
 have e1:aC (((w5.setCell ⟨T0,0,none⟩ u).setCell ⟨T0,0,none⟩ u).setCell ⟨T1,0,none⟩ (.int .i64 (a:Int))) T1 3 #[.int .i64 (a:Int)]:=by simpa using (bH (bH b1 (by omega:T1≠T0) 0 u) (by omega:T1≠T0) 0 u).aU 0 (.int .i64 (a:Int))
 have e2:aC ((((w5.setCell ⟨T0,0,none⟩ u).setCell ⟨T0,0,none⟩ u).setCell ⟨T1,0,none⟩ (.int .i64 (a:Int))).setCell ⟨T2,0,none⟩ .nilIface) T2 36 #[.nilIface]:=by
  simpa using (bH (bH (bH b2 (by omega:T2≠T0) 0 u) (by omega:T2≠T0) 0 u) (by omega:T2≠T1) 0 (.int .i64 (a:Int))).aU 0 .nilIface
 exact h ⟨xG (bH (bH e0 (by omega) 0 _) (by omega) 0 _),xG (bH e1 (by omega) 0 _),xG e2,(hv.same (XF.same (fun k h1 _ e=>by omega) lr)).wide (by omega) XF.size,hB.trans (XF.below (fun k hk e=>by omega) hB.size)⟩
theorem bAv {D:Dm} (wf:Wf D) {T:Tm} (wt:lF T) (t:Addr) (f:Fd) (hok:rT 65536 [f]=true) (fK:jY f) (a0:Option Addr) (k0:Nat) (s:ByteArray) (w:World) (hs:s.size≤4194304) (htb:Tb D T t w) (hfi:FI w 0 w.heap.size f.fields (.slice a0 f.fields.length k0)) :
 Calls prog 22 #[.pointer (some t),.agg (aR f (.slice a0 f.fields.length k0)).toArray,.string s] w (aRt (rdF (bT D T) f s.toList) s w):=by
 have bId:=(lQ hok).2.2.2.2 f List.mem_cons_self;have hmf:∀ (fn:Fn) (first cap:Array Value) (w:World),(Instr.makeFunc fn first cap).run prog w=.ok (.func fn first cap) w:=fun _ _ _ _=>rfl
 have HR:=zh (fun (w':World) (hb:Below w.heap.size w w')=>oZ f a0 k0 t w' fK (bA hfi hb));have HPT:=zh (fun (w':World) (rb:Nat) (hrb:w.heap.size≤rb) (hb:Below w.heap.size w w') (hr:gB w' rb (.pointer (some t)) s 0 false (.slice none 0 0))=>bAu wf wt t f 0 bId w.heap.size a0 k0 rb s 0 false (.slice none 0 0) [] w' hs (Nat.zero_le _) hrb lr hr (aJ.nil _ _) (htb.later hb lr) (hfi.same (Same.of_below hb lr)));rw[hok] at HR;obtain⟨Z,hZ⟩:∃ Z,rdF (bT D T) f s.toList=Z:=⟨_,rfl⟩
 rw[aDe,List.drop_zero,hZ] at HPT;have HSO:=zh (fun p l (e:rdF (bT D T) f s.toList=some (p,l))=>yU f 0 bId _ _ _ e);rw[hZ] at HSO ⊢;obtain⟨m,hm⟩:∃ m,f.fields.length=m:=⟨_,rfl⟩
 rw[hm,aT] at HR HPT;rw[hm,aT];clear hZ hfi htb bId hm fK hok;have HC:=zh (show ∀ W,Below (w.heap.size+1+1+1+1) ((((w.alloc (.cells #[.string f.name,.int .u8 f.kind,.bool f.down,.int .u8 f.aI,.bool f.bnd,.bool f.eX,.string f.eG,.bool f.hib,.string f.him,.int .i64 f.most,.int .i64 f.co.str,.bool f.co.sh,.bool f.co.back,.slice a0 m k0] 79)).alloc (.cells #[.nilIface] 34)).alloc (.cells #[.int .i64 0] 3)).alloc (.cells #[.nilIface] 36)) W →
  aC W w.heap.size 79 #[.string f.name,.int .u8 f.kind,.bool f.down,.int .u8 f.aI,.bool f.bnd,.bool f.eX,.string f.eG,.bool f.hib,.string f.him,.int .i64 f.most,.int .i64 f.co.str,.bool f.co.sh,.bool f.co.back,.slice a0 m k0] ∧
  aC W (w.heap.size+1) 34 #[.nilIface]∧aC W (w.heap.size+1+1) 3 #[.int .i64 0]∧aC W (w.heap.size+1+1+1) 36 #[.nilIface]∧Below w.heap.size w W from fun W hW=>by
  obtain⟨A1,hA1⟩:∃ A1,A1=w.alloc (.cells #[.string f.name,.int .u8 f.kind,.bool f.down,.int .u8 f.aI,.bool f.bnd,.bool f.eX,.string f.eG,.bool f.hib,.string f.him,.int .i64 f.most,.int .i64 f.co.str,.bool f.co.sh,.bool f.co.back,.slice a0 m k0] 79):=⟨_,rfl⟩
  rw[← hA1] at hW;have z1:A1.heap.size=w.heap.size+1:=by rw[hA1];simp
  have b1:aC A1 w.heap.size 79 #[.string f.name,.int .u8 f.kind,.bool f.down,.int .u8 f.aI,.bool f.bnd,.bool f.eX,.string f.eG,.bool f.hib,.string f.him,.int .i64 f.most,.int .i64 f.co.str,.bool f.co.sh,.bool f.co.back,.slice a0 m k0]:=by rw[hA1];exact aC.new _ _ _
  have e1:Below w.heap.size w A1:=by rw[hA1];exact zr.alloc lr _
  obtain⟨A2,hA2⟩:∃ A2,A2=A1.alloc (.cells #[.nilIface] 34):=⟨_,rfl⟩
  rw[← hA2] at hW;have z2:A2.heap.size=w.heap.size+1+1:=by rw[hA2];simp[z1]
  have b2:aC A2 (w.heap.size+1) 34 #[.nilIface]:=by rw[hA2,← z1];exact aC.new _ _ _
  have e2:Below A1.heap.size A1 A2:=by rw[hA2];exact zr.alloc lr _
  obtain⟨A3,hA3⟩:∃ A3,A3=A2.alloc (.cells #[.int .i64 0] 3):=⟨_,rfl⟩
  rw[← hA3] at hW;have z3:A3.heap.size=w.heap.size+1+1+1:=by rw[hA3];simp[z2]
  have b3:aC A3 (w.heap.size+1+1) 3 #[.int .i64 0]:=by rw[hA3,← z2];exact aC.new _ _ _
  have e3:Below A2.heap.size A2 A3:=by rw[hA3];exact zr.alloc lr _
  have b4:aC (A3.alloc (.cells #[.nilIface] 36)) (w.heap.size+1+1+1) 36 #[.nilIface]:=by rw[← z3];exact aC.new _ _ _
  have e4:Below A3.heap.size A3 (A3.alloc (.cells #[.nilIface] 36)):=zr.alloc lr _;exact⟨aC.below (aC.below (aC.below (aC.below b1 e2 b1.lt) e3 (by omega)) e4 (by omega)) hW (by omega),aC.below (aC.below (aC.below b2 e3 b2.lt) e4 (by omega)) hW (by omega),aC.below (aC.below b3 e4 b3.lt) hW (by omega),aC.below b4 hW (by omega),
   e1.trans ((e2.mono (by omega)).trans ((e3.mono (by omega)).trans ((e4.mono (by omega)).trans (hW.mono (by omega)))))⟩)
 go_enter_defers func22,ntmps22
 have hB0:=(HC.out _ zr).2.2.2.2;have HB0:=zh hB0;clear hB0;go_wp2_with (go_at_call 39;refine(HR.out _ HB0.out).mono ?_;intro e w1 he;obtain⟨rfl,hb1⟩:=he.yes;obtain⟨q1,q2,q3,q4,q5⟩:=HC.out w1 (hb1.mono (by simp));have HQ:=zh (And.intro q2 (And.intro q3 (And.intro q4 q5)));obtain⟨c0,c1,c2,c3,c4,c5,c6,c7,c8,c9,c10,c11,c12,c13⟩:=f14 q1;have HF1:=zh q1;have l1:=q1.lt;clear q1 q2 q3 q4 q5 hb1);obtain⟨W2,hW2⟩:∃ W2,w1.alloc (.cells #[.pointer (some t),.string s,.int .i64 0,.int .u8 0,.slice none 0 0] 111)=W2:=⟨_,rfl⟩
 rw[hW2];have hb2:Below w1.heap.size w1 W2:=by rw[← hW2];exact zr.alloc lr _
 have hR2:gB W2 w1.heap.size (.pointer (some t)) s 0 false (.slice none 0 0):=by rw[← hW2];exact aC.new _ _ _
 obtain⟨q2,q3,q4,q5⟩:=HQ.out;have hB2:Below w.heap.size w W2:=q5.trans (hb2.mono q5.size);have Q2:=zh (aC.below q2 hb2 q2.lt);have Q3:=zh (aC.below q3 hb2 q3.lt);have Q4:=zh (aC.below q4 hb2 q4.lt);have hr1:w.heap.size+1+1+1<w1.heap.size:=q4.lt;have hr2:w1.heap.size<W2.heap.size:=hR2.lt;have HB2:=zh hB2;have HPP:=zh (HPT.out W2 w1.heap.size q5.size hB2 hR2);clear hW2 hb2 hR2 q2 q3 q4 q5 hB2 c0 c1 c2 c3 c4 c5 c6 c7 c8 c9 c10 c11 c12 c13;refine HPP.out.mono ?_;intro e w3 hpg;cases Z with
 | none =>
  obtain⟨hf,hx⟩:=hpg;obtain⟨ch,rfl⟩:=hf.form;have hxb:Below w1.heap.size W2 w3:=hx.below (fun k hk e=>by
   rcases e with e | e
   · omega
   · cases e) (by omega)
  exact aLs w.heap.size s w _ rfl rfl rfl (aC.below Q2.out hxb (by omega)) (aC.below Q3.out hxb (by omega)) (aC.below Q4.out hxb (by omega)) rfl (by omega) hf (HB2.out.trans (hxb.mono (by have:=HB2.out.size;omega)))
 | some x =>
  obtain⟨p,l⟩:=x;obtain⟨⟨u,a,qP,rfl,ha,rfl,hr3,_,_,hps⟩,hx⟩:=hpg;have hxb:Below w1.heap.size W2 w3:=hx.below (fun k hk e=>by
   rcases e with e | e
   · omega
   · cases e) (by omega)
  obtain⟨ua,uc,rfl⟩:=hps.form;obtain⟨_,_,hmay,bUd⟩:=HSO.out p _ rfl;have HB3:=zh (HB2.out.trans (hxb.mono (by have:=HB2.out.size;omega)));have HR3:=zh hr3;have P2:=zh (aC.below Q2.out hxb (by omega));have P3:=zh (aC.below Q3.out hxb (by omega));have P4:=zh (aC.below Q4.out hxb (by omega));have HMK:=zh (fun (w4:World) (hb:Below w3.heap.size w3 w4)=>V.aCl p (.slice ua p.items.length uc) w4 (aCy hmay) ((hps.keep hb.size (fun k hk _=>hb.block k hk) (fun _ _ h=>h)).reads));have HZ0:=zh (aVr hmay (by omega));obtain⟨pn,hpn⟩:∃ pn,p.items.length=pn:=⟨_,rfl⟩
  rw[hpn] at HMK ⊢;simp only [V.cellsOf];clear hps hx hxb hr3 hmay bUd hpn;go_wp2_with fail;obtain⟨W4,hW4⟩:∃ W4,w3.alloc (.cells #[.int .u8 p.kind,.bool p.yes,.bool p.neg,.string p.mag,.string p.raw,.slice ua pn uc] 57)=W4:=⟨_,rfl⟩
  rw[hW4];have hb4:Below w3.heap.size w3 W4:=by rw[← hW4];exact zr.alloc lr _
  refine(HMK.out W4 hb4).mono ?_;rintro e w5 ⟨u2,rfl,-,hv5,hb5⟩;have hv5:=hv5 HZ0.out;rw[HZ0.out];have aVs:Below w3.heap.size w3 w5:=hb4.trans (hb5.mono hb4.size);have lJ:=zh (HB3.out.trans (aVs.mono HB3.out.size));have R2:=zh (aC.below P2.out aVs P2.out.lt);have R3:=zh (aC.below P3.out aVs P3.out.lt);have R4:=zh (aC.below P4.out aVs P4.out.lt);have HR5:=zh (show gB w5 w1.heap.size (.pointer (some t)) s a false qP from aC.below HR3.out aVs HR3.out.lt);have HV5:=zh hv5;have t0:w5.cell? ⟨w.heap.size+1,0,none⟩=some .nilIface:=R2.out.cell 0;have t1:w5.cell? ⟨w.heap.size+1+1,0,none⟩=some (.int .i64 0):=R3.out.cell 0;have t2:w5.cell? ⟨w.heap.size+1+1+1,0,none⟩=some .nilIface:=R4.out.cell 0;have z0:=R2.out.frozen 0;have z1:=R3.out.frozen 0;have z2:=R4.out.frozen 0;have ra:w5.cell? ⟨w1.heap.size,2,none⟩=some (.int .i64 (a:Int)):=HR5.out.cell 2;have hsz5:w3.heap.size<W4.heap.size∧W4.heap.size≤w5.heap.size:=⟨by rw[← hW4];simp,hb5.size⟩
  have hl3:=P4.out.lt;have hvs:u2=.nilIface∨∃ T V,u2=.iface T V:=by
   by_cases h0:p.kind=0
   · exact .inl (hv5.mP h0)
   · obtain⟨T,V,_,h,_⟩:=hv5.kindOf h0;exact .inr ⟨T,V,h⟩
  clear hb4 hb5 aVs hv5 hW4;rcases hvs with rfl | ⟨U2,V2,rfl⟩
  all_goals
   go_wp2_with fail;go_region;go_wp2_with fail;refine wD (T0:=w.heap.size+1) (T1:=w.heap.size+1+1) (T2:=w.heap.size+1+1+1) (w:=w) (w5:=w5) (lo:=W4.heap.size) (p:=p) (a:=a) (by omega) (by omega) (by omega) (by omega) (by omega) R2.out R3.out R4.out HV5.out lJ.out ?_;rintro ⟨e0,e1,e2,e3,e4⟩;exact aIc w.heap.size _ s w _ rfl rfl rfl e0 e1 e2 ⟨⟨_,a,rfl,ha,aDe s a,e3⟩,e4⟩
open V (Same Pt VI aL bE aW)
def xH (R:Option Pt) (n:Nat) (w:World) (e:Ending) (w':World):Prop :=
 (match R with
  | some p=>∃ u,e=.returned (.tuple #[u,.nilIface])∧VI w' w.heap.size w'.heap.size p u
  | none=>∃ fb c at_ pv why,w.heap.size≤fb∧e=.returned (.tuple #[.nilIface,.iface 39 (.pointer (some ⟨fb,0,none⟩))])∧aC w' fb 44 #[.int .i64 c,.int .i64 at_,pv,why]∧0≤at_∧at_≤n)∧Below w.heap.size w w'
theorem xH.no {R:Option Pt} {n fb:Nat} {w w':World} {c at_:Int} {pv why:Value} (h:R=none) (h1:w.heap.size≤fb) (h2:aC w' fb 44 #[.int .i64 c,.int .i64 at_,pv,why]) (h3:0≤at_) (h4:at_≤n) (h5:Below w.heap.size w w') :
 xH R n w (.returned (.tuple #[.nilIface,.iface 39 (.pointer (some ⟨fb,0,none⟩))])) w':=by
 unfold xH;rw[h];exact⟨⟨fb,c,at_,pv,why,h1,rfl,h2,h3,h4⟩,h5⟩
theorem aEe (lim:Int) (F:List Fd) (a:Option Addr) (c:Nat) (t:Addr) (w:World) (hl:F.length≤140737488351232) (hfi:FI w 0 w.heap.size F (.slice a F.length c)) (hno:rT lim F=false) :
 Calls prog 21 #[.pointer (some t),.agg #[.int .i64 lim,.slice a F.length c]] w fun e w'=>∃ fb c why,w.heap.size≤fb∧e=.returned (.iface 39 (.pointer (some ⟨fb,0,none⟩)))∧aC w' fb 44 #[.int .i64 c,.int .i64 0,.slice none 0 0,why]∧Below w.heap.size w w':=by
 have HS:=zh (fun o=>qH lim F a c (w.alloc o) hl (bA hfi (zr.alloc lr o)));obtain⟨m,hm⟩:∃ m,F.length=m:=⟨_,rfl⟩
 rw[hno,hm] at HS;rw[hm];clear hno hm hfi hl;go_enter func21,ntmps21;go_wp2_with (go_at_call 27;refine(HS.out _).mono ?_;intro e w1 he;obtain⟨⟨fb,rfl⟩,hb1⟩:=he.no;have HB:=zh ((zr.alloc lr _).trans (hb1.mono (by simp))));go_ret;exact⟨_,_,_,HB.out.size,rfl,aC.new _ _ _,HB.out.alloc HB.out.size _⟩
theorem _root_.Go.Proofs.YtcgnajeenflfaaaGreatDoor.V.bEf (w:World) (u:Value) (T:TypeId):aV 1 (w.alloc (.cells #[u] T)) w.heap.size (w.heap.size+1) (.slice (some ⟨w.heap.size,0,none⟩) 1 1) 1 [u]:=aV.lit w T #[u] 1 1 rfl
theorem bAw (b:ByteArray) (a:Nat) (h:a≤b.size):(b.extract a b.size).toList=b.toList.drop a∧(b.extract a b.size).size=b.size-a:=by
 have h1:(b.extract a b.size).toList=b.toList.drop a:=by
  rw[Lib.toList_data,Lib.toList_data];simp[ByteArray.extract,ByteArray.copySlice];rw[List.take_of_length_le];simp[List.length_drop]
 exact⟨h1,by rw[← V.aD,h1,List.length_drop,V.aD]⟩
theorem aDf {D:Dm} (wf:Wf D) {T:Tm} (wt:lF T) (t:Addr) (lim:Int) (F:List Fd) (a0:Option Addr) (k0:Nat) (key:ByteArray) (w:World) (hl:F.length≤140737488351232) (hkey:key.size≤4611686018427387904) (htb:Tb D T t w) (hG:aEd w) (hfi:FI w 0 w.heap.size F (.slice a0 F.length k0)) :
 Calls prog 8 #[.pointer (some t),.agg #[.int .i64 lim,.slice a0 F.length k0],.string key] w (xH (aNp (bT D T) lim F key.toList) key.size w):=by
 obtain⟨KM,hKM⟩:∃ KM,bT D T=KM:=⟨_,rfl⟩
 obtain⟨m,hm⟩:∃ m,F.length=m:=⟨_,rfl⟩
 have HG:=zh hG;have hgl:1<w.heap.size:=World.block_lt_of_cell? w _ hG;have HSB:=zh (show ∀ o,aC (w.alloc o) w.heap.size 26 #[.int .i64 lim,.slice a0 m k0]→True from fun _ _=>trivial);cases hok:rT lim F with
 | false =>
  have kZ:=zh (show aNp KM lim F key.toList=none by unfold aNp;rw[hok];rfl);have HR:=zh (fun o=>aEe lim F a0 k0 t (w.alloc o) hl (bA hfi (zr.alloc lr o)) hok);rw[hm] at HR ⊢;rw[hKM];clear hfi htb hG hok;go_enter func8,ntmps8;go_wp2_with (go_at_call 21;refine(HR.out _).mono ?_;rintro e w1 ⟨fb,fc,why,hfb,rfl,hbk,hb1⟩;have HB1:=zh ((zr.alloc lr _).trans (hb1.mono (by simp)));have HBK:=zh hbk;have xC:=zh (show w.heap.size≤fb by simp at hfb;omega);clear hbk hb1 hfb);refine bodyPost_ret (v:=.tuple #[.nilIface,.iface 39 (.pointer (some ⟨fb,0,none⟩))]) (by simp[results,Tryz.f8]) rfl ?_;exact .no kZ.out xC.out HBK.out (Int.le_refl _) (Int.natCast_nonneg _) HB1.out
 | true =>
  obtain⟨bVl,bVm,hne,h64,_⟩:=lQ hok;have HR:=zh (fun o=>qV lim F a0 k0 t (w.alloc o) hl (bA hfi (zr.alloc lr o)));rw[hok] at HR;have HFT:=zh (fun (i:Nat) (h:i<F.length) (b:ByteArray) (w':World) (hb:Below w.heap.size w w') (hs:b.size≤4194304) (fK:jY F[i]) (au:Option Addr) (cu:Nat) (hsub:FI w' 0 w.heap.size F[i].fields (.slice au F[i].fields.length cu)) =>
   bAv wf wt t F[i] (aQq hok (List.getElem_mem h)) fK au cu b w' hs (bV htb hb) (hsub.wide lr hb.size))
  rw[hKM] at HFT ⊢;have uK:=zh hfi;have HM:=zh hm;have HOK:=zh hok;rw[hm] at HR ⊢;have bSq:m≤64:=by omega
  have hm1:1≤m:=by
   rcases Nat.eq_zero_or_pos m with h | h
   · exact absurd (List.eq_nil_of_length_eq_zero (hm.trans h)) hne
   · exact h
  clear hfi htb hG hok hne h64;obtain⟨R,hR⟩:∃ R,aNp KM lim F key.toList=R:=⟨_,rfl⟩
  rw[hR];have HRD:=zh (show R=if (key.size:Int)≤lim then match zV KM F key.toList with
   | none=>none
   | some (ps,r)=>if r=[] then some (.mk 7 false false .empty .empty ps) else none else none by
   rw[← hR];unfold aNp;rw[HOK.out,Bool.true_and,V.aD];by_cases h:(key.size:Int)≤lim<;>simp[h]
   rfl)
  clear hR;have HSC:=zh (show ∀ w1,Below (w.alloc (.cells #[.int .i64 lim,.slice a0 m k0] 26)).heap.size (w.alloc (.cells #[.int .i64 lim,.slice a0 m k0] 26)) w1→aC w1 w.heap.size 26 #[.int .i64 lim,.slice a0 m k0] from fun w1 hb=>aC.below (aC.new _ _ _) hb (by simp));go_enter func8,ntmps8;by_cases hbig:lim<(key.size:Int)
  · have q1:decide (lim<(key.size:Int))=true:=decide_eq_true hbig;have kZ:=zh (show R=none by rw[HRD.out,if_neg (by omega)]);go_wp2_with (go_at_call 21;refine(HR.out _).mono ?_;intro e w1 he;obtain⟨rfl,hb1⟩:=he.yes;have HB1:=zh ((zr.alloc lr _).trans (hb1.mono (by simp)));obtain⟨s0,s1⟩:=f2 (HSC.out _ hb1);clear hb1);go_region;go_wp2_with fail;refine bodyPost_ret (v:=.tuple #[.nilIface,.iface 39 (.pointer (some ⟨w1.heap.size,0,none⟩))]) (by simp[results,Tryz.f8]) rfl ?_;exact .no kZ.out HB1.out.size (xG (aC.new _ _ _)) (by omega) (by omega) (HB1.out.alloc HB1.out.size _).drew
  have q1:decide (lim<(key.size:Int))=false:=decide_eq_false hbig;have HRR:=zh (show R=match zV KM F key.toList with
   | none=>none
   | some (ps,r)=>if r=[] then some (.mk 7 false false .empty .empty ps) else none by rw[HRD.out,if_pos (by omega)])
  have hks:key.size≤65536:=by omega
  go_wp2_with (go_at_call 21;refine(HR.out _).mono ?_;intro e w1 he;obtain⟨rfl,hb1⟩:=he.yes;have HB1:=zh ((zr.alloc lr _).trans (hb1.mono (by simp)));obtain⟨s0,s1⟩:=f2 (HSC.out _ hb1);clear hb1);go_loopw [9,10,37] (fun rv av iv wr=>∃ (i a:Nat) (ps:List Pt) (us:List Value),i≤m∧iv=.int .i64 (i:Int)∧av=.int .i64 (a:Int)∧a≤key.size∧ps.length=i∧Hid (wr.ownsRow w.heap.size 34 1 rv i us)∧Hid (V.pE wr w.heap.size rv.ownBlock ps us)∧Hid (Below w.heap.size w wr) ∧
   Hid (zV KM F key.toList=(zV KM (F.drop i) (key.toList.drop a)).map fun x=>(ps++x.1,x.2))∧Hid (∀ p∈ps,aL p=true∧aW p≤15)) (fun _ _ iv _=>m-(intOf iv).toNat)
  case atStart=>exact⟨0,0,[],[],Nat.zero_le _,rfl,rfl,Nat.zero_le _,rfl,zh (World.ownsRow_nil _ _ _ _),zh (V.pE.nil _ _ _),zh HB1.out,zh (by rw[List.drop_zero,List.drop_zero];generalize zV KM F key.toList=Y;cases Y<;>simp),zh (fun p hp=>by cases hp)⟩
  case round =>
   obtain⟨i,a,ps,us,hi2,rfl,rfl,ha,hpl,uY,HVw,vY,qN,HMY⟩:=hrel;obtain⟨ra,rc,rfl⟩:=aP uY.out;by_cases hlt:i<m
   · have q2:decide ((i:Int)<(m:Int))=true:=decide_eq_true (by omega);have hiF:i<F.length:=by rw[HM.out];exact hlt
     obtain⟨a',c',he,hc,qO⟩:=(uK.out.same (Same.of_below vY.out lr)).open;injection he with e1 e2 e3
     subst e1 e3;obtain⟨bb,off,uu,rfl,_,hbh,hcl,fK,hsub⟩:=qO i hiF;obtain⟨k0',k1',k2',k3',k4',k5',k6',k7',k8',k9',aZz,bAa,bAb,bAc⟩:=hcl.all;have HTF:=zh (HFT.out i hiF);have hdr:=List.drop_eq_getElem_cons (l:=F) (i:=i) hiF;obtain⟨f,hf⟩:∃ f,F[i]=f:=⟨_,rfl⟩
     rw[hf] at k0' k1' k2' k3' k4' k5' k6' k7' k8' k9' aZz bAa bAb fK hsub hdr HTF;obtain⟨au,cu,rfl,_,_⟩:=hsub.open;have qs:(i:Int)≤(k0:Int):=by rw[HM.out] at hc;omega
     obtain⟨gm,aHr⟩:∃ gm,f.fields.length=gm:=⟨_,rfl⟩
     rw[aHr] at bAc hsub HTF;have hss:=bAw key a ha;obtain⟨sub,hsb⟩:∃ sub,key.extract a key.size=sub:=⟨_,rfl⟩
     rw[hsb] at hss;have HKEY:=zh hss.1;have HSZ:=zh hss.2;have bUe:=zh hsb;obtain⟨Z,hZ⟩:∃ Z,rdF KM f sub.toList=Z:=⟨_,rfl⟩
     have HZ:=zh hZ;have HDR:=zh hdr;have HFF:=zh fK;have yX:=zh hsub;have HGL:=zh aHr;have HFM:=zh (show f∈F by rw[← hf];exact List.getElem_mem hiF);have bl:bb<wr.heap.size:=World.block_lt_of_cell? wr _ k0';have g1:(a:Int)≤(key.size:Int):=by omega
     clear qO hcl fK hsub hf hdr aHr hc hZ hsb hss;go_wp2_with fail;obtain⟨W3,hW3⟩:∃ W3,wr.alloc (.cells #[.string f.name,.int .u8 f.kind,.bool f.down,.int .u8 f.aI,.bool f.bnd,.bool f.eX,.string f.eG,.bool f.hib,.string f.him,.int .i64 f.most,.int .i64 f.co.str,.bool f.co.sh,.bool f.co.back,.slice au gm cu] 79)=W3:=⟨_,rfl⟩
     have hb3:Below wr.heap.size wr W3:=by rw[← hW3];exact zr.alloc lr _
     obtain⟨d0,d1,d2,d3,d4,d5,d6,d7,d8,d9,lD,nZ,oC,oD⟩:=f14 (show aC W3 wr.heap.size 79 #[.string f.name,.int .u8 f.kind,.bool f.down,.int .u8 f.aI,.bool f.bnd,.bool f.eX,.string f.eG,.bool f.hib,.string f.him,.int .i64 f.most,.int .i64 f.co.str,.bool f.co.sh,.bool f.co.back,.slice au gm cu] by rw[← hW3];exact aC.new _ _ _);rw[hW3];have HB3:=zh (vY.out.trans (hb3.mono vY.out.size));have zR:=zh (V.own_below uY.out hb3);have HV3:=zh (HVw.out.below hb3);have bMn:FI W3.drew 0 w.heap.size f.fields (.slice au gm cu):=(yX.out.same (Same.of_below hb3 vY.out.size)).same (fun _ _ _=>rfl);have hcall:=HTF.out sub W3.drew HB3.out.drew (by have:=HSZ.out;omega) HFF.out au cu bMn;rw[aT,HZ.out] at hcall;have HTK:=zh hcall;clear hcall bMn hW3 hb3 k0' k1' k2' k3' k4' k5' k6' k7' k8' k9' aZz bAa bAb bAc
     refine wp_region_held_drew (S:=fun w'=>w'.cell? ⟨wr.heap.size,0,none⟩=some (.string f.name)∧w'.cell? ⟨wr.heap.size,1,none⟩=some (.int .u8 f.kind)∧w'.cell? ⟨wr.heap.size,2,none⟩=some (.bool f.down)∧w'.cell? ⟨wr.heap.size,3,none⟩=some (.int .u8 f.aI)∧w'.cell? ⟨wr.heap.size,4,none⟩=some (.bool f.bnd)∧w'.cell? ⟨wr.heap.size,5,none⟩=some (.bool f.eX)∧w'.cell? ⟨wr.heap.size,6,none⟩=some (.string f.eG)∧w'.cell? ⟨wr.heap.size,7,none⟩=some (.bool f.hib)∧w'.cell? ⟨wr.heap.size,8,none⟩=some (.string f.him)∧w'.cell? ⟨wr.heap.size,9,none⟩=some (.int .i64 f.most)∧w'.cell? ⟨wr.heap.size,10,none⟩=some (.int .i64 f.co.str)∧w'.cell? ⟨wr.heap.size,11,none⟩=some (.bool f.co.sh)∧w'.cell? ⟨wr.heap.size,12,none⟩=some (.bool f.co.back)∧w'.cell? ⟨wr.heap.size,13,none⟩=some (.slice au gm cu)∧Below W3.heap.size W3 w') (by kernel_rfl) ⟨d0,d1,d2,d3,d4,d5,d6,d7,d8,d9,lD,nZ,oC,oD,(Below.refl _ W3).drew⟩ (fun hHeld=>?_);refine tx 0 ?v0 rfl (by kernel_rfl) tq (by rfl) ?hy0 (by assumption) ?aCd;case hy0=>(rintro wS ⟨d0,d1,d2,d3,d4,d5,d6,d7,d8,d9,lD,nZ,oC,oD,kb⟩;go_simp;try with_reducible rfl)
     try simp[Act.put]
     refine tx 1 ?v1 rfl (by kernel_rfl) tq (by rfl) ?hy1 (by assumption) ?aFe;case hy1=>(rintro wS ⟨d0,d1,d2,d3,d4,d5,d6,d7,d8,d9,lD,nZ,oC,oD,kb⟩;go_simp;try with_reducible rfl)
     try simp[Act.put]
     refine tx 2 ?v2 rfl (by kernel_rfl) tq (by rfl) ?hy2 (by assumption) ?aCe;case hy2=>(rintro wS ⟨d0,d1,d2,d3,d4,d5,d6,d7,d8,d9,lD,nZ,oC,oD,kb⟩;go_simp;try with_reducible rfl)
     try simp[Act.put]
     refine tx 3 ?v3 rfl (by kernel_rfl) tq (by rfl) ?hy3 (by assumption) ?aFf;case hy3=>(rintro wS ⟨d0,d1,d2,d3,d4,d5,d6,d7,d8,d9,lD,nZ,oC,oD,kb⟩;go_simp;try with_reducible rfl)
     try simp[Act.put]
     refine tx 4 ?v4 rfl (by kernel_rfl) tq (by rfl) ?hy4 (by assumption) ?aKf;case hy4=>(rintro wS ⟨d0,d1,d2,d3,d4,d5,d6,d7,d8,d9,lD,nZ,oC,oD,kb⟩;go_simp;try with_reducible rfl)
     try simp[Act.put]
     refine wpAnyH_ready (rs:=[5]) (by kernel_rfl) (by simp) ?_;refine AllReadyH.cons rfl (fun K hK=>?_) AllReadyH.nil;go_simp;obtain⟨d0,d1,d2,d3,d4,d5,d6,d7,d8,d9,lD,nZ,oC,oD,kb⟩:=hHeld;rw[bUe.out];refine HTK.out.mono ?_;intro e w4 htk;obtain⟨hres,hb4⟩:=htk;replace d0:=V.keeps hb4 d0;replace d1:=V.keeps hb4 d1;replace d2:=V.keeps hb4 d2;replace d3:=V.keeps hb4 d3;replace d4:=V.keeps hb4 d4;replace d5:=V.keeps hb4 d5;replace d6:=V.keeps hb4 d6;replace d7:=V.keeps hb4 d7;replace d8:=V.keeps hb4 d8;replace d9:=V.keeps hb4 d9;replace lD:=V.keeps hb4 lD;replace nZ:=V.keeps hb4 nZ;replace oC:=V.keeps hb4 oC;replace oD:=V.keeps hb4 oD;replace kb:=V.two kb hb4;clear hb4;cases Z with
     | none =>
      obtain⟨fb,fc,fa,fpv,flp,bUf,hf1,rfl,hf3,hf4,hf5,hf6,hf7⟩:=hres;have HMV:=zh (aVp fb fc fa fpv bUf flp _ a i w4 (HG.out.later (HB3.out.trans (kb.mono HB3.out.size))) hf3 hf4 hf5 hf6.1 (by have:=hf6.2;have:=HSZ.out;omega));have HFA:=zh hf6;have HK4:=zh kb;clear hf3 hf4 hf5 hf6 hf7;go_wp2_with fail;refine hK.out _ _ ⟨d0,d1,d2,d3,d4,d5,d6,d7,d8,d9,lD,nZ,oC,oD,kb⟩ (fun hHeld=>?_);try simp[Act.put]
      refine tx 6 ?v6n rfl (by kernel_rfl) tq (by rfl) ?bUg (by assumption) ?bUh;case bUg=>(rintro wS ⟨d0,d1,d2,d3,d4,d5,d6,d7,d8,d9,lD,nZ,oC,oD,kb⟩;go_simp;try with_reducible rfl)
      try simp[Act.put]
      refine tx 7 ?v7n rfl (by kernel_rfl) tq (by rfl) ?bUi (by assumption) ?bUj;case bUi=>(rintro wS ⟨d0,d1,d2,d3,d4,d5,d6,d7,d8,d9,lD,nZ,oC,oD,kb⟩;go_simp;try with_reducible rfl)
      try simp[Act.put]
      refine tx 8 ?v8n rfl (by kernel_rfl) tq (by rfl) ?bUk (by assumption) ?bUl;case bUk=>(rintro wS ⟨d0,d1,d2,d3,d4,d5,d6,d7,d8,d9,lD,nZ,oC,oD,kb⟩;go_simp;try with_reducible rfl)
      try simp[Act.put]
      refine tx 9 ?v9n rfl (by kernel_rfl) tq (by rfl) ?bUm (by assumption) ?bUn;case bUm=>(rintro wS ⟨d0,d1,d2,d3,d4,d5,d6,d7,d8,d9,lD,nZ,oC,oD,kb⟩;go_simp;try with_reducible rfl)
      try simp[Act.put]
      refine tx 10 ?bWy rfl (by kernel_rfl) tq (by rfl) ?bMo (by assumption) ?bNt;case bMo=>(rintro wS ⟨d0,d1,d2,d3,d4,d5,d6,d7,d8,d9,lD,nZ,oC,oD,kb⟩;go_simp;try with_reducible rfl)
      try simp[Act.put]
      refine tx 11 ?bWz rfl (by kernel_rfl) tq (by rfl) ?bMp (by assumption) ?bNu;case bMp=>(rintro wS ⟨d0,d1,d2,d3,d4,d5,d6,d7,d8,d9,lD,nZ,oC,oD,kb⟩;go_simp;try with_reducible rfl)
      try simp[Act.put]
      refine tx 12 ?bXa rfl (by kernel_rfl) tq (by rfl) ?bMq (by assumption) ?bNv;case bMq=>(rintro wS ⟨d0,d1,d2,d3,d4,d5,d6,d7,d8,d9,lD,nZ,oC,oD,kb⟩;go_simp;try with_reducible rfl)
      try simp[Act.put]
      refine wpAnyH_done (by kernel_rfl) ?_ _;clear hHeld kb d0 d1 d2 d3 d4 d5 d6 d7 d8 d9 lD nZ oC oD;go_wp2_with fail;refine HMV.out.mono ?_;rintro e w5 ⟨f2,qP,hf2,rfl,hbk,hb5⟩;have lJ:=zh (HB3.out.trans ((HK4.out.trans (hb5.mono HK4.out.size)).mono HB3.out.size));have pV:=zh hbk;have HL2:=zh (show w.heap.size≤f2 from Nat.le_trans (Nat.le_trans HB3.out.size HK4.out.size) hf2);have kZ:=zh (show R=none by rw[HRR.out,qN.out,HDR.out,oQ,← HKEY.out,HZ.out];rfl);clear hbk hb5 hf2;go_wp2_with fail;refine bodyPost_ret (v:=.tuple #[.nilIface,.iface 39 (.pointer (some ⟨f2,0,none⟩))]) (by simp[results,Tryz.f8]) rfl ?_;exact .no kZ.out HL2.out pV.out (by have:=HFA.out;omega) (by have:=HFA.out;have:=HSZ.out;omega) lJ.out
     | some x =>
      obtain⟨q,l⟩:=x;obtain⟨u,n,rfl,hn,rfl,oW⟩:=hres;have HVI:=zh oW;have HK4:=zh kb;have hz4:W3.heap.size≤w4.heap.size:=kb.size;have HU1:=zh (V.VI.one oW);clear oW;go_wp2_with fail;refine hK.out _ _ ⟨d0,d1,d2,d3,d4,d5,d6,d7,d8,d9,lD,nZ,oC,oD,kb⟩ (fun hHeld=>?_);try simp[Act.put]
      refine tx 6 ?v6s rfl (by kernel_rfl) tq (by rfl) ?bUo (by assumption) ?bUp;case bUo=>(rintro wS ⟨d0,d1,d2,d3,d4,d5,d6,d7,d8,d9,lD,nZ,oC,oD,kb⟩;go_simp;try with_reducible rfl)
      try simp[Act.put]
      refine tx 7 ?v7s rfl (by kernel_rfl) tq (by rfl) ?bUq (by assumption) ?bUr;case bUq=>(rintro wS ⟨d0,d1,d2,d3,d4,d5,d6,d7,d8,d9,lD,nZ,oC,oD,kb⟩;go_simp;try with_reducible rfl)
      try simp[Act.put]
      refine tx 8 ?v8s rfl (by kernel_rfl) tq (by rfl) ?bUs (by assumption) ?bUt;case bUs=>(rintro wS ⟨d0,d1,d2,d3,d4,d5,d6,d7,d8,d9,lD,nZ,oC,oD,kb⟩;go_simp;try with_reducible rfl)
      try simp[Act.put]
      refine tx 9 ?v9s rfl (by kernel_rfl) tq (by rfl) ?bUu (by assumption) ?bUv;case bUu=>(rintro wS ⟨d0,d1,d2,d3,d4,d5,d6,d7,d8,d9,lD,nZ,oC,oD,kb⟩;go_simp;try with_reducible rfl)
      try simp[Act.put]
      refine tx 10 ?bXb rfl (by kernel_rfl) tq (by rfl) ?bMr (by assumption) ?bNw;case bMr=>(rintro wS ⟨d0,d1,d2,d3,d4,d5,d6,d7,d8,d9,lD,nZ,oC,oD,kb⟩;go_simp;try with_reducible rfl)
      try simp[Act.put]
      refine tx 11 ?bXc rfl (by kernel_rfl) tq (by rfl) ?bMs (by assumption) ?bNx;case bMs=>(rintro wS ⟨d0,d1,d2,d3,d4,d5,d6,d7,d8,d9,lD,nZ,oC,oD,kb⟩;go_simp;try with_reducible rfl)
      try simp[Act.put]
      refine tx 12 ?bXd rfl (by kernel_rfl) tq (by rfl) ?bMt (by assumption) ?bNy;case bMt=>(rintro wS ⟨d0,d1,d2,d3,d4,d5,d6,d7,d8,d9,lD,nZ,oC,oD,kb⟩;go_simp;try with_reducible rfl)
      try simp[Act.put]
      refine wpAnyH_done (by kernel_rfl) ?_ _;clear hHeld kb d0 d1 d2 d3 d4 d5 d6 d7 d8 d9 lD nZ oC oD;have dJ:=zh (HB3.out.trans (HK4.out.mono HB3.out.size));have HO4:=zh (V.own_below zR.out HK4.out);have HV4:=zh (HV3.out.below HK4.out);have hvs:u=.nilIface∨∃ T V,u=.iface T V:=by
       by_cases h0:q.kind=0
       · exact .inl (HVI.out.mP h0)
       · obtain⟨T,V,_,h,_⟩:=HVI.out.kindOf h0;exact .inr ⟨T,V,h⟩
      rcases hvs with rfl | ⟨U2,V2,rfl⟩
      all_goals
       have hus:=fun (x:Value)=>V.bEf w4 x 34
       go_wp2_with (at_builtin;refine aO rfl (.tmp 58) (.tmp 60) 74 rfl 34 .nilIface 1 16 underlying74 V.aRk rfl (by decide) rfl (HO4.out.alloc _) rfl (hus _) (fun y hy=>by rw[List.mem_singleton.1 hy];rfl) (by omega) (by decide) (by simp;have:=dJ.out.size;omega) ?_;intro c9 nE w9 qY nD jM);obtain⟨g9,bIb⟩:∃ g,c9=some ⟨g,0,none⟩:=by
        rcases qY.2 with ⟨he,h0⟩ | ⟨g,_,_,he,_⟩
        · omega
        · injection he with he _ _
          exact⟨g,he⟩
       subst bIb;have hba:∀ o,Below w4.heap.size w4 (w4.alloc o):=fun o=>zr.alloc lr o
       have hV9:=V.pE.snoc (HV4.out.below (hba _)) (HVI.out.same (Same.of_below (hba _) lr)) HB3.out.size (hba _).size (fun k hk=>.inl (World.ownsRow.lt zR.out k hk).2) nD (jM.imp (fun e=>e.symm) (fun e=>Nat.le_of_eq (Option.some.inj e).symm));have uJ:=(dJ.out.alloc dJ.out.size _).grown nD (by simp;have:=dJ.out.size;omega) (fun k hk=>(World.ownsRow.lt HO4.out k hk).1);have hsz2:=HSZ.out;have HWN:=zh (show wrap64 ((a:Int)+(n:Int))=((a+n:Nat):Int) by unfold wrap64;omega);have hso:=yU f 0 ((lQ HOK.out).2.2.2.2 f HFM.out) _ _ _ HZ.out;have hrel:zV KM F key.toList=(zV KM (F.drop (i+1)) (key.toList.drop (a+n))).map fun x=>((ps++[q])++x.1,x.2):=by
        rw[qN.out,HDR.out,oQ,← HKEY.out,HZ.out];simp only [Option.bind_some];rw[HKEY.out,List.drop_drop];generalize zV KM (F.drop (i+1)) (key.toList.drop (a+n))=Y;cases Y<;>simp
       exact⟨⟨i+1,a+n,ps++[q],us++[_],by omega,by simp,by rw[HWN.out],by omega,by simp[hpl],zh qY,zh hV9,zh uJ,zh hrel,zh (fun p hp=>by
        rcases List.mem_append.1 hp with hp | hp
        · exact HMY.out p hp
        · rw[List.mem_singleton.1 hp];exact⟨hso.2.2.1,by have:=hso.2.2.2;omega⟩)⟩,by simp[intOf];omega⟩
   · obtain rfl:i=m:=by omega
     have q2:decide ((i:Int)<(i:Int))=false:=decide_eq_false (by omega);have HRL:=zh (show zV KM F key.toList=some (ps,key.toList.drop a) by
      rw[qN.out,show F.drop i=[] by rw[← HM.out,List.drop_length],aAv];simp)
     by_cases ham:a<key.size
     · have q3:decide ((a:Int)<(key.size:Int))=true:=decide_eq_true (by omega);have kZ:=zh (show R=none by
        rw[HRR.out,HRL.out];simp only;rw[if_neg];intro e;have:=congrArg List.length e;rw[List.length_drop,V.aD] at this;simp at this;omega)
       go_wp2_with fail;refine bodyPost_ret (v:=.tuple #[.nilIface,.iface 39 (.pointer (some ⟨wr.heap.size,0,none⟩))]) (by simp[results,Tryz.f8]) rfl ?_;exact .no kZ.out vY.out.size (aC.new _ _ _) (Int.natCast_nonneg _) (by omega) (vY.out.alloc vY.out.size _)
     · have q3:decide ((a:Int)<(key.size:Int))=false:=decide_eq_false (by omega);have HYE:=zh (show R=some (.mk 7 false false .empty .empty ps) by
        rw[HRR.out,HRL.out];simp only;rw[if_pos (List.drop_of_length_le (by rw[V.aD];omega))])
       have hE0:V.ofE ps=0:=by
        rcases V.zF ps with ⟨h,_⟩ | ⟨_,h,_⟩ | ⟨_,_,h⟩
        · omega
        · obtain⟨q,hq,hd⟩:=V.aRm.1 h;have:=(HMY.out q hq).2;omega
        · exact h
       have HE0:=zh hE0;have HOF:=zh (V.bAj ps us (.slice ra i rc) wr w.heap.size (by rw[hpl];exact uY.out) (by omega) (fun h=>by rw[h] at hpl;simp at hpl;omega) (fun j hj=>by
        obtain⟨u,lo,hi,h1,h2,h3,h4,_⟩:=HVw.out.2 j hj;have h5:=HMY.out ps[j] (List.getElem_mem hj);exact⟨u,h1,h2.wide (Nat.zero_le _) h4,h5.1,by omega⟩))
       clear hE0;go_wp2_with fail;refine HOF.out.mono ?_;rintro e w2 ⟨tv,rfl,-,hof,hb2⟩;obtain⟨ta,bAp,rfl,hcap,hcells⟩:=hof HE0.out;rw[HE0.out];have HCE:=zh hcells;have HB2:=zh hb2;clear hof hcells hb2;go_wp2_with fail;refine(bEc _).mono ?_;rintro e w3 ⟨rfl,hb3⟩;have HB3:=zh hb3;clear hb3;go_wp2_with fail;refine bodyPost_ret (v:=.tuple #[.iface 118 (.agg #[.slice ta ps.length bAp]),.nilIface]) (by simp[results,Tryz.f8,hpl]) rfl ?_;have hbb:Below wr.heap.size wr w3:=HB2.out.trans (HB3.out.mono HB2.out.size);unfold xH;rw[HYE.out];refine⟨⟨_,rfl,V.VI.tuple (.mk 7 false false .empty .empty ps) rfl ta bAp (fun j=>us.getD j .nilIface) hcap (fun j hj=>?_) (fun j hj=>?_)⟩,vY.out.trans (hbb.mono vY.out.size)⟩
       · obtain⟨g,u,h1,h2,h3,h4,h5⟩:=HCE.out j hj;refine⟨g,h1,Nat.le_trans vY.out.size h2,Nat.lt_of_lt_of_le h3 HB3.out.size,?_⟩;rw[V.keeps HB3.out h5,List.getD_eq_getElem?_getD,h4];rfl
       · obtain⟨u,lo,hi,h1,h2,h3,h4,_⟩:=HVw.out.2 j hj;show VI w3 w.heap.size w3.heap.size ps[j] (us.getD j .nilIface)
         rw[List.getD_eq_getElem?_getD,h1];exact(h2.same (Same.of_below hbb h4)).wide h3 (Nat.le_trans h4 hbb.size)
