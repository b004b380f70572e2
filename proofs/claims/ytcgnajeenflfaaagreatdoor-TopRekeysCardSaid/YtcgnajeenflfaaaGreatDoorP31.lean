import Derived.Test.YtcgnajeenflfaaaGreatDoorP30
set_option maxRecDepth 100000
set_option maxHeartbeats 4000000
set_option linter.all false
open Go.Proofs.Tryz Go.RowKit
namespace Go.Proofs.YtcgnajeenflfaaaGreatDoor
namespace Sc
open V (Same)
theorem bC {w:World} {g h:Nat} {t:TypeId} {cs:Array Value} (hb:aC w g t cs) (hne:g≠h) (i:Nat) (v:Value):aC (w.setCell ⟨h,i,none⟩ v) g t cs:=(Below.heap_setCell _ _ _ _ hne).trans hb
theorem aKw (p q r:Addr) (w:World) :
 CallsD prog 40 #[.pointer (some p),.pointer (some q),.pointer (some r)] .returning w fun e u' w'=>e=.returned (.tuple #[])∧u'=.returning∧w'=w:=by
 refine callsD_of_wpS func40 rfl fun c₀ cs hu=>?_
 apply wpS_seq;apply wpS_region;simp[wpOpsS,go_sem,recoverD,hu,ntmps40,Exit.thenS];rw[show Array.replicate 7 undef=#[undef,undef,undef,undef,undef,undef,undef] from rfl];simp;refine wpS_of_wp (Code.wp_mono (fun e a' w' (h:Ends (fun w'=>w'=w) e a' w')=>?_) ?_)
 · obtain⟨rfl,hd,rfl⟩:=h;simp[bodyPostS,results,Tryz.results40,hd];cases c₀;simp_all
 have hneq:∀ w:World,(binOp BinOp.neq 20 .nilIface .nilIface).run prog w=.ok (.bool false) w:=fun _=>by kernel_rfl
 go_wp2_with fail;exact⟨rfl,rfl,rfl⟩
theorem aOk (g0 g1 g2 fb:Nat) (v n er:Value) (w:World) (h0:aC w g0 34 #[v]) (h1:aC w g1 3 #[n]) (h2:aC w g2 36 #[er]) (h01:g0<g1) (h12:g1<g2) :
 CallsD prog 40 #[.pointer (some ⟨g0,0,none⟩),.pointer (some ⟨g1,0,none⟩),.pointer (some ⟨g2,0,none⟩)] (.panicking [{ v:=.iface 39 (.pointer (some ⟨fb,0,none⟩)),recovered:=false }]) w fun e u' w' =>
  e=.returned (.tuple #[])∧u'=.panicking [{ v:=.iface 39 (.pointer (some ⟨fb,0,none⟩)),recovered:=true }] ∧
   (aC w' g0 34 #[.nilIface]∧aC w' g1 3 #[.int .i64 0]∧aC w' g2 36 #[.iface 39 (.pointer (some ⟨fb,0,none⟩))])∧Xv (fun k=>k=g0∨k=g1∨k=g2) w w':=by
 have c0:=h0.cell 0;have c1:=h1.cell 0;have c2:=h2.cell 0;have z0:=h0.frozen 0;have z1:=h1.frozen 0;have z2:=h2.frozen 0;have H:=zh (And.intro h0 (And.intro h1 h2));have hg0:=h0.lt;have hg1:=h1.lt;have hg2:=h2.lt;have n01:g0≠g1:=by omega
 have n02:g0≠g2:=by omega
 have n12:g1≠g2:=by omega
 have m01:g1≠g0:=by omega
 have m02:g2≠g0:=by omega
 have m12:g2≠g1:=by omega
 clear h0 h1 h2;simp at c0 c1 c2;refine callsD_of_wpS func40 rfl fun c₀ cs hu=>?_
 apply wpS_seq;apply wpS_region;simp[wpOpsS,go_sem,recoverD,hu,ntmps40,Exit.thenS];rw[show Array.replicate 7 undef=#[undef,undef,undef,undef,undef,undef,undef] from rfl];simp;refine wpS_of_wp (Code.wp_mono (fun e a' w' (h:Ends (fun w'=>(aC w' g0 34 #[.nilIface]∧aC w' g1 3 #[.int .i64 0]∧aC w' g2 36 #[.iface 39 (.pointer (some ⟨fb,0,none⟩))])∧Xv (fun k=>k=g0∨k=g1∨k=g2) w w') e a' w')=>?_) ?_)
 · obtain⟨rfl,hd,h⟩:=h;simp[bodyPostS,results,Tryz.results40,hd,h]
 have hneq:∀ w:World,(binOp BinOp.neq 20 (.iface 39 (.pointer (some ⟨fb,0,none⟩))) .nilIface).run prog w=.ok (.bool true) w:=fun _=>by kernel_rfl
 have hta:∀ (v:Value) (w:World),(Instr.typeAssert (.iface 39 v) 20 39 false).run prog w=.ok v w:=fun _ _=>by kernel_rfl
 go_wp2_with fail;go_region;go_wp2_with fail;obtain⟨h0,h1,h2⟩:=H.out;refine⟨rfl,rfl,⟨?_,?_,?_⟩,?_⟩
 · have:=bC (bC (h0.aU 0 .nilIface) n01 0 (.int .i64 0)) n02 0 (.iface 39 (.pointer (some ⟨fb,0,none⟩)));simp at this;exact this
 · have:=bC ((bC h1 m01 0 .nilIface).aU 0 (.int .i64 0)) n12 0 (.iface 39 (.pointer (some ⟨fb,0,none⟩)));simp at this;exact this
 · have:=(bC (bC h2 m02 0 .nilIface) m12 0 (.int .i64 0)).aU 0 (.iface 39 (.pointer (some ⟨fb,0,none⟩)));simp at this;exact this
 · exact((((Xv.refl (fun k=>k=g0∨k=g1∨k=g2) w).aU (b:=g0) (fun _=>Or.inl rfl) 0 .nilIface).aU (b:=g1) (fun _=>Or.inr (Or.inl rfl)) 0 (.int .i64 0)).aU (b:=g2) (fun _=>Or.inr (Or.inr rfl)) 0 _).drew
open V (Same Pt VI aL bE)
open We (Co gL lF bT)
open D (Dm Wf)
open Ta (Tm)
theorem aCq (c:UInt8) (W:World) (B:Nat) (h:W.cell? ⟨B,0,none⟩=some (.int .u8 (c.toNat:Int))):(convert 99 9 (.slice (some ⟨B,0,none⟩) 1 1)).run prog W=.ok (.string ⟨#[c]⟩) W :=
 run_convert_bytes_back (P:=prog) W 99 9 5 ⟨B,0,none⟩ 1 [c] underlying99 underlying5 underlying9 (fun j hj=>by
  obtain rfl:j=0:=by simp at hj;omega
  simpa[Addr.add] using h)
theorem aYy (f:Fd) (a:Option Addr) (n c:Nat) (t:Addr) (w:World):Calls prog 77 #[.pointer (some t),.agg (aR f (.slice a n c)).toArray,.nilIface] w (nQ [rV f] w):=by
 have HN:=zh (fun w=>aKo f a n c w);rw[aT] at HN ⊢;obtain⟨nb,hnb⟩:∃ nb,rV f=nb:=⟨_,rfl⟩
 rw[hnb] at HN ⊢;clear hnb;have hcv:=aCq nb;go_enter func77,ntmps77;go_wp2_with (go_at_call 67;refine(HN.out _).mono ?_;rintro e w1 ⟨rfl,hb1⟩;have HB:=zh ((zr.alloc lr _).trans (hb1.mono (by simp))));go_ret;exact⟨rfl,HB.out.alloc HB.out.size _⟩
theorem aYz (f:Fd) (hk:f.kind≤7) (a:Option Addr) (n c:Nat) (t:Addr) (T:TypeId) (V:Value) (L:List UInt8) (hL:L.length≤1099511627000) (w:World)
 (HP:∀ w':World,Below w.heap.size w w'→Calls prog 102 #[.pointer (some t),.agg (aR f (.slice a n c)).toArray,.iface T V] w' (nQ L w')) :
 Calls prog 77 #[.pointer (some t),.agg (aR f (.slice a n c)).toArray,.iface T V] w (nQ (aAp f::flips f.down L) w):=by
 have xZ:=zh HP;have HT:=zh (fun w=>aRh f hk a n c w);have HF:=zh (fun w=>Es.aXi ⟨L.toArray⟩ w (by rw[size_mk];omega));rw[aT] at xZ HT ⊢;obtain⟨tb,htb⟩:∃ tb,aAp f=tb:=⟨_,rfl⟩
 rw[htb] at HT ⊢;clear htb HP;have hcv:=aCq tb;cases hd:f.down with
 | true =>
  rw[hd] at xZ HT;have hfl:(⟨(List.map (255-·) (⟨L.toArray⟩:ByteArray).data.toList).toArray⟩:ByteArray)=⟨(flips true L).toArray⟩:=rfl;have pV:=zh (fun w=>by have:=HF.out w;rw[hfl] at this;exact this);have bKz:(flips true L).length≤1099511627000:=by rw[tQ];exact hL
  obtain⟨M,hM⟩:∃ M,flips true L=M:=⟨_,rfl⟩
  rw[hM] at pV bKz ⊢;have hc1:(9223372036854775807<1+M.length)=False:=by simp;omega
  clear hM hfl HF hd hL bKz hk;go_enter func77,ntmps77;go_wp2_with (first
   | (go_at_call 102;refine(xZ.out _ (zr.alloc lr _)).mono ?_;rintro e w1 ⟨rfl,hb1⟩;have HB:=zh ((zr.alloc lr _).trans (hb1.mono (by simp)));have nO:=zh (aC.below (aC.new w 79 #[.string f.name,.int .u8 f.kind,.bool true,.int .u8 f.aI,.bool f.bnd,.bool f.eX,.string f.eG,.bool f.hib,.string f.him,.int .i64 f.most,.int .i64 f.co.str,.bool f.co.sh,.bool f.co.back,.slice a n c]) hb1 (by simp));have c2:=nO.out.cell 2;simp at c2)
   | (go_at_call 103;refine(pV.out _).mono ?_;rintro e w2 ⟨rfl,hb2⟩;have HB2:=zh (HB.out.trans (hb2.mono HB.out.size));obtain⟨d0,d1,d2,d3,d4,d5,d6,d7,d8,d9,lD,nZ,oC,oD⟩:=f14 (aC.below nO.out hb2 nO.out.lt))
   | (go_at_call 68;refine(HT.out _).mono ?_;rintro e w3 ⟨rfl,hb3⟩;have HB3:=zh (HB2.out.trans (hb3.mono HB2.out.size))))
  go_ret;exact⟨congrArg (fun s=>Ending.returned (.string s)) (ba_eq (by simp)),HB3.out.alloc HB3.out.size _⟩
 | false =>
  rw[hd] at xZ HT;have hfl:flips false L=L:=List.map_id' L;rw[hfl];have hc1:(9223372036854775807<1+L.length)=False:=by simp;omega
  clear hfl HF hd hL hk;go_enter func77,ntmps77;go_wp2_with (first
   | (go_at_call 102;refine(xZ.out _ (zr.alloc lr _)).mono ?_;rintro e w1 ⟨rfl,hb1⟩;have HB:=zh ((zr.alloc lr _).trans (hb1.mono (by simp)));obtain⟨d0,d1,d2,d3,d4,d5,d6,d7,d8,d9,lD,nZ,oC,oD⟩:=f14 (aC.below (aC.new w 79 #[.string f.name,.int .u8 f.kind,.bool false,.int .u8 f.aI,.bool f.bnd,.bool f.eX,.string f.eG,.bool f.hib,.string f.him,.int .i64 f.most,.int .i64 f.co.str,.bool f.co.sh,.bool f.co.back,.slice a n c]) hb1 (by simp)))
   | (go_at_call 68;refine(HT.out _).mono ?_;rintro e w3 ⟨rfl,hb3⟩;have HB3:=zh (HB.out.trans (hb3.mono HB.out.size))))
  go_ret;exact⟨congrArg (fun s=>Ending.returned (.string s)) (ba_eq (by simp)),HB3.out.alloc HB3.out.size _⟩
def Tb (D:Dm) (T:Tm) (t:Addr) (w:World):Prop:=gL w 0 w.heap.size (.pointer (some t)) D T
theorem bV {D:Dm} {T:Tm} {t:Addr} {w w':World} (h:Tb D T t w) (hb:Below w.heap.size w w'):Tb D T t w':=(h.later hb lr).wide lr hb.size
theorem aOl {D:Dm} (wf:Wf D) {T:Tm} (wt:lF T):aCg (bT D T):=fun c s hc hs=>aRj wf wt c hc hs
theorem aZa {K:Co→ByteArray→List UInt8} {f:Fd} {p:Pt} (h1:p.kind≠1) (h2:p.kind≠2):lH K f p=aTp K f p.raw:=by
 unfold lH aTp;rw[if_neg h1,if_neg h2]
theorem bDh {D:Dm} (wf:Wf D) {T:Tm} (wt:lF T) (t:Addr) (f:Fd):∀ d,xL d f→bEx (bT D T) (Tb D T t) t f:=by
 induction f using Fd.ind with
 | h f ih =>
  intro d hok fK hcnt a c q v w hmay hfit htb hv hfi;have hel:=sG (aOl wf wt) f d hok q hfit hmay;obtain⟨_,_,hd,_,ho,h7,_,hin⟩:=hok;obtain⟨hk,_,hco,_⟩:=iT ho;have hcan:=canon (bE hmay);rw[nL] at hfit;rw[tF] at hel ⊢;by_cases h0:q.kind=0
  · rw[if_pos h0];obtain rfl:=hv.mP h0;exact aYy f a _ c t w
  rw[if_neg h0] at hfit hel ⊢;simp only [Bool.and_eq_true,beq_iff_eq] at hfit;obtain⟨U,V,rfl⟩:∃ T V,v=.iface T V:=by
   obtain⟨U,V,_,h,_⟩:=hv.kindOf h0;exact⟨U,V,h⟩
  have hL:(if q.kind=7 then iW (bT D T) f.fields q.items++[1] else lH (bT D T) f q).length≤1099511627000:=by
   rw[List.length_cons,tQ] at hel;have:cntF f*700000000≤64*700000000:=Nat.mul_le_mul_right _ hcnt;omega
  refine aYz f hk.2.1 a _ c t U V _ hL w fun w' hb=>?_
  have hv':=aX hv hb;have bRn:=bA hfi hb;have htb':=bV htb hb;generalize hvv:Value.iface U V=v at hv;cases hv with
  | null _ h=>exact absurd h h0
  | truth _ h =>
   injection hvv with e1 e2
   subst e1 e2;rw[if_neg (by omega)];have:=aTt f q.yes a f.fields.length c t w';unfold lH;rw[if_pos h];exact this
  | whole _ h =>
   injection hvv with e1 e2
   subst e1 e2;rw[if_neg (by omega)];unfold lH;rw[if_neg (by omega),if_pos h];exact aTu f q.neg q.mag (hcan.2.2.2.2.1 h) a f.fields.length c t w'
  | row _ g0 g1 g2 g7 =>
   injection hvv with e1 e2
   subst e1 e2;rw[if_neg g7] at hfit ⊢;rw[aZa g1 g2];have hle:=hcan.1;have hsz:q.raw.size≤65536:=by
    by_cases h4:q.kind=4
    · have:=hcan.2.2.2.2.2.1 h4;omega
    · exact hcan.2.2.2.2.2.2.1 (by omega)
   refine bDf f q.kind q.raw _ a f.fields.length c t w' fun w'' hb2=>?_
   by_cases h6:f.kind=6
   · have hu:U.bK q.raw<0:=by
      have h3:=hfit.2;unfold qE at h3;rw[if_neg g2,hfit.1,h6] at h3;simpa using h3
     exact aYs wf wt f q.raw h6 (hco h6) hsz (aRi hu) a f.fields.length c t w'' (bV htb' hb2)
   · exact aTq f (bT D T) q.raw (by omega) hsz a f.fields.length c t w''
  | tuple _ h a' cap' F hc cells deep =>
   injection hvv with e1 e2
   subst e1 e2;rw[if_pos h] at hfit ⊢;simp only [Bool.and_eq_true,beq_iff_eq] at hfit;have hil:q.items.length≤1024:=by
    have h1:=bE hmay;simp only [V.fB,h,Bool.and_eq_true] at h1;have h2:=h1.2;simp at h2;exact h2.2
   exact aTv (bT D T) (aOl wf wt) (Tb D T t) (fun _ _ h hb=>bV h hb) t f (d+1) fK hcnt hin q a' cap' a c w' hmay h hil hfit.2.1 hfit.2.2 (fun g hg=>ih g hg (d+1) (hin g hg)) htb' hv' bRn
def bDi (ok:Bool) (l:List UInt8) (w:World) (e:Ending) (w':World):Prop :=
 (if ok then e=.returned (.tuple #[.string ⟨l.toArray⟩,.nilIface]) else ∃ fb,w.heap.size≤fb∧e=.returned (.tuple #[.string ⟨#[]⟩,.iface 39 (.pointer (some ⟨fb,0,none⟩))])∧wX w' fb 17)∧Below w.heap.size w w'
theorem bDj {D:Dm} (wf:Wf D) {T:Tm} (wt:lF T) (t:Addr) (f:Fd) (fK:jY f) (a:Option Addr) (c:Nat) (q:Pt) (v:Value) (w:World) (hmay:aL q=true) (htb:Tb D T t w) (hv:VI w 0 w.heap.size q v) (hfi:FI w 0 w.heap.size f.fields (.slice a f.fields.length c)) :
 Calls prog 47 #[.pointer (some t),.agg (aR f (.slice a f.fields.length c)).toArray,v] w (bDi (rT 65536 [f]&&mQ f q) (qX (bT D T) f q) w):=by
 have hvs:v=.nilIface∨∃ T V,v=.iface T V:=by
  by_cases h0:q.kind=0
  · exact .inl (hv.mP h0)
  · obtain⟨T,V,_,h,_⟩:=hv.kindOf h0;exact .inr ⟨T,V,h⟩
 have HR:=zh (fun o=>oZ f a c t (w.alloc o) fK (bA hfi (zr.alloc lr o)));have HFF:=zh (fun (w':World) (hb:Below w.heap.size w w')=>aHo f a c q v w' fK hmay (aX hv hb) (bA hfi hb));have HPP:=zh (fun (h1:rT 65536 [f]=true) (h2:mQ f q=true) (w':World) (hb:Below w.heap.size w w')=>bDh wf wt t f 0 ((lQ h1).2.2.2.2 f List.mem_cons_self) fK (Nat.le_trans (aCf List.mem_cons_self) (aRe h1)) a c q v w' hmay h2 (bV htb hb) (aX hv hb) (bA hfi hb));obtain⟨O,hO⟩:∃ O,rT 65536 [f]=O:=⟨_,rfl⟩
 obtain⟨X,hX⟩:∃ X,mQ f q=X:=⟨_,rfl⟩
 obtain⟨E,hE⟩:∃ E,qX (bT D T) f q=E:=⟨_,rfl⟩
 obtain⟨m,hm⟩:∃ m,f.fields.length=m:=⟨_,rfl⟩
 rw[hO,hm] at HR;rw[hO,hX,hm] at HFF;rw[hO,hX,hE,hm] at HPP;rw[hO,hX,hE,hm];rw[aT] at HR HFF HPP ⊢;clear hv hfi fK hmay hm hO hX hE htb;have CELLS:=zh (fun w1 (hb1:Below (w.alloc (.cells #[.string f.name,.int .u8 f.kind,.bool f.down,.int .u8 f.aI,.bool f.bnd,.bool f.eX,.string f.eG,.bool f.hib,.string f.him,.int .i64 f.most,.int .i64 f.co.str,.bool f.co.sh,.bool f.co.back,.slice a m c] 79)).heap.size (w.alloc (.cells #[.string f.name,.int .u8 f.kind,.bool f.down,.int .u8 f.aI,.bool f.bnd,.bool f.eX,.string f.eG,.bool f.hib,.string f.him,.int .i64 f.most,.int .i64 f.co.str,.bool f.co.sh,.bool f.co.back,.slice a m c] 79)) w1)=>aC.below (aC.new w 79 #[.string f.name,.int .u8 f.kind,.bool f.down,.int .u8 f.aI,.bool f.bnd,.bool f.eX,.string f.eG,.bool f.hib,.string f.him,.int .i64 f.most,.int .i64 f.co.str,.bool f.co.sh,.bool f.co.back,.slice a m c]) hb1 (by simp));cases O with
 | false =>
  rw[Bool.false_and];rcases hvs with rfl | ⟨U,V,rfl⟩
  all_goals
   go_enter func47,ntmps47;go_wp2_with (go_at_call 39;refine(HR.out _).mono ?_;intro e w1 he;obtain⟨fb,⟨hfb,rfl,hfo⟩,hb1⟩:=he.no;have HB:=zh ((zr.alloc lr _).trans (hb1.mono (by simp)));have HFO:=zh hfo;have HLE:=zh (show w.heap.size≤fb by simp at hfb;omega);clear hfo hfb);refine bodyPost_ret (v:=.tuple #[.string ⟨#[]⟩,.iface 39 (.pointer (some ⟨fb,0,none⟩))]) (by simp[results,Tryz.f47]) rfl ?_;exact⟨⟨fb,HLE.out,rfl,HFO.out⟩,HB.out⟩
 | true =>
  rw[Bool.true_and] at HFF ⊢;cases X with
  | false =>
   rcases hvs with rfl | ⟨U,V,rfl⟩
   all_goals
    go_enter func47,ntmps47;go_wp2_with (first
     | (go_at_call 39;refine(HR.out _).mono ?_;intro e w1 he;obtain⟨rfl,hb1⟩:=he.yes;have HB:=zh ((zr.alloc lr _).trans (hb1.mono (by simp)));have nO:=zh (CELLS.out w1 hb1);obtain⟨c0,c1,c2,c3,c4,c5,c6,c7,c8,c9,c10,c11,c12,c13⟩:=f14 nO.out)
     | (go_at_call 76;refine(HFF.out _ HB.out).mono ?_;intro e w2 he2;obtain⟨fb,⟨hfb,rfl,hfo⟩,hb2⟩:=he2.no;have HB2:=zh (HB.out.trans (hb2.mono HB.out.size));have HFO:=zh hfo;have HLE:=zh (Nat.le_trans HB.out.size hfb);clear hfo hfb))
    refine bodyPost_ret (v:=.tuple #[.string ⟨#[]⟩,.iface 39 (.pointer (some ⟨fb,0,none⟩))]) (by simp[results,Tryz.f47]) rfl ?_;exact⟨⟨fb,HLE.out,rfl,HFO.out⟩,HB2.out⟩
  | true =>
   rcases hvs with rfl | ⟨U,V,rfl⟩
   all_goals
    go_enter func47,ntmps47;go_wp2_with (first
     | (go_at_call 39;refine(HR.out _).mono ?_;intro e w1 he;obtain⟨rfl,hb1⟩:=he.yes;have HB:=zh ((zr.alloc lr _).trans (hb1.mono (by simp)));have nO:=zh (CELLS.out w1 hb1);obtain⟨c0,c1,c2,c3,c4,c5,c6,c7,c8,c9,c10,c11,c12,c13⟩:=f14 nO.out)
     | (go_at_call 76;refine(HFF.out _ HB.out).mono ?_;intro e w2 he2;obtain⟨rfl,hb2⟩:=he2.yes;have HB2:=zh (HB.out.trans (hb2.mono HB.out.size));obtain⟨d0,d1,d2,d3,d4,d5,d6,d7,d8,d9,lD,nZ,oC,oD⟩:=f14 (aC.below nO.out hb2 nO.out.lt)))
    refine(HPP.out (by simp) (by simp) _ HB2.out).mono ?_;rintro e w3 ⟨rfl,hb3⟩;have HB3:=zh (HB2.out.trans (hb3.mono HB2.out.size));go_wp2_with fail;refine bodyPost_ret (v:=.tuple #[.string ⟨E.toArray⟩,.nilIface]) (by simp[results,Tryz.f47]) rfl ?_;exact⟨rfl,HB3.out⟩
