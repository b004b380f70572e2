import Derived.Test.YtcgnajeenflfaaaGreatDoorP24
set_option maxRecDepth 100000
set_option maxHeartbeats 4000000
set_option linter.all false
open Go.Proofs.Tryz Go.RowKit
namespace Go.Proofs.YtcgnajeenflfaaaGreatDoor
namespace Sc
open V (Same Pt VI aL rY oU jS fT dX cK bJ iK uQ fE gN fU gY dV bS jE fA fV oN)
theorem below_drewN {B:Nat} {w w':World} (h:Below B w w') (n:Nat):Below B w (w'.drewN n):=⟨h.os,h.tape,h.output,h.size,h.block⟩
theorem aOb (f:Fd) (a:Option Addr) (k c n:Nat) (p:Pt) (r:ByteArray) (w:World) {W:World} {lo hi:Nat} (hf:f.kind=3) (hv:VI W lo hi p (.iface 222 (.agg #[.int .u8 3,.string r]))) (he:p.kind=f.kind) (hr:r.size≤65536) :
 Calls prog 29 #[.agg (aR f (.slice a k c)).toArray,.iface 222 (.agg #[.int .u8 3,.string r])] w (aS (decide ((r.size:Int)≤f.most)) n w):=by
 have HW:=zh (fun w=>jS p (.iface 222 (.agg #[.int .u8 3,.string r])) w (by omega) hv);have t1:=cK (.agg #[.int .u8 3,.string r]);have t2:=fE (.agg #[.int .u8 3,.string r]);have t3:=dV (.agg #[.int .u8 3,.string r]);obtain⟨X,hX⟩:∃ X,(decide ((r.size:Int)≤f.most))=X:=⟨_,rfl⟩
 rw[hX];rw[he] at HW;obtain⟨nm,kd,dn,nu,bd,lb,lm,hib,hm,mo,⟨st,sh,bk⟩,fs⟩:=f;rw[dN];simp only [Fd.kind] at HW hf;replace hX:(decide ((r.size:Int)≤mo))=X:=hX;have HX:=zh hX;clear hX;subst hf;have m1:∀ w:World,(method 512 222 (.agg #[.int .u8 3,.string r]) "Bytes").run prog w=.ok (303,.agg #[.int .u8 3,.string r]) w:=fun _=>by kernel_rfl
 clear hv he;go_enter func29,ntmps29;go_wp2_with (go_at_call 49;refine(HW.out _).mono ?_;rintro e w1 ⟨rfl,hb1⟩;have HB:=zh ((zr.alloc lr _).trans (hb1.mono (by simp)));have nO:=zh (aC.below (aC.new w 79 #[.string nm,.int .u8 3,.bool dn,.int .u8 nu,.bool bd,.bool lb,.string lm,.bool hib,.string hm,.int .i64 mo,.int .i64 st,.bool sh,.bool bk,.slice a k c]) hb1 (by simp)));have c1:w1.cell? ⟨w.heap.size,1,none⟩=some (.int .u8 3):=nO.out.cell 1;have c9:w1.cell? ⟨w.heap.size,9,none⟩=some (.int .i64 mo):=nO.out.cell 9;have hbd:Below w1.heap.size w1 w1.drew:=(Below.refl w1.heap.size w1).drew;refine wp_region_held_drew (S:=fun w'=>w'.cell? ⟨w.heap.size,1,none⟩=some (.int .u8 3)∧w'.cell? ⟨w.heap.size,9,none⟩=some (.int .i64 mo)∧Below w1.heap.size w1 w') (by kernel_rfl) ⟨c1,c9,hbd⟩ (fun hHeld=>?_);refine tx 0 ?v0 rfl (by kernel_rfl) tq (by rfl) ?hy0 (by assumption) ?aCd;case hy0=>(rintro wS ⟨k1,k9,kb⟩;go_simp;try with_reducible rfl)
 try simp[Act.put]
 refine tx 1 ?v1 rfl (by kernel_rfl) tq (by rfl) ?hy1 (by assumption) ?aFe;case hy1=>(rintro wS ⟨k1,k9,kb⟩;go_simp;try with_reducible rfl)
 try simp[Act.put]
 refine tx 2 ?v2 rfl (by kernel_rfl) tq (by rfl) ?hy2 (by assumption) ?aCe;case hy2=>(rintro wS ⟨k1,k9,kb⟩;go_simp;try with_reducible rfl)
 try simp[Act.put]
 refine tx 3 ?v3 rfl (by kernel_rfl) tq (by rfl) ?hy3 (by assumption) ?aFf;case hy3=>(rintro wS ⟨k1,k9,kb⟩;go_simp;try with_reducible rfl)
 try simp[Act.put]
 refine wpAnyH_take (i:=4) (v:=undef) rfl (by kernel_rfl) (by kernel_rfl) (by kernel_rfl) (fun _ _ _ h=>h) (Or.inr ⟨by rfl,rfl⟩) (by assumption) ?_;try simp[Act.put]
 refine wpAnyH_take (i:=5) (v:=undef) rfl (by kernel_rfl) (by kernel_rfl) (by kernel_rfl) (fun _ _ _ h=>h) (Or.inr ⟨by rfl,rfl⟩) (by assumption) ?_;try simp[Act.put]
 refine wpAnyH_take (i:=6) (v:=undef) rfl (by kernel_rfl) (by kernel_rfl) (by kernel_rfl) (fun _ _ _ h=>h) (Or.inr ⟨by rfl,rfl⟩) (by assumption) ?_;try simp[Act.put]
 refine tx 7 ?v7 rfl (by kernel_rfl) tq (by rfl) ?hy7 (by assumption) ?aRb;case hy7=>(rintro wS ⟨k1,k9,kb⟩;go_simp;try with_reducible rfl)
 try simp[Act.put]
 refine tx 8 ?v8 rfl (by kernel_rfl) tq (by rfl) ?hy8 (by assumption) ?aRc;case hy8=>(rintro wS ⟨k1,k9,kb⟩;go_simp;try with_reducible rfl)
 try simp[Act.put]
 refine tx 9 ?v9 rfl (by kernel_rfl) tq (by rfl) ?hy9 (by assumption) ?aRd;case hy9=>(rintro wS ⟨k1,k9,kb⟩;go_simp;try with_reducible rfl)
 try simp[Act.put]
 refine tx 12 ?v12 rfl (by kernel_rfl) tq (by rfl) ?aHf (by assumption) ?aHg;case aHf=>(rintro wS ⟨k1,k9,kb⟩;go_simp;try with_reducible rfl)
 try simp[Act.put]
 refine tx 13 ?v13 rfl (by kernel_rfl) tq (by rfl) ?aOc (by assumption) ?aOd;case aOc=>(rintro wS ⟨k1,k9,kb⟩;go_simp;try with_reducible rfl)
 try simp[Act.put]
 refine wpAnyH_ready (rs:=[10]) (by kernel_rfl) (by simp) ?_;refine AllReadyH.cons rfl (fun K hK=>?_) AllReadyH.nil;go_simp;obtain⟨k1,k9,kb⟩:=hHeld;refine(fA 3 r _).mono ?_;rintro e w9 ⟨rfl,aB⟩;replace k1:=V.keeps aB k1;replace k9:=V.keeps aB k9;replace kb:=V.two kb aB;go_wp2_with fail;refine hK.out _ _ ⟨k1,k9,kb⟩ (fun hHeld=>?_);try simp[Act.put]
 refine tx 11 ?v11 rfl (by kernel_rfl) tq (by rfl) ?aNs (by assumption) ?aNt;case aNs=>(rintro wS ⟨k1,k9,kb⟩;go_simp;try with_reducible rfl)
 try simp[Act.put]
 refine tx 14 ?v14 rfl (by kernel_rfl) tq (by rfl) ?aHh (by assumption) ?aHi;case aHh=>(rintro wS ⟨k1,k9,kb⟩;go_simp;try with_reducible rfl)
 try simp[Act.put]
 refine tx 15 ?v15 rfl (by kernel_rfl) tq (by rfl) ?aNu (by assumption) ?aNv;case aNu=>(rintro wS ⟨k1,k9,kb⟩;go_simp;try with_reducible rfl)
 try simp[Act.put]
 refine wpAnyH_done (by kernel_rfl) ?_ _;obtain⟨k1,k9,kb⟩:=hHeld;have HB2:=zh (HB.out.trans (kb.mono HB.out.size));have d1:w9.cell? ⟨w.heap.size,1,none⟩=some (.int .u8 3):=by assumption
 clear kb hbd c1 c9 nO;by_cases g1:mo<(r.size:Int)
 · have e1:decide (mo<(r.size:Int))=true:=decide_eq_true g1;have HXF:=zh (show X=false by rw[← HX.out,decide_eq_false (show ¬ (r.size:Int)≤mo by omega)]);skip
   go_wp2_with fail;go_ret;rw[HXF.out];exact aS.new rfl HB2.out (.inl rfl)
 · have e1:decide (mo<(r.size:Int))=false:=decide_eq_false g1;have HXX:=zh (show true=X by rw[← HX.out,decide_eq_true (show (r.size:Int)≤mo by omega)]);have g1n:(r.size:Int)≤mo:=by omega
   clear g1;go_wp2_with fail;go_ret;rw[← HXX.out];exact aS.ok HB2.out
theorem aOe (f:Fd) (a:Option Addr) (k c n:Nat) (p:Pt) (r:ByteArray) (w:World) {W:World} {lo hi:Nat} (hf:f.kind=4) (hv:VI W lo hi p (.iface 222 (.agg #[.int .u8 4,.string r]))) (he:p.kind=f.kind) (hr:r.size≤65536) :
 Calls prog 29 #[.agg (aR f (.slice a k c)).toArray,.iface 222 (.agg #[.int .u8 4,.string r])] w (aS (true) n w):=by
 have HW:=zh (fun w=>jS p (.iface 222 (.agg #[.int .u8 4,.string r])) w (by omega) hv);have t1:=cK (.agg #[.int .u8 4,.string r]);have t2:=fE (.agg #[.int .u8 4,.string r]);have t3:=dV (.agg #[.int .u8 4,.string r]);obtain⟨X,hX⟩:∃ X,(true)=X:=⟨_,rfl⟩
 rw[hX];rw[he] at HW;obtain⟨nm,kd,dn,nu,bd,lb,lm,hib,hm,mo,⟨st,sh,bk⟩,fs⟩:=f;rw[dN];simp only [Fd.kind] at HW hf;replace hX:(true)=X:=hX;have HX:=zh hX;clear hX;subst hf;have m1:∀ w:World,(method 512 222 (.agg #[.int .u8 4,.string r]) "Bytes").run prog w=.ok (303,.agg #[.int .u8 4,.string r]) w:=fun _=>by kernel_rfl
 clear hv he;go_enter func29,ntmps29;go_wp2_with (go_at_call 49;refine(HW.out _).mono ?_;rintro e w1 ⟨rfl,hb1⟩;have HB:=zh ((zr.alloc lr _).trans (hb1.mono (by simp)));have nO:=zh (aC.below (aC.new w 79 #[.string nm,.int .u8 4,.bool dn,.int .u8 nu,.bool bd,.bool lb,.string lm,.bool hib,.string hm,.int .i64 mo,.int .i64 st,.bool sh,.bool bk,.slice a k c]) hb1 (by simp)));have c1:w1.cell? ⟨w.heap.size,1,none⟩=some (.int .u8 4):=nO.out.cell 1;have c9:w1.cell? ⟨w.heap.size,9,none⟩=some (.int .i64 mo):=nO.out.cell 9;go_quiet (fail);have HB2:=zh (show Below w.heap.size w (w1.drewN nq) from below_drewN HB.out nq);go_wp2_with fail;go_ret;rw[← HX.out];exact aS.ok HB2.out
theorem aOf (f:Fd) (a:Option Addr) (k c n:Nat) (p:Pt) (r:ByteArray) (w:World) {W:World} {lo hi:Nat} (hf:f.kind=5) (hv:VI W lo hi p (.iface 222 (.agg #[.int .u8 5,.string r]))) (he:p.kind=f.kind) (hr:r.size≤65536) :
 Calls prog 29 #[.agg (aR f (.slice a k c)).toArray,.iface 222 (.agg #[.int .u8 5,.string r])] w (aS (decide ((r.size:Int)≤f.most)&&decide (U.bK r<0)) n w):=by
 have HW:=zh (fun w=>jS p (.iface 222 (.agg #[.int .u8 5,.string r])) w (by omega) hv);have t1:=cK (.agg #[.int .u8 5,.string r]);have t2:=fE (.agg #[.int .u8 5,.string r]);have t3:=dV (.agg #[.int .u8 5,.string r]);obtain⟨X,hX⟩:∃ X,(decide ((r.size:Int)≤f.most)&&decide (U.bK r<0))=X:=⟨_,rfl⟩
 rw[hX];rw[he] at HW;obtain⟨nm,kd,dn,nu,bd,lb,lm,hib,hm,mo,⟨st,sh,bk⟩,fs⟩:=f;rw[dN];simp only [Fd.kind] at HW hf;replace hX:(decide ((r.size:Int)≤mo)&&decide (U.bK r<0))=X:=hX;have HX:=zh hX;clear hX;subst hf;have m1:∀ w:World,(method 512 222 (.agg #[.int .u8 5,.string r]) "Bytes").run prog w=.ok (303,.agg #[.int .u8 5,.string r]) w:=fun _=>by kernel_rfl
 clear hv he;go_enter func29,ntmps29;go_wp2_with (go_at_call 49;refine(HW.out _).mono ?_;rintro e w1 ⟨rfl,hb1⟩;have HB:=zh ((zr.alloc lr _).trans (hb1.mono (by simp)));have nO:=zh (aC.below (aC.new w 79 #[.string nm,.int .u8 5,.bool dn,.int .u8 nu,.bool bd,.bool lb,.string lm,.bool hib,.string hm,.int .i64 mo,.int .i64 st,.bool sh,.bool bk,.slice a k c]) hb1 (by simp)));have c1:w1.cell? ⟨w.heap.size,1,none⟩=some (.int .u8 5):=nO.out.cell 1;have c9:w1.cell? ⟨w.heap.size,9,none⟩=some (.int .i64 mo):=nO.out.cell 9;have hbd:Below w1.heap.size w1 w1.drew:=(Below.refl w1.heap.size w1).drew;go_region_held3 (fun w'=>w'.cell? ⟨w.heap.size,1,none⟩=some (.int .u8 5)∧w'.cell? ⟨w.heap.size,9,none⟩=some (.int .i64 mo)∧Below w1.heap.size w1 w') (go_keep) (first
  | (go_at_call 303;refine(fA 5 r _).mono ?_;rintro e w9 ⟨rfl,aB⟩;have k1:=V.keeps aB (p:=⟨w.heap.size,1,none⟩) (v:=.int .u8 5) (by assumption);have k9:=V.keeps aB (p:=⟨w.heap.size,9,none⟩) (v:=.int .i64 mo) (by assumption);have kb:=V.two (a:=_) (by assumption) aB))
 have HB2:=zh (HB.out.trans (kb.mono HB.out.size));have d1:w9.cell? ⟨w.heap.size,1,none⟩=some (.int .u8 5):=by assumption
 clear kb hbd c1 c9 nO;by_cases g1:mo<(r.size:Int)
 · have e1:decide (mo<(r.size:Int))=true:=decide_eq_true g1;have HXF:=zh (show X=false by rw[← HX.out,decide_eq_false (show ¬ (r.size:Int)≤mo by omega)];rfl);skip
   go_wp2_with fail;go_ret;rw[HXF.out];exact aS.new rfl HB2.out (.inl rfl)
 · have e1:decide (mo<(r.size:Int))=false:=decide_eq_false g1;have HXX:=zh (show decide (U.bK r<0)=X by rw[← HX.out,decide_eq_true (show (r.size:Int)≤mo by omega)];rfl);have g1n:(r.size:Int)≤mo:=by omega
   clear g1;obtain⟨q,hq⟩:∃ q,U.bK r=q:=⟨_,rfl⟩
   have HU:=zh (fun w=>by have:=U.tV r (by omega) w;rw[hq] at this;exact this);have HXQ:=zh (show decide (q<0)=X by rw[← HXX.out,hq]);clear hq;by_cases g2:0≤q
   · have e2:decide (0≤q)=true:=decide_eq_true g2;have HXF:=zh (show X=false by rw[← HXQ.out];exact decide_eq_false (by omega));clear g2;go_wp2_with (first | (go_at_call 303;refine(fA 5 r _).mono ?_;rintro e w5 ⟨rfl,hb5⟩;have lJ:=zh (HB2.out.trans (hb5.mono HB2.out.size))) | (go_at_call 51;refine(HU.out _).mono ?_;rintro e w6 ⟨rfl,hb6⟩;have HB6:=zh (lJ.out.trans (hb6.mono lJ.out.size))));go_ret;rw[HXF.out];exact aS.new rfl HB6.out (.inr ⟨_,_,rfl⟩)
   · have e2:decide (0≤q)=false:=decide_eq_false g2;have HXF:=zh (show X=true by rw[← HXQ.out];exact decide_eq_true (by omega));clear g2;go_wp2_with (first | (go_at_call 303;refine(fA 5 r _).mono ?_;rintro e w5 ⟨rfl,hb5⟩;have lJ:=zh (HB2.out.trans (hb5.mono HB2.out.size))) | (go_at_call 51;refine(HU.out _).mono ?_;rintro e w6 ⟨rfl,hb6⟩;have HB6:=zh (lJ.out.trans (hb6.mono lJ.out.size))));go_ret;rw[HXF.out];exact aS.ok HB6.out
theorem aOg (f:Fd) (a:Option Addr) (k c n:Nat) (p:Pt) (r:ByteArray) (w:World) {W:World} {lo hi:Nat} (hf:f.kind=6) (hv:VI W lo hi p (.iface 222 (.agg #[.int .u8 6,.string r]))) (he:p.kind=f.kind) (hr:r.size≤65536) :
 Calls prog 29 #[.agg (aR f (.slice a k c)).toArray,.iface 222 (.agg #[.int .u8 6,.string r])] w (aS (decide (U.bK r<0)) n w):=by
 have HW:=zh (fun w=>jS p (.iface 222 (.agg #[.int .u8 6,.string r])) w (by omega) hv);have t1:=cK (.agg #[.int .u8 6,.string r]);have t2:=fE (.agg #[.int .u8 6,.string r]);have t3:=dV (.agg #[.int .u8 6,.string r]);obtain⟨X,hX⟩:∃ X,(decide (U.bK r<0))=X:=⟨_,rfl⟩
 rw[hX];rw[he] at HW;obtain⟨nm,kd,dn,nu,bd,lb,lm,hib,hm,mo,⟨st,sh,bk⟩,fs⟩:=f;rw[dN];simp only [Fd.kind] at HW hf;replace hX:(decide (U.bK r<0))=X:=hX;have HX:=zh hX;clear hX;subst hf;have m1:∀ w:World,(method 512 222 (.agg #[.int .u8 6,.string r]) "Bytes").run prog w=.ok (303,.agg #[.int .u8 6,.string r]) w:=fun _=>by kernel_rfl
 clear hv he;go_enter func29,ntmps29;go_wp2_with (go_at_call 49;refine(HW.out _).mono ?_;rintro e w1 ⟨rfl,hb1⟩;have HB:=zh ((zr.alloc lr _).trans (hb1.mono (by simp)));have nO:=zh (aC.below (aC.new w 79 #[.string nm,.int .u8 6,.bool dn,.int .u8 nu,.bool bd,.bool lb,.string lm,.bool hib,.string hm,.int .i64 mo,.int .i64 st,.bool sh,.bool bk,.slice a k c]) hb1 (by simp)));have c1:w1.cell? ⟨w.heap.size,1,none⟩=some (.int .u8 6):=nO.out.cell 1;have c9:w1.cell? ⟨w.heap.size,9,none⟩=some (.int .i64 mo):=nO.out.cell 9;go_quiet (fail);have HB2:=zh (show Below w.heap.size w (w1.drewN nq) from below_drewN HB.out nq);obtain⟨q,hq⟩:∃ q,U.bK r=q:=⟨_,rfl⟩
 have HU:=zh (fun w=>by have:=U.tV r (by omega) w;rw[hq] at this;exact this);have HXQ:=zh (show decide (q<0)=X by rw[← HX.out,hq]);clear hq;by_cases g2:0≤q
 · have e2:decide (0≤q)=true:=decide_eq_true g2;have HXF:=zh (show X=false by rw[← HXQ.out];exact decide_eq_false (by omega));clear g2;go_wp2_with (first | (go_at_call 303;refine(fA 6 r _).mono ?_;rintro e w5 ⟨rfl,hb5⟩;have lJ:=zh (HB2.out.trans (hb5.mono HB2.out.size))) | (go_at_call 51;refine(HU.out _).mono ?_;rintro e w6 ⟨rfl,hb6⟩;have HB6:=zh (lJ.out.trans (hb6.mono lJ.out.size))));go_ret;rw[HXF.out];exact aS.new rfl HB6.out (.inr ⟨_,_,rfl⟩)
 · have e2:decide (0≤q)=false:=decide_eq_false g2;have HXF:=zh (show X=true by rw[← HXQ.out];exact decide_eq_true (by omega));clear g2;go_wp2_with (first | (go_at_call 303;refine(fA 6 r _).mono ?_;rintro e w5 ⟨rfl,hb5⟩;have lJ:=zh (HB2.out.trans (hb5.mono HB2.out.size))) | (go_at_call 51;refine(HU.out _).mono ?_;rintro e w6 ⟨rfl,hb6⟩;have HB6:=zh (lJ.out.trans (hb6.mono lJ.out.size))));go_ret;rw[HXF.out];exact aS.ok HB6.out
