import Derived.Test.YtcgnajeenflfaaaGreatDoorP31
set_option maxRecDepth 100000
set_option maxHeartbeats 4000000
set_option linter.all false
open Go.Proofs.Tryz Go.RowKit
namespace Go.Proofs.YtcgnajeenflfaaaGreatDoor
namespace V
theorem aTw (p:Pt):∀ (v:Value) (w:World),aL p=true→aW p≤1000→VI w 0 w.heap.size p v →
 Calls prog 75 #[v] w fun e w'=>e=.returned (.int .i64 (aW p))∧Below w.heap.size w w':=by
 induction p using Pt.ind with
 | h p ih =>
 intro v w hmay hdp hv;have f1:=fU;have f2:=gY;have f3:=dV;have f4:=bS;have f5:=aGp;by_cases h7:p.kind=7
 · have hlen:=wY hmay h7;have hD:aW p=cZ p.items+1:=by rw[fO,if_pos h7]
   have hdl:cZ p.items≤999:=by omega
   have HD:=zh hD;obtain⟨a,cap,F,rfl,hcells,aAc⟩:∃ (a:Option Addr) (cap:Nat) (F:Nat→Value),v=.iface 118 (.agg #[.slice a p.items.length cap])∧(∀ j,j<p.items.length→∃ g,a=some ⟨g,0,none⟩∧0≤g∧g<w.heap.size∧w.cell? ⟨g,j,none⟩=some (F j))∧∀ j (h:j<p.items.length),VI w 0 w.heap.size p.items[j] (F j):=by
    cases hv with
    | null _ h=>omega
    | truth _ h=>omega
    | whole _ h=>omega
    | row _ _ _ _ h=>omega
    | tuple _ _ a cap F hc cells deep=>exact⟨a,cap,F,rfl,cells,deep⟩
   have m1:∀ w:World,(method 512 118 (.agg #[.slice a p.items.length cap]) "Len").run prog w=.ok (279,.agg #[.slice a p.items.length cap]) w:=fun _=>by kernel_rfl
   have m2:∀ w:World,(method 512 118 (.agg #[.slice a p.items.length cap]) "At").run prog w=.ok (277,.agg #[.slice a p.items.length cap]) w:=fun _=>by kernel_rfl
   have HC:=zh hcells;have HDp:=zh aAc;have IH:=zh ih;have HM:=zh hmay;clear hv hcells aAc ih hmay h7 hD hdp;go_enter func75,ntmps75;go_wp2_with fail;refine(fV _ _ _ _).mono ?_;rintro e w1 ⟨rfl,hb1⟩;go_wp2_with fail;go_loopw [5,16] (fun m i wr=>∃ k:Nat,k≤p.items.length∧i=.int .i64 k∧m=.int .i64 (cZ (p.items.take k))∧Below w.heap.size w wr) (fun _ i _=>p.items.length-(intOf i).toNat)
   case atStart=>exact⟨0,Nat.zero_le _,rfl,by rw[List.take_zero,uU];rfl,hb1⟩
   case round =>
    clear hb1;obtain⟨k,hkl,rfl,rfl,hB⟩:=hrel;have hdk:=aCi p.items k;by_cases hlt:k<p.items.length
    · have q3:decide (k<p.items.length)=true:=by simpa using hlt
      obtain⟨g0,rfl,_,hg0,hcell⟩:=HC.out k hlt;have HE:=zh (aKk hlt);have hmem:p.items[k]∈p.items:=List.getElem_mem _;have hdq:=qI hmem;have oW:=zh (HDp.out k hlt);obtain⟨q,hq⟩:∃ q,p.items[k]=q:=⟨_,rfl⟩
      rw[hq] at HE hmem hdq oW;have hmq:=zh (dW HM.out hmem);have hcell2:=zh (keep hB hg0 hcell);obtain⟨M,hM⟩:∃ M,cZ (p.items.take k)=M:=⟨_,rfl⟩
      rw[hM] at hdk HE ⊢;clear hM hq hcell;go_wp2_with fail;refine(oN g0 _ cap k (F k) _ (by omega) hlt hcell2.out).mono ?_;rintro e w2 ⟨rfl,hb2⟩;have hB2:=hB.trans (hb2.mono hB.size);go_wp2_with fail;refine(IH.out q hmem (F k) _ hmq.out (by omega) (oW.out.later hB2)).mono ?_;rintro e w3 ⟨rfl,hb3⟩;have hB3:=hB2.trans (hb3.mono hB2.size);clear hB hB2 hb2 hb3;go_wp2_with fail;refine⟨⟨k+1,by omega,rfl,?_,hB3⟩,by simp[intOf];omega⟩;rw[HE.out];exact congrArg (Value.int .i64) (by first | omega | (split<;>omega))
    · have q3:decide (k<p.items.length)=false:=by simpa using hlt
      have HT:=zh (show p.items.take k=p.items from List.take_of_length_le (by omega));go_wp2_with fail;go_ret;exact⟨by rw[HD.out,HT.out];rfl,hB⟩
 · have HD:=zh (show aW p=0 by rw[fO,if_neg h7]);clear hmay hdp ih;cases hv with
   | null _ h =>
    clear h h7;go_enter func75,ntmps75;go_wp2_with fail;go_ret;exact⟨by rw[HD.out];rfl,zr⟩
   | truth _ h =>
    clear h h7;go_enter func75,ntmps75;go_wp2_with fail;go_ret;exact⟨by rw[HD.out];rfl,zr⟩
   | whole _ h =>
    clear h h7;go_enter func75,ntmps75;go_wp2_with fail;go_ret;exact⟨by rw[HD.out];rfl,zr⟩
   | row _ h0 h1 h2 h =>
    clear h0 h1 h2 h h7;go_enter func75,ntmps75;go_wp2_with fail;go_ret;exact⟨by rw[HD.out];rfl,zr⟩
   | tuple _ h a cap F hc cells deep=>exact absurd h h7
theorem aFr (p:Pt) (v:Value) (w:World) (hmay:aL p=true) (hdp:aW p≤1000) (hv:VI w 0 w.heap.size p v) :
 Calls prog 43 #[v] w fun e w'=>e=.returned (.int .i64 (aW p))∧Below w.heap.size w w':=by
 have HM:=zh hmay;have HV:=zh hv;clear hmay hv;go_enter func43,ntmps43;go_wp2_with fail;refine(aTw p v _ HM.out hdp HV.out).mono ?_;rintro e w1 ⟨rfl,hb1⟩;go_wp2_with fail;go_ret;exact⟨rfl,hb1⟩
theorem mY (p:Pt):∀ (v:Value) (w:World),Fit p→PI w 0 w.heap.size p.items v →
 Calls prog 31 #[.agg #[.int .u8 p.kind,.bool p.yes,.bool p.neg,.string p.mag,.string p.raw,v]] w fun e w'=>(∃ n:Int,e=.returned (.int .i64 n))∧Below w.heap.size w w':=by
 induction p using Pt.ind with
 | h p ih =>
 intro v w hf hp;have hl:=hf.l;obtain⟨a,cap,rfl,hcap,hat⟩:=hp.open;have HA:=zh hat;have IH:=zh ih;obtain⟨m,hm⟩:∃ m,p.items.length=m:=⟨_,rfl⟩
 have HM:=zh hm;have HB0:=zh ((Below.refl w.heap.size w).alloc lr (.cells #[.int .u8 p.kind,.bool p.yes,.bool p.neg,.string p.mag,.string p.raw,.slice a m cap] 57));have HX0:=zh (aC.new w 57 #[.int .u8 p.kind,.bool p.yes,.bool p.neg,.string p.mag,.string p.raw,.slice a m cap]);rw[hm] at hl hcap ⊢;have qc:(m:Int)≤(cap:Int):=by omega
 clear hat ih hp hm hf hcap;go_enter func31,ntmps31;go_wp2_with fail;go_loopw [3,4] (fun nv iv wr=>∃ (k:Nat) (N:Int),k≤m∧iv=.int .i64 (k:Int)∧nv=.int .i64 N∧Hid (aC wr w.heap.size 57 #[.int .u8 p.kind,.bool p.yes,.bool p.neg,.string p.mag,.string p.raw,.slice a m cap])∧Hid (Below w.heap.size w wr)) (fun _ iv _=>m-(intOf iv).toNat)
 case atStart=>exact⟨0,_,Nat.zero_le _,rfl,rfl,HX0,HB0⟩
 case round =>
  obtain⟨k,N,hkl,rfl,rfl,HX,HB⟩:=hrel;have c5:wr.cell? ⟨w.heap.size,5,none⟩=some (.slice a m cap):=by simpa using HX.out.cell 5
  by_cases hgo:k<m∧N≤4194304
  · obtain⟨hlt,hN⟩:=hgo;have q3:decide ((k:Int)<(m:Int))=true:=decide_eq_true (by omega);have q4:decide (N≤4194304)=true:=decide_eq_true hN;have hlt2:k<p.items.length:=by rw[HM.out];exact hlt
    obtain⟨b,off,u,rfl,_,hb,hc,hfit,hpi⟩:=HA.out k hlt2;obtain⟨d0,d1,d2,d3,d4,d5⟩:=hc.same (Same.of_below HB.out lr) (Nat.zero_le _) hb;have hmem:=List.getElem_mem hlt2;obtain⟨q,hq⟩:∃ q,p.items[k]=q:=⟨_,rfl⟩
    rw[hq] at d0 d1 d2 d3 d4 hfit hpi hmem;obtain⟨a2,cap2,rfl,_,_⟩:=hpi.open;have HC:=zh (IH.out q hmem _ wr hfit (hpi.later HB.out));obtain⟨m2,hm2⟩:∃ m2,q.items.length=m2:=⟨_,rfl⟩
    rw[hm2] at HC d5;clear hc hq hpi hmem hm2 hfit;go_wp2_with fail;refine HC.out.mono ?_;rintro e w1 ⟨⟨n,rfl⟩,hb1⟩;have lW:=zh (aC.below HX.out hb1 HX.out.lt);have HB1:=zh (HB.out.trans (hb1.mono HB.out.size));clear hb1 d0 d1 d2 d3 d4 d5 c5;go_wp2_with fail;exact⟨⟨k+1,_,by omega,by simp,rfl,lW,HB1⟩,by simp[intOf];omega⟩
  · by_cases hlt:k<m
    · have q3:decide ((k:Int)<(m:Int))=true:=decide_eq_true (by omega);have q4:decide (N≤4194304)=false:=decide_eq_false (fun h=>hgo ⟨hlt,h⟩);clear hgo;go_wp2_with fail;go_ret;exact⟨⟨_,rfl⟩,HB.out⟩
    · have q3:decide ((k:Int)<(m:Int))=false:=decide_eq_false (by omega);clear hgo;go_wp2_with fail;go_ret;exact⟨⟨_,rfl⟩,HB.out⟩
def Left (w:World) (g:Nat):Prop:=∃ n:Int,aC w g 3 #[.int .i64 n]
theorem Left.keep {P:Nat→Prop} {w w':World} {g:Nat} (h:Left w g) (x:Xv P w w') (hg:¬ P g):Left w' g:=by
 obtain⟨n,h⟩:=h;exact⟨n,x.blk hg h⟩
theorem aTx (p:Pt):∀ (v:Value) (d g:Nat) (w:World),d≤41→Fit p→PI w 0 g p.items v→Left w g →
 Calls prog 53 #[.agg #[.int .u8 p.kind,.bool p.yes,.bool p.neg,.string p.mag,.string p.raw,v],.int .i64 (d:Int),.pointer (some ⟨g,0,none⟩)] w fun e w'=>(∃ n:Int,e=.returned (.int .i64 n))∧Left w' g∧Xv (· = g) w w':=by
 induction p using Pt.ind with
 | h p ih =>
 intro v d g w hd hf hp hL;have hl:=hf.l;obtain⟨a,cap,rfl,hcap,hat⟩:=hp.open;have HA:=zh hat;have IH:=zh ih;obtain⟨m,hm⟩:∃ m,p.items.length=m:=⟨_,rfl⟩
 have HM:=zh hm;obtain⟨n0,hn0⟩:=hL;have hgw:g<w.heap.size:=hn0.lt;obtain⟨W,hW⟩:∃ W,w.alloc (.cells #[.int .u8 p.kind,.bool p.yes,.bool p.neg,.string p.mag,.string p.raw,.slice a m cap] 57)=W:=⟨_,rfl⟩
 have hne:w.heap.size≠g:=by omega
 have hne2:g≠w.heap.size:=by omega
 have hX0:aC W w.heap.size 57 #[.int .u8 p.kind,.bool p.yes,.bool p.neg,.string p.mag,.string p.raw,.slice a m cap]:=by rw[← hW];exact aC.new w _ _
 have hL0:aC W g 3 #[.int .i64 n0]:=by rw[← hW];exact aC.below hn0 (zr.alloc lr _) hn0.lt
 have hV0:Xv (· = g) w W:=by rw[← hW];exact(Xv.refl _ w).alloc _
 have lW:=zh (show aC (W.setCell ⟨g,0,none⟩ (.int .i64 (wrap64 (n0-1)))) w.heap.size 57 #[.int .u8 p.kind,.bool p.yes,.bool p.neg,.string p.mag,.string p.raw,.slice a m cap] from(Below.heap_setCell _ _ _ _ hne).trans hX0);have HL1:=zh (show Left (W.setCell ⟨g,0,none⟩ (.int .i64 (wrap64 (n0-1)))) g from⟨_,by simpa using hL0.aU 0 (.int .i64 (wrap64 (n0-1)))⟩);have HV1:=zh (show Xv (· = g) w (W.setCell ⟨g,0,none⟩ (.int .i64 (wrap64 (n0-1)))) from hV0.aU (fun _=>rfl) 0 _);rw[hm] at hl hcap ⊢;have qc:(m:Int)≤(cap:Int):=by omega
 have l0:W.cell? ⟨g,0,none⟩=some (.int .i64 n0):=by simpa using hL0.cell 0
 have z0:W.frozen? ⟨g,0,none⟩=false:=hL0.frozen 0;have hgW:g<W.heap.size:=hL0.lt;have hk:=hf.k;have HG:=zh (show g≤w.heap.size by omega);clear hat ih hp hm hf hcap hn0 hX0 hL0 hV0;by_cases hgo:d≤40∧¬ wrap64 (n0-1)<0
 · have q1:decide ((40:Int)<(d:Int))=false:=decide_eq_false (by omega);have q2:decide (wrap64 (n0-1)<0)=false:=decide_eq_false hgo.2;have hd2:=hgo.1;clear hgo;go_enter func53,ntmps53;go_wp2_with fail;clear l0 z0 hgW hW q1 q2;go_loopw [7,8] (fun nv iv wr=>∃ (k:Nat) (N:Int),k≤m∧iv=.int .i64 (k:Int)∧nv=.int .i64 N∧Hid (aC wr w.heap.size 57 #[.int .u8 p.kind,.bool p.yes,.bool p.neg,.string p.mag,.string p.raw,.slice a m cap])∧Hid (Left wr g)∧Hid (Xv (· = g) w wr)) (fun _ iv _=>m-(intOf iv).toNat)
   case atStart=>exact⟨0,_,Nat.zero_le _,rfl,rfl,lW,HL1,HV1⟩
   case round =>
    obtain⟨k,N,hkl,rfl,rfl,HX,HL,HV⟩:=hrel;have c5:wr.cell? ⟨w.heap.size,5,none⟩=some (.slice a m cap):=by simpa using HX.out.cell 5
    have c0:wr.cell? ⟨w.heap.size,0,none⟩=some (.int .u8 p.kind):=by simpa using HX.out.cell 0
    by_cases hlt:k<m
    · have q3:decide ((k:Int)<(m:Int))=true:=decide_eq_true (by omega);have hlt2:k<p.items.length:=by rw[HM.out];exact hlt
      have hsm:Same 0 g w wr:=HV.out.same (fun i _ h e=>by omega) HG.out;obtain⟨b,off,u,rfl,_,hb,hc,hfit,hpi⟩:=HA.out k hlt2;obtain⟨d0,d1,d2,d3,d4,d5⟩:=hc.same hsm (Nat.zero_le _) hb;have hmem:=List.getElem_mem hlt2;obtain⟨q,hq⟩:∃ q,p.items[k]=q:=⟨_,rfl⟩
      rw[hq] at d0 d1 d2 d3 d4 hfit hpi hmem;obtain⟨a2,cap2,rfl,_,_⟩:=hpi.open;have HC:=zh (IH.out q hmem _ (d+1) g wr (by omega) hfit (hpi.same hsm) HL.out);obtain⟨m2,hm2⟩:∃ m2,q.items.length=m2:=⟨_,rfl⟩
      rw[hm2] at HC d5;rw[show ((d+1:Nat):Int)=(d:Int)+1 by omega] at HC;clear hc hq hpi hmem hm2 hfit hsm;go_wp2_with fail;refine HC.out.mono ?_;rintro e w1 ⟨⟨n,rfl⟩,hL,hx⟩;have lW:=zh (hx.blk hne HX.out);have HV1:=zh (HV.out.trans hx (fun _ _ h=>h));have HL1:=zh hL;obtain⟨l1,hl1⟩:=hL;have e1:w1.cell? ⟨g,0,none⟩=some (.int .i64 l1):=by simpa using hl1.cell 0
      clear hx hl1 d0 d1 d2 d3 d4 d5 c5 c0;by_cases hnN:N<n
      · have q4:decide (N<n)=true:=decide_eq_true hnN;by_cases hl0:l1<0
        · have q5:decide (l1<0)=true:=decide_eq_true hl0;go_wp2_with fail;go_ret;exact⟨⟨_,rfl⟩,HL1.out,HV1.out⟩
        · have q5:decide (l1<0)=false:=decide_eq_false hl0;go_wp2_with fail;exact⟨⟨k+1,_,by omega,by simp,rfl,lW,HL1,HV1⟩,by simp[intOf];omega⟩
      · have q4:decide (N<n)=false:=decide_eq_false hnN;by_cases hl0:l1<0
        · have q5:decide (l1<0)=true:=decide_eq_true hl0;go_wp2_with fail;go_ret;exact⟨⟨_,rfl⟩,HL1.out,HV1.out⟩
        · have q5:decide (l1<0)=false:=decide_eq_false hl0;go_wp2_with fail;exact⟨⟨k+1,_,by omega,by simp,rfl,lW,HL1,HV1⟩,by simp[intOf];omega⟩
    · have q3:decide ((k:Int)<(m:Int))=false:=decide_eq_false (by omega);by_cases h7:p.kind=7
      · have q4:((p.kind:Int)==7)=true:=by rw[h7];rfl
        clear h7;go_wp2_with fail;go_ret;exact⟨⟨_,rfl⟩,HL.out,HV.out⟩
      · have q4:((p.kind:Int)==7)=false:=beq_eq_false_iff_ne.2 (by omega);clear h7;by_cases hm0:0<m
        · have q5:decide ((0:Int)<(m:Int))=true:=decide_eq_true (by omega);go_wp2_with fail;go_ret;exact⟨⟨_,rfl⟩,HL.out,HV.out⟩
        · have q5:decide ((0:Int)<(m:Int))=false:=decide_eq_false (by omega);go_wp2_with fail;go_ret;exact⟨⟨_,rfl⟩,HL.out,HV.out⟩
 · by_cases bRp:d≤40
   · have q1:decide ((40:Int)<(d:Int))=false:=decide_eq_false (by omega);have q2:decide (wrap64 (n0-1)<0)=true:=decide_eq_true (Classical.byContradiction fun h=>hgo ⟨bRp,h⟩);clear hgo;go_enter func53,ntmps53;go_wp2_with fail;go_ret;exact⟨⟨_,rfl⟩,HL1.out,HV1.out⟩
   · have q1:decide ((40:Int)<(d:Int))=true:=decide_eq_true (by omega);clear hgo;go_enter func53,ntmps53;go_wp2_with fail;go_ret;exact⟨⟨_,rfl⟩,HL1.out,HV1.out⟩
theorem aTy (p:Pt) (v:Value) (w:World) (hf:Fit p) (hp:PI w 0 w.heap.size p.items v) :
 Calls prog 30 #[.agg #[.int .u8 p.kind,.bool p.yes,.bool p.neg,.string p.mag,.string p.raw,v],.int .i64 0] w fun e w'=>(∃ n:Int,e=.returned (.int .i64 n))∧Below w.heap.size w w':=by
 obtain⟨a,cap,rfl,_,_⟩:=hp.open;obtain⟨W,hW⟩:∃ W,w.alloc (.cells #[.int .u8 p.kind,.bool p.yes,.bool p.neg,.string p.mag,.string p.raw,.slice a p.items.length cap] 57)=W:=⟨_,rfl⟩
 have hB0:Below w.heap.size w W:=by rw[← hW];exact zr.alloc lr _
 have h1:Below W.heap.size W (W.alloc (.cells #[.int .i64 16777216] 3)):=(Below.refl _ W).alloc lr _;have HC:=zh (aTx p (.slice a p.items.length cap) 0 W.heap.size (W.alloc (.cells #[.int .i64 16777216] 3)) (by omega) hf
  ((hp.later hB0).same (Same.of_below h1 lr)) ⟨16777216,aC.new W 3 _⟩)
 have HB1:=zh (hB0.trans (h1.mono hB0.size));have HL:=zh hB0.size;have HBZ:=zh h1.size;obtain⟨m,hm⟩:∃ m,p.items.length=m:=⟨_,rfl⟩
 rw[hm] at HC hW ⊢;rw[show ((0:Nat):Int)=0 from rfl] at HC;have c0:W.cell? ⟨w.heap.size,0,none⟩=some (.int .u8 p.kind):=by rw[← hW];simp
 have c1:W.cell? ⟨w.heap.size,1,none⟩=some (.bool p.yes):=by rw[← hW];simp
 have c2:W.cell? ⟨w.heap.size,2,none⟩=some (.bool p.neg):=by rw[← hW];simp
 have c3:W.cell? ⟨w.heap.size,3,none⟩=some (.string p.mag):=by rw[← hW];simp
 have c4:W.cell? ⟨w.heap.size,4,none⟩=some (.string p.raw):=by rw[← hW];simp
 have c5:W.cell? ⟨w.heap.size,5,none⟩=some (.slice a m cap):=by rw[← hW];simp
 have hlt:w.heap.size<W.heap.size:=World.block_lt_of_cell? W _ c0;have hne:w.heap.size≠W.heap.size:=by omega
 have hne2:W.heap.size≠w.heap.size:=by omega
 clear hp hf hm hB0 h1;go_enter func30,ntmps30;go_wp2_with fail;refine HC.out.mono ?_;rintro e w1 ⟨⟨n,rfl⟩,_,hx⟩;have HB:=zh (HB1.out.trans (hx.below (B:=w.heap.size) (fun k hk e=>by have:=HL.out;omega) (Nat.le_trans HL.out HBZ.out)));clear hx;go_wp2_with fail;go_ret;exact⟨⟨_,rfl⟩,HB.out⟩
def bLa (e:Ending):Prop:=∃ x:Bool,e=.returned (.bool x)
theorem aKy (l:List Pt) (v:Value) (w:World) (hl:l.length≤140737488351232) (hp:PI w 0 w.heap.size l v) :
 Calls prog 11 #[v] w fun e w'=>bLa e∧Below w.heap.size w w':=by
 obtain⟨a,cap,rfl,hcap,hat⟩:=hp.open;have HA:=zh hat;obtain⟨m,hm⟩:∃ m,l.length=m:=⟨_,rfl⟩
 have HM:=zh hm;rw[hm] at hl hcap ⊢;have qc:(m:Int)≤(cap:Int):=by omega
 clear hat hp hm hcap;go_enter func11,ntmps11;go_wp2_with fail;go_loopw [3,4] (fun nv iv wr=>∃ (k:Nat) (N:Int),k≤m∧iv=.int .i64 (k:Int)∧nv=.int .i64 N∧Hid (Below w.heap.size w wr)) (fun _ iv _=>m-(intOf iv).toNat)
 case atStart=>exact⟨0,_,Nat.zero_le _,rfl,rfl,zh zr⟩
 case round =>
  obtain⟨k,N,hkl,rfl,rfl,HB⟩:=hrel;by_cases hgo:k<m∧N≤4194304
  · obtain⟨hlt,hN⟩:=hgo;have q3:decide ((k:Int)<(m:Int))=true:=decide_eq_true (by omega);have q4:decide (N≤4194304)=true:=decide_eq_true hN;have hlt2:k<l.length:=by rw[HM.out];exact hlt
    obtain⟨b,off,u,rfl,_,hb,hc,hfit,hpi⟩:=HA.out k hlt2;obtain⟨d0,d1,d2,d3,d4,d5⟩:=hc.same (Same.of_below HB.out lr) (Nat.zero_le _) hb;obtain⟨q,hq⟩:∃ q,l[k]=q:=⟨_,rfl⟩
    rw[hq] at d0 d1 d2 d3 d4 hfit hpi;obtain⟨a2,cap2,rfl,_,_⟩:=hpi.open;have HC:=zh (aTy q _ wr hfit (hpi.later HB.out));have HW:=zh (fun w1 (h:Below wr.heap.size wr w1)=>mY q _ w1 hfit ((hpi.later HB.out).later h));have hbr:b<wr.heap.size:=World.block_lt_of_cell? wr _ d0;obtain⟨m2,hm2⟩:∃ m2,q.items.length=m2:=⟨_,rfl⟩
    rw[hm2] at HC HW d5;clear hc hq hpi hm2 hfit hb;go_wp2_with fail;refine HC.out.mono ?_;rintro e w1 ⟨⟨n,rfl⟩,hb1⟩;have HB1:=zh (HB.out.trans (hb1.mono HB.out.size));by_cases hn:40<n
    · have q5:decide (40<n)=true:=decide_eq_true hn;clear hb1 d0 d1 d2 d3 d4 d5;go_wp2_with fail;go_ret;exact⟨⟨_,rfl⟩,HB1.out⟩
    · have q5:decide (40<n)=false:=decide_eq_false hn;replace d0:=V.keeps hb1 d0;replace d1:=V.keeps hb1 d1;replace d2:=V.keeps hb1 d2;replace d3:=V.keeps hb1 d3;replace d4:=V.keeps hb1 d4;replace d5:=V.keeps hb1 d5;have HW1:=zh (HW.out w1 hb1);clear hb1 HW;go_wp2_with fail;refine HW1.out.mono ?_;rintro e w2 ⟨⟨n2,rfl⟩,hb2⟩;have HB2:=zh (HB1.out.trans (hb2.mono HB1.out.size));clear hb2 d0 d1 d2 d3 d4 d5;go_wp2_with fail;exact⟨⟨k+1,_,by omega,by simp,rfl,HB2⟩,by simp[intOf];omega⟩
  · by_cases hlt:k<m
    · have q3:decide ((k:Int)<(m:Int))=true:=decide_eq_true (by omega);have q4:decide (N≤4194304)=false:=decide_eq_false (fun h=>hgo ⟨hlt,h⟩);have q5:decide (4194304<N)=true:=decide_eq_true (Int.not_le.1 (fun h=>hgo ⟨hlt,h⟩));clear hgo;go_wp2_with fail;go_ret;exact⟨⟨_,rfl⟩,HB.out⟩
    · have q3:decide ((k:Int)<(m:Int))=false:=decide_eq_false (by omega);clear hgo;by_cases hN:4194304<N
      · have q5:decide (4194304<N)=true:=decide_eq_true hN;go_wp2_with fail;go_ret;exact⟨⟨_,rfl⟩,HB.out⟩
      · have q5:decide (4194304<N)=false:=decide_eq_false hN;by_cases hm:64<m
        · have q6:decide ((64:Int)<(m:Int))=true:=decide_eq_true (by omega);go_wp2_with fail;go_ret;exact⟨⟨_,rfl⟩,HB.out⟩
        · have q6:decide ((64:Int)<(m:Int))=false:=decide_eq_false (by omega);go_wp2_with fail;go_ret;exact⟨⟨_,rfl⟩,HB.out⟩
end V
namespace Sc
theorem aAd (p q r s:Addr) (w:World) :
 CallsD prog 58 #[.pointer (some p),.pointer (some q),.pointer (some r),.pointer (some s)] .returning w fun e u' w'=>e=.returned (.tuple #[])∧u'=.returning∧w'=w:=by
 refine callsD_of_wpS func58 rfl fun c₀ cs hu=>?_
 apply wpS_seq;apply wpS_region;simp[wpOpsS,go_sem,recoverD,hu,ntmps58,Exit.thenS];rw[show Array.replicate 17 undef=#[undef,undef,undef,undef,undef,undef,undef,undef,undef,undef,undef,undef,undef,undef,undef,undef,undef] from rfl];simp;refine wpS_of_wp (Code.wp_mono (fun e a' w' (h:Ends (fun w'=>w'=w) e a' w')=>?_) ?_)
 · obtain⟨rfl,hd,rfl⟩:=h;simp[bodyPostS,results,Tryz.results58,hd];cases c₀;simp_all
 have hneq:∀ w:World,(binOp BinOp.neq 20 .nilIface .nilIface).run prog w=.ok (.bool false) w:=fun _=>by kernel_rfl
 go_wp2_with fail;exact⟨rfl,rfl,rfl⟩
theorem aCr (g g0 g1 g2:Nat) (c n:Int) (v er ln:Value) (w:World) (hg:aC w g 3 #[.int .i64 n]) (h0:aC w g0 100 #[v]) (h1:aC w g1 41 #[er]) (h2:aC w g2 3 #[ln]) (h01:g0<g1) (h12:g1<g2) (h2g:g2<g) :
 CallsD prog 58 #[.pointer (some ⟨g,0,none⟩),.pointer (some ⟨g0,0,none⟩),.pointer (some ⟨g1,0,none⟩),.pointer (some ⟨g2,0,none⟩)] (.panicking [{ v:=.iface 153 (.agg #[.int .i64 c]),recovered:=false }]) w fun e u' w' =>
  e=.returned (.tuple #[])∧u'=.panicking [{ v:=.iface 153 (.agg #[.int .i64 c]),recovered:=true }] ∧
   (aC w' g0 100 #[.pointer none]∧aC w' g1 41 #[.int .i64 c]∧aC w' g2 3 #[.int .i64 n])∧Xv (fun k=>k=g0∨k=g1∨k=g2) w w':=by
 have cg:=hg.cell 0;have c0:=h0.cell 0;have c1:=h1.cell 0;have c2:=h2.cell 0;have z0:=h0.frozen 0;have z1:=h1.frozen 0;have z2:=h2.frozen 0;have H:=zh (And.intro h0 (And.intro h1 h2));have hgg:=hg.lt;have hg0:=h0.lt;have hg1:=h1.lt;have hg2:=h2.lt;have n01:g0≠g1:=by omega
 have n02:g0≠g2:=by omega
 have n12:g1≠g2:=by omega
 have m01:g1≠g0:=by omega
 have m02:g2≠g0:=by omega
 have m12:g2≠g1:=by omega
 clear h0 h1 h2 hg;simp at c0 c1 c2 cg;refine callsD_of_wpS func58 rfl fun c₀ cs hu=>?_
 apply wpS_seq;apply wpS_region;simp[wpOpsS,go_sem,recoverD,hu,ntmps58,Exit.thenS];rw[show Array.replicate 17 undef=#[undef,undef,undef,undef,undef,undef,undef,undef,undef,undef,undef,undef,undef,undef,undef,undef,undef] from rfl];simp;refine wpS_of_wp (Code.wp_mono (fun e a' w' (h:Ends (fun w'=>(aC w' g0 100 #[.pointer none]∧aC w' g1 41 #[.int .i64 c]∧aC w' g2 3 #[.int .i64 n])∧Xv (fun k=>k=g0∨k=g1∨k=g2) w w') e a' w')=>?_) ?_)
 · obtain⟨rfl,hd,h⟩:=h;simp[bodyPostS,results,Tryz.results58,hd,h]
 have hneq:∀ w:World,(binOp BinOp.neq 20 (.iface 153 (.agg #[.int .i64 c])) .nilIface).run prog w=.ok (.bool true) w:=fun _=>by kernel_rfl
 have hta:∀ (v:Value) (w:World),(Instr.typeAssert (.iface 153 v) 20 153 true).run prog w=.ok (.tuple #[v,.bool true]) w:=fun _ _=>by kernel_rfl
 have hnot:∀ (x:Bool) (w:World),(Op.unary .not (.bool x)).run prog w=.ok (.bool (!x)) w:=fun _ _=>rfl
 go_wp2_with fail;go_region;go_wp2_with fail;obtain⟨h0,h1,h2⟩:=H.out;have e0:aC (((w.setCell ⟨g0,0,none⟩ (.pointer none)).setCell ⟨g1,0,none⟩ (.int .i64 c)).setCell ⟨g2,0,none⟩ (.int .i64 n)) g0 100 #[.pointer none]:=by
  have:=bC (bC (h0.aU 0 (.pointer none)) n01 0 (.int .i64 c)) n02 0 (.int .i64 n);simpa using this
 have e1:aC (((w.setCell ⟨g0,0,none⟩ (.pointer none)).setCell ⟨g1,0,none⟩ (.int .i64 c)).setCell ⟨g2,0,none⟩ (.int .i64 n)) g1 41 #[.int .i64 c]:=by
  have:=bC ((bC h1 m01 0 (.pointer none)).aU 0 (.int .i64 c)) n12 0 (.int .i64 n);simpa using this
 have e2:aC (((w.setCell ⟨g0,0,none⟩ (.pointer none)).setCell ⟨g1,0,none⟩ (.int .i64 c)).setCell ⟨g2,0,none⟩ (.int .i64 n)) g2 3 #[.int .i64 n]:=by
  have:=(bC (bC h2 m02 0 (.pointer none)) m12 0 (.int .i64 c)).aU 0 (.int .i64 n);simpa using this
 have al:∀ {b:Nat} {t:TypeId} {cs:Array Value} {W:World} (o:Obj),aC W b t cs→aC (W.alloc o).drew b t cs:=fun o h=>aC.below h (zr.alloc lr o).drew h.lt
 exact⟨rfl,rfl,⟨al _ e0,al _ e1,al _ e2⟩,(((((Xv.refl (fun k=>k=g0∨k=g1∨k=g2) w).aU (b:=g0) (fun _=>Or.inl rfl) 0 (.pointer none)).aU (b:=g1) (fun _=>Or.inr (Or.inl rfl)) 0 (.int .i64 c)).aU (b:=g2) (fun _=>Or.inr (Or.inr rfl)) 0 (.int .i64 n)).alloc _).drew⟩
end Sc
section
def bZ (s:ByteArray) (a:Nat) (w:World) (e:Ending) (w':World):Prop :=
 match jZ s.toList a with
 | .error p=>e=.returned (.tuple #[.agg #[.bool false,.string ⟨#[]⟩],.int .i64 p,.int .i64 20])∧Below w.heap.size w w'
 | .ok (below,m,f)=>∃ q:ByteArray,e=.returned (.tuple #[.agg #[.bool below,.string q],.int .i64 f,.int .i64 0])∧Hid (q.toList=m)∧Below w.heap.size w w'
theorem aEc {s:ByteArray} {a:Nat} {w w':World} {p:Nat} {x:Int} (h:jZ s.toList a=.error p) (hx:x=p) (hb:Below w.heap.size w w') :
 bZ s a w (.returned (.tuple #[.agg #[.bool false,.string ⟨#[]⟩],.int .i64 x,.int .i64 20])) w':=by
 unfold bZ;rw[h,hx];exact⟨rfl,hb⟩
structure Res (g:Nat) (w:World):Prop where
 c0:w.cell? ⟨g,0,none⟩=some (.bool false)
 c1:w.cell? ⟨g,1,none⟩=some (.string ⟨#[]⟩)
 c2:w.cell? ⟨g+1,0,none⟩=some (.int .i64 0)
 c3:w.cell? ⟨g+2,0,none⟩=some (.int .i64 0)
 z0:w.frozen? ⟨g,0,none⟩=false
 z1:w.frozen? ⟨g,1,none⟩=false
 z2:w.frozen? ⟨g+1,0,none⟩=false
 z3:w.frozen? ⟨g+2,0,none⟩=false
theorem Res.below {g:Nat} {w w':World} (h:Res g w) (hb:Below (g+3) w w'):Res g w' where
 c0:=(hb.cell (p:=⟨g,0,none⟩) (by simp)).trans h.c0
 c1:=(hb.cell (p:=⟨g,1,none⟩) (by simp)).trans h.c1
 c2:=(hb.cell (p:=⟨g+1,0,none⟩) (by simp)).trans h.c2
 c3:=(hb.cell (p:=⟨g+2,0,none⟩) (by simp)).trans h.c3
 z0:=(hb.frozen (p:=⟨g,0,none⟩) (by simp)).trans h.z0
 z1:=(hb.frozen (p:=⟨g,1,none⟩) (by simp)).trans h.z1
 z2:=(hb.frozen (p:=⟨g+1,0,none⟩) (by simp)).trans h.z2
 z3:=(hb.frozen (p:=⟨g+2,0,none⟩) (by simp)).trans h.z3
theorem aTz (g:Nat) (x:Int) (w:World) (h:Res g w) :
 CallsD prog 168 #[.pointer (some ⟨g,0,none⟩),.pointer (some ⟨g+1,0,none⟩),.pointer (some ⟨g+2,0,none⟩)] (.panicking [{ v:=.iface 290 (.agg #[.int .i64 x]),recovered:=false }]) w fun e u' w' =>
  e=.returned (.tuple #[])∧u'=.panicking [{ v:=.iface 290 (.agg #[.int .i64 x]),recovered:=true }] ∧
   w'.cell? ⟨g,0,none⟩=some (.bool false)∧w'.cell? ⟨g,1,none⟩=some (.string ⟨#[]⟩)∧w'.cell? ⟨g+1,0,none⟩=some (.int .i64 x)∧w'.cell? ⟨g+2,0,none⟩=some (.int .i64 20)∧Below g w w' :=
 aSa g x false ⟨#[]⟩ 0 0 w h.c0 h.c1 h.c2 h.c3 h.z0 h.z1 h.z2 h.z3
theorem fG {P:Program} {ops:Array Oper} {rest:List Oper} {o:Oper} {a:Act} {Q:Exit→Act→World→Prop} {w:World} (hgd:o.guard=none) (s x:Operand) (t:TypeId)
 (ho:o.op=.call { callee:=.builtin .append,args:=#[s,x],argTypes:=#[t,t] })
 (ht:P.underlying t=some (.slice 5)) (hinfo:(P.info? 5).map (fun i=>(i.zero,i.size,i.bytes))=some (some (.int .u8 0),1,1))
 {base:Nat} {v:Value} {l:List UInt8} (hs:a.eval s=v) (hown:cO w base v l)
 (ad:Addr) (m:List UInt8) (k c:Nat) (hk:m.length=k) (hx:a.eval x=.slice (some ad) k c) (hnews:∀ j u,(bv m)[j]?=some u→w.cell? (ad.add j)=some u)
 (hlen:l.length+k≤140737488355328) (hbase:base≤w.heap.size)
 (h:∀ v' w',cO w' base v' (l++m)→w.grownBy w' v.ownBlock→wpList P ops Q rest (a.put o.dst v') w'):wpList P ops Q (o::rest) a w:=by
 subst hk;obtain⟨i0,hi,hz0,hz1,hz2⟩:=info_parts hinfo;refine wpList_append_own w hgd s x t ho base 5 i0 (.int .u8 0) 1 1 ht hi hz0 hz1 hz2 rfl (by decide) v l.length (bv l) hs hown ad m.length c (bv m) hx (by simp[aEl]) hnews (aWi m) (by unfold maxLen;omega) (by omega) hbase ?_;intro v' w' ho' hg _;refine h v' w' ?_ hg;unfold cO;rw[xP] at ho';simpa using ho'
theorem Rd.alloc {w:World} {b:Nat} {s:ByteArray} {a:Nat} (h:Rd w b s a) (o:Obj):Rd (w.alloc o) b s a:=(Below.heap_alloc w o b (aC.lt h)).trans h
theorem Rd.grown {w w':World} {b:Nat} {s:ByteArray} {a:Nat} {base:Nat} {v:Value} {l:List UInt8} (h:Rd w b s a) (hO:cO w base v l) (hb:b<base) (hg:w.grownBy w' v.ownBlock):Rd w' b s a :=
 (hg.block b (aC.lt h) (fun e=>by have:=(World.ownsRow.lt hO b e.symm).1;omega)).trans h
theorem aOm {l:List UInt8} {a p:Nat} (h:dL l a=.error p):jZ l a=.error p:=by simp[jZ,h]
theorem zC {l:List UInt8} {a k f p:Nat} {below:Bool} (h:dL l a=.ok (k,below,f)) (h2:xR l below f k=.error p):jZ l a=.error p:=by simp[jZ,h,h2]
theorem aZd {l m:List UInt8} {a k f:Nat} {below:Bool} (h:dL l a=.ok (k,below,f)) (h2:xR l below f k=.ok m):jZ l a=.ok (below,m,f+k):=by simp[jZ,h,h2]
theorem aKz (s:ByteArray) (a:Nat) (w:World) (tmps:Array Value) (x:Int) (below:Bool) (q:ByteArray) {w1:World} {m:List UInt8} {f:Nat} (h4:tmps.getD 4 undef=.pointer (some ⟨w.heap.size,0,none⟩)) (h5:tmps.getD 5 undef=.pointer (some ⟨w.heap.size+1,0,none⟩))
 (h6:tmps.getD 6 undef=.pointer (some ⟨w.heap.size+2,0,none⟩)) (d0:w1.cell? ⟨w.heap.size,0,none⟩=some (.bool below)) (d1:w1.cell? ⟨w.heap.size,1,none⟩=some (.string q)) (d2:w1.cell? ⟨w.heap.size+1,0,none⟩=some (.int .i64 x)) (d3:w1.cell? ⟨w.heap.size+2,0,none⟩=some (.int .i64 0))
 (hE:jZ s.toList a=.ok (below,m,f)) (hq:q.data.toList=m) (hx:x=f) (hb:Below w.heap.size w w1) :
 Leaves prog Tryz.f124 tmps (bZ s a w) [{ target:=.fn (.func 168) #[.pointer (some ⟨w.heap.size,0,none⟩),.pointer (some ⟨w.heap.size+1,0,none⟩),.pointer (some ⟨w.heap.size+2,0,none⟩)],args:=#[] }] .returning w1:=by
 refine leaves_cons (f:=168) (args:=#[.pointer (some ⟨w.heap.size,0,none⟩),.pointer (some ⟨w.heap.size+1,0,none⟩),.pointer (some ⟨w.heap.size+2,0,none⟩)]) (by simp) (by simp[go_sem]) ?_;refine(aMj _ _ _ w1).mono ?_;rintro e u' w2 ⟨rfl,rfl,rfl⟩;refine⟨.tuple #[.agg #[.bool below,.string q],.int .i64 x,.int .i64 0],?_,?_⟩
 · simp only [Array.getD_eq_getD_getElem?] at h4 h5 h6;simp[results,Tryz.results124,go_sem,h4,h5,h6,d0,d1,d2,d3]
 · unfold bZ;rw[hE,hx];exact⟨q,rfl,zh (by rw[Lib.toList_data];exact hq),hb⟩
theorem tY {W w2 w3:World} {o:Obj} {v:Value} {l:List UInt8} {B:Nat} (hB:Below B W w2) (hs:B+1≤w2.heap.size) (hO:cO w2 (B+1) v l) (hg:(w2.alloc o).grownBy w3 v.ownBlock):Below B W w3 :=
 (hB.alloc (by omega) o).grown hg (by simp;omega) (fun q hq=>by have:=(World.ownsRow.lt hO q hq).1;omega)
theorem qM (s:ByteArray) (a:Nat) (w:World) (tmps:Array Value) (x:Int) {W w1:World} {p:Nat} (h4:tmps.getD 4 undef=.pointer (some ⟨w.heap.size,0,none⟩)) (h5:tmps.getD 5 undef=.pointer (some ⟨w.heap.size+1,0,none⟩))
 (h6:tmps.getD 6 undef=.pointer (some ⟨w.heap.size+2,0,none⟩)) (aOn:Res w.heap.size W) (hb1:Below (w.heap.size+3) W w1) (hBel:Below w.heap.size w W) (hE:jZ s.toList a=.error p) (hx:x=p) :
 Leaves prog Tryz.f124 tmps (bZ s a w) [{ target:=.fn (.func 168) #[.pointer (some ⟨w.heap.size,0,none⟩),.pointer (some ⟨w.heap.size+1,0,none⟩),.pointer (some ⟨w.heap.size+2,0,none⟩)],args:=#[] }] (.panicking [{ v:=.iface 290 (.agg #[.int .i64 x]),recovered:=false }]) w1:=by
 refine leaves_cons (f:=168) (args:=#[.pointer (some ⟨w.heap.size,0,none⟩),.pointer (some ⟨w.heap.size+1,0,none⟩),.pointer (some ⟨w.heap.size+2,0,none⟩)]) (by simp) (by simp[go_sem]) ?_;refine(aTz w.heap.size x w1 (aOn.below hb1)).mono ?_;rintro e u' w2 ⟨rfl,rfl,d0,d1,d2,d3,hb2⟩;refine⟨.tuple #[.agg #[.bool false,.string ⟨#[]⟩],.int .i64 x,.int .i64 20],?_,aEc hE hx ((hBel.trans (hb1.mono (by omega))).trans hb2)⟩;simp only [Array.getD_eq_getD_getElem?] at h4 h5 h6;simp[results,Tryz.results124,go_sem,h4,h5,h6,d0,d1,d2,d3]
theorem take_at (s:ByteArray) (a:Nat) (w:World) (hs:s.size≤9223372036854775807) (ha:a≤s.size) :
 Calls prog 124 #[.string s,.int .i64 a] w (bZ s a w):=by
 have q:decide ((a:Int)<(0:Int))=false:=by simp
 have q2:decide ((s.size:Int)<(a:Int))=false:=by simp;omega
 have hmf:∀ (fn:Fn) (first cap:Array Value) (w:World),(Instr.makeFunc fn first cap).run prog w=.ok (.func fn first cap) w:=fun _ _ _ _=>rfl
 obtain⟨W,hW⟩:∃ W:World,W=((((w.alloc (.cells #[.bool false,.string ⟨#[]⟩] 54)).alloc (.cells #[.int .i64 0] 3)).alloc (.cells #[.int .i64 0] 41)).alloc (.cells #[.string s,.int .i64 a] 294)):=⟨_,rfl⟩
 have aOn:Res w.heap.size W:=by
  subst hW;exact⟨by simp[go_sem],by simp[go_sem],by simp[go_sem],by simp[go_sem],by simp[go_sem],by simp[go_sem],by simp[go_sem],by simp[go_sem]⟩
 have hRd:Rd W (w.heap.size+1+1+1) s a:=by
  subst hW;have:=aC.new (((w.alloc (.cells #[.bool false,.string ⟨#[]⟩] 54)).alloc (.cells #[.int .i64 0] 3)).alloc (.cells #[.int .i64 0] 41)) 294 #[.string s,.int .i64 a];simpa[Rd] using this
 have hBel:Below w.heap.size w W:=by
  subst hW;exact(((zr.alloc lr _).alloc (by simp) _).alloc (by simp;omega) _).alloc (by simp;omega) _
 have hWs:W.heap.size=w.heap.size+4:=by subst hW;simp
 go_enter_defers func124,ntmps124
 go_wp2_with fail;rw[← hW];clear hW;refine(aZe _ s a W hRd ha hs).mono ?_;rintro e w1 hp;unfold kT at hp;generalize hE:dL s.toList a=E at hp;cases E with
 | error p =>
  obtain⟨rfl,hm⟩:=hp;have hb1:Below (w.heap.size+3) W w1:=hm.below lr;exact qM _ _ _ _ _ rfl rfl rfl aOn hb1 hBel (aOm hE) rfl
 | ok r =>
  obtain⟨k,below,f⟩:=r;obtain⟨rfl,hrd,hm⟩:=hp;obtain⟨hk,hf,hfl⟩:=aIr hE;rw[aD] at hfl;have HE:=zh hE;have hb1:Below (w.heap.size+3) W w1:=hm.below lr;have hs1:w.heap.size+4≤w1.heap.size:=hWs▸hm.size;clear hE hm;go_wp2_with fail;go_loopw [10,11,12,33] (fun v _ _ i wr=>∃ j:Nat,j≤k∧f+j≤s.size∧i=.int .i64 j∧cO wr (w.heap.size+4) v (jC s.toList below f j)∧Rd wr (w.heap.size+1+1+1) s (f+j)∧Below (w.heap.size+3) W wr∧w.heap.size+4≤wr.heap.size ∧
   RowKit.Hid (j=0∨OnE s.toList below f k)) (fun _ _ _ i _=>k-(intOf i).toNat)
  case atStart=>exact⟨0,Nat.zero_le _,by omega,rfl,by rw[uV];exact cO.nil _ _,hrd,hb1,hs1,zh (.inl rfl)⟩
  case round =>
   clear hrd hb1 hs1;obtain⟨j,hjk,hfj,rfl,hO,hrd,hB,hsz,HON⟩:=hrel;have hrl:(jC s.toList below f j).length=j:=wF _ _ _ _ (by rw[aD];exact hfj);by_cases hlt:j<k
   · by_cases hin:f+j<s.size
     · have hat:=xA s (f+j) hin;have cN:=gV _ s (f+j) wr hrd hin hs;obtain⟨c,hc⟩:∃ c,s[f+j]=c:=⟨_,rfl⟩
       rw[hc] at hat cN;clear hc;have hcb:=c.toNat_lt;have HS:=zh (aMg s.toList below f j c hat);cases below
       · by_cases hj0:j=0
         · by_cases hz:fl false c=0
           · have hz0:c.toNat=0:=by have:=congrArg UInt8.toNat hz;simpa[fl] using this
             have q3:decide ((0:Int)<(j:Int))=false:=by simp;omega
             have q4:(((c.toNat:Int)) != 0)=false:=by simp;omega
             have HZ:=zh (aEn (l:=s.toList) (below:=false) (f:=f) (k:=k) (by omega) (by simpa[hj0] using hat) hz);clear hat;go_wp2_with fail;refine cN.mono ?_;rintro e w2 ⟨rfl,hr2,hm2⟩;have c1:w2.cell? ⟨w.heap.size+1+1+1,1,none⟩=some (.int .i64 ((f+j+1:Nat):Int)):=hr2.cell 1;have hO2:=hO.mv (b:=w.heap.size+1+1+1) (by omega) hm2;have hB2:Below (w.heap.size+3) W w2:=hB.trans (hm2.below lr);have hs2:w.heap.size+4≤w2.heap.size:=Nat.le_trans hsz hm2.size;have hsb:=zh (show ((fl false c).toNat:Int)=(c.toNat:Int) from rfl);go_wp2_with fail;refine(tZ _ _).mono ?_;rintro e w3 ⟨rfl,rfl⟩;exact qM _ _ _ _ _ rfl rfl rfl aOn hB2 hBel (zC HE.out (HZ.out)) (by omega)
           · have hz0:c.toNat≠0:=fun e=>hz (UInt8.toNat_inj.1 (by simp only [fl,Bool.false_eq_true,if_false,e];rfl))
             have q3:decide ((0:Int)<(j:Int))=false:=by simp;omega
             have q4:(((c.toNat:Int)) != 0)=true:=by simp;omega
             have HN:=zh (xU (l:=s.toList) (below:=false) (f:=f) (k:=k) (by omega) (by simpa[hj0] using hat) hz);clear hat;go_wp2_with fail;refine cN.mono ?_;rintro e w2 ⟨rfl,hr2,hm2⟩;have c1:w2.cell? ⟨w.heap.size+1+1+1,1,none⟩=some (.int .i64 ((f+j+1:Nat):Int)):=hr2.cell 1;have hO2:=hO.mv (b:=w.heap.size+1+1+1) (by omega) hm2;have hB2:Below (w.heap.size+3) W w2:=hB.trans (hm2.below lr);have hs2:w.heap.size+4≤w2.heap.size:=Nat.le_trans hsz hm2.size;have hsb:=zh (show ((fl false c).toNat:Int)=(c.toNat:Int) from rfl);go_wp2_with fail;refine(iN _ _).mono ?_;rintro e w3 ⟨rfl,rfl⟩;go_wp2_with (at_builtin;refine fG rfl (.tmp 53) (.tmp 55) 99 rfl underlying99 Tryz.info5 rfl (hO2.alloc _) _ [fl false c] 1 _ rfl rfl (gQ _ _ _ hsb.out) (by omega) (by simp;omega) ?_;intro v3 w3 hO3 hg3);go_roundw
             case rel =>
              exact⟨j+1,by omega,by omega,by go_num,by rw[HS.out];exact hO3,Rd.grown (hr2.alloc _) (hO2.alloc _) (by omega) hg3,tY hB2 hs2 hO2 hg3,Nat.le_trans (by simp;omega) hg3.size,zh (.inr HN.out)⟩
             case measure=>simp[intOf];omega
         · have q3:decide ((0:Int)<(j:Int))=true:=by simp;omega
           have HN:=zh (HON.out.resolve_left (by omega));clear hat;go_wp2_with fail;refine cN.mono ?_;rintro e w2 ⟨rfl,hr2,hm2⟩;have c1:w2.cell? ⟨w.heap.size+1+1+1,1,none⟩=some (.int .i64 ((f+j+1:Nat):Int)):=hr2.cell 1;have hO2:=hO.mv (b:=w.heap.size+1+1+1) (by omega) hm2;have hB2:Below (w.heap.size+3) W w2:=hB.trans (hm2.below lr);have hs2:w.heap.size+4≤w2.heap.size:=Nat.le_trans hsz hm2.size;have hsb:=zh (show ((fl false c).toNat:Int)=(c.toNat:Int) from rfl);go_wp2_with fail;refine(iN _ _).mono ?_;rintro e w3 ⟨rfl,rfl⟩;go_wp2_with (at_builtin;refine fG rfl (.tmp 53) (.tmp 55) 99 rfl underlying99 Tryz.info5 rfl (hO2.alloc _) _ [fl false c] 1 _ rfl rfl (gQ _ _ _ hsb.out) (by omega) (by simp;omega) ?_;intro v3 w3 hO3 hg3);go_roundw
           case rel =>
            exact⟨j+1,by omega,by omega,by go_num,by rw[HS.out];exact hO3,Rd.grown (hr2.alloc _) (hO2.alloc _) (by omega) hg3,tY hB2 hs2 hO2 hg3,Nat.le_trans (by simp;omega) hg3.size,zh (.inr HN.out)⟩
           case measure=>simp[intOf];omega
       · by_cases hj0:j=0
         · by_cases hz:fl true c=0
           · have hz0:c.toNat=255:=by have:=congrArg UInt8.toNat hz;simp only [fl,if_true,aAu] at this;have h0:(0:UInt8).toNat=0:=rfl;omega
             have q3:decide ((0:Int)<(j:Int))=false:=by simp;omega
             have q4:((255-(c.toNat:Int)) != 0)=false:=by simp;omega
             have HZ:=zh (aEn (l:=s.toList) (below:=true) (f:=f) (k:=k) (by omega) (by simpa[hj0] using hat) hz);clear hat;go_wp2_with fail;refine cN.mono ?_;rintro e w2 ⟨rfl,hr2,hm2⟩;have c1:w2.cell? ⟨w.heap.size+1+1+1,1,none⟩=some (.int .i64 ((f+j+1:Nat):Int)):=hr2.cell 1;have hO2:=hO.mv (b:=w.heap.size+1+1+1) (by omega) hm2;have hB2:Below (w.heap.size+3) W w2:=hB.trans (hm2.below lr);have hs2:w.heap.size+4≤w2.heap.size:=Nat.le_trans hsz hm2.size;have hsb:=zh (show ((fl true c).toNat:Int)=255-(c.toNat:Int) from rC c);go_wp2_with fail;refine(tZ _ _).mono ?_;rintro e w3 ⟨rfl,rfl⟩;exact qM _ _ _ _ _ rfl rfl rfl aOn hB2 hBel (zC HE.out (HZ.out)) (by omega)
           · have hz0:c.toNat≠255:=fun e=>hz (UInt8.toNat_inj.1 (by simp only [fl,if_true,aAu,e];rfl))
             have q3:decide ((0:Int)<(j:Int))=false:=by simp;omega
             have q4:((255-(c.toNat:Int)) != 0)=true:=by simp;omega
             have HN:=zh (xU (l:=s.toList) (below:=true) (f:=f) (k:=k) (by omega) (by simpa[hj0] using hat) hz);clear hat;go_wp2_with fail;refine cN.mono ?_;rintro e w2 ⟨rfl,hr2,hm2⟩;have c1:w2.cell? ⟨w.heap.size+1+1+1,1,none⟩=some (.int .i64 ((f+j+1:Nat):Int)):=hr2.cell 1;have hO2:=hO.mv (b:=w.heap.size+1+1+1) (by omega) hm2;have hB2:Below (w.heap.size+3) W w2:=hB.trans (hm2.below lr);have hs2:w.heap.size+4≤w2.heap.size:=Nat.le_trans hsz hm2.size;have hsb:=zh (show ((fl true c).toNat:Int)=255-(c.toNat:Int) from rC c);go_wp2_with fail;refine(iN _ _).mono ?_;rintro e w3 ⟨rfl,rfl⟩;go_wp2_with (at_builtin;refine fG rfl (.tmp 53) (.tmp 55) 99 rfl underlying99 Tryz.info5 rfl (hO2.alloc _) _ [fl true c] 1 _ rfl rfl (gQ _ _ _ hsb.out) (by omega) (by simp;omega) ?_;intro v3 w3 hO3 hg3);go_roundw
             case rel =>
              exact⟨j+1,by omega,by omega,by go_num,by rw[HS.out];exact hO3,Rd.grown (hr2.alloc _) (hO2.alloc _) (by omega) hg3,tY hB2 hs2 hO2 hg3,Nat.le_trans (by simp;omega) hg3.size,zh (.inr HN.out)⟩
             case measure=>simp[intOf];omega
         · have q3:decide ((0:Int)<(j:Int))=true:=by simp;omega
           have HN:=zh (HON.out.resolve_left (by omega));clear hat;go_wp2_with fail;refine cN.mono ?_;rintro e w2 ⟨rfl,hr2,hm2⟩;have c1:w2.cell? ⟨w.heap.size+1+1+1,1,none⟩=some (.int .i64 ((f+j+1:Nat):Int)):=hr2.cell 1;have hO2:=hO.mv (b:=w.heap.size+1+1+1) (by omega) hm2;have hB2:Below (w.heap.size+3) W w2:=hB.trans (hm2.below lr);have hs2:w.heap.size+4≤w2.heap.size:=Nat.le_trans hsz hm2.size;have hsb:=zh (show ((fl true c).toNat:Int)=255-(c.toNat:Int) from rC c);go_wp2_with fail;refine(iN _ _).mono ?_;rintro e w3 ⟨rfl,rfl⟩;go_wp2_with (at_builtin;refine fG rfl (.tmp 53) (.tmp 55) 99 rfl underlying99 Tryz.info5 rfl (hO2.alloc _) _ [fl true c] 1 _ rfl rfl (gQ _ _ _ hsb.out) (by omega) (by simp;omega) ?_;intro v3 w3 hO3 hg3);go_roundw
           case rel =>
            exact⟨j+1,by omega,by omega,by go_num,by rw[HS.out];exact hO3,Rd.grown (hr2.alloc _) (hO2.alloc _) (by omega) hg3,tY hB2 hs2 hO2 hg3,Nat.le_trans (by simp;omega) hg3.size,zh (.inr HN.out)⟩
           case measure=>simp[intOf];omega
     · have heq:f+j=s.size:=by omega
       rw[heq] at hrd;have HZ:=zh (aWm (l:=s.toList) (below:=below) (f:=f) hlt (by rw[aD];exact heq) HON.out);go_wp2_with fail;refine(aBb _ s _ hrd hs).mono ?_;rintro e w2 ⟨rfl,hm2⟩;have hB2:Below (w.heap.size+3) W w2:=hB.trans (hm2.below lr);exact qM _ _ _ _ _ rfl rfl rfl aOn hB2 hBel (zC HE.out (HZ.out)) (by rw[aD])
   · have bLb:j=k:=by omega
     have HM:=zh (aWn (l:=s.toList) (below:=below) (f:=f) (k:=k) (by rw[aD];omega) (bLb▸HON.out));have hres:=aOn.below hB;obtain⟨r0,r1,r2,r3,r4,r5,r6,r7⟩:=hres;have c1:wr.cell? ⟨w.heap.size+1+1+1,1,none⟩=some (.int .i64 ((f+j:Nat):Int)):=hrd.cell 1;have hcv:=hO.drew.conv 99 9 underlying99 underlying5 underlying9;subst bLb;have k0:w.heap.size<wr.heap.size:=by omega
     have k1:w.heap.size+1<wr.heap.size:=by omega
     have k2:w.heap.size+2<wr.heap.size:=by omega
     clear hO hrd hrl;go_wp2_with fail;go_region;go_wp2_with fail;have hcells:∀ (x:Int),((((wr.setCell ⟨w.heap.size,0,none⟩ (.bool below)).setCell ⟨w.heap.size,1,none⟩ (.string ⟨(jC s.toList below f j).toArray⟩)).setCell ⟨w.heap.size+1,0,none⟩ (.int .i64 x)).setCell ⟨w.heap.size+1+1,0,none⟩ (.int .i64 0)).cell? ⟨w.heap.size,0,none⟩=some (.bool below) ∧
      ((((wr.setCell ⟨w.heap.size,0,none⟩ (.bool below)).setCell ⟨w.heap.size,1,none⟩ (.string ⟨(jC s.toList below f j).toArray⟩)).setCell ⟨w.heap.size+1,0,none⟩ (.int .i64 x)).setCell ⟨w.heap.size+1+1,0,none⟩ (.int .i64 0)).cell? ⟨w.heap.size,1,none⟩=some (.string ⟨(jC s.toList below f j).toArray⟩) ∧
      ((((wr.setCell ⟨w.heap.size,0,none⟩ (.bool below)).setCell ⟨w.heap.size,1,none⟩ (.string ⟨(jC s.toList below f j).toArray⟩)).setCell ⟨w.heap.size+1,0,none⟩ (.int .i64 x)).setCell ⟨w.heap.size+1+1,0,none⟩ (.int .i64 0)).cell? ⟨w.heap.size+1,0,none⟩=some (.int .i64 x) ∧
      ((((wr.setCell ⟨w.heap.size,0,none⟩ (.bool below)).setCell ⟨w.heap.size,1,none⟩ (.string ⟨(jC s.toList below f j).toArray⟩)).setCell ⟨w.heap.size+1,0,none⟩ (.int .i64 x)).setCell ⟨w.heap.size+1+1,0,none⟩ (.int .i64 0)).cell? ⟨w.heap.size+2,0,none⟩=some (.int .i64 0) :=
      fun x=>⟨by simp[go_sem,r0],by simp[go_sem,r1],by simp[go_sem,r2],by simp[go_sem,r3]⟩
     exact aKz _ _ _ _ _ _ _ rfl rfl rfl (hcells _).1 (hcells _).2.1 (hcells _).2.2.1 (hcells _).2.2.2 (aZd HE.out HM.out) rfl (by omega)
      (((((hBel.trans (hB.mono (by omega))).setCell lr _).setCell lr _).setCell (Nat.le_succ _) _).setCell (by simp;omega) _).drew
end
