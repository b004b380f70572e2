import Derived.Test.YtcgnajeenflfaaaGreatDoorP20
set_option maxRecDepth 100000
set_option maxHeartbeats 4000000
set_option linter.all false
open Go.Proofs.Tryz Go.RowKit
namespace Go.Proofs.YtcgnajeenflfaaaGreatDoor
namespace Sc
open V (Same)
def bDv (w:World) (e:Ending) (w':World):Prop:=(∃ n:Int,e=.returned (.int .i64 n))∧Below w.heap.size w w'
def sO (l:List Fd):Prop:=∀ (a:Option Addr) (c d:Nat) (w:World),l.length≤140737488351232→d≤42→FI w 0 w.heap.size l (.slice a l.length c)→Calls prog 19 #[.slice a l.length c,.int .i64 (d:Int)] w (bDv w)
theorem aAg (l:List Fd) (IH:∀ f∈l,sO f.fields):sO l:=by
 intro a c d w hl hd hfi;obtain⟨m,hm⟩:∃ m,l.length=m:=⟨_,rfl⟩
 have uK:=zh hfi;have HIH:=zh IH;have HM:=zh hm;rw[hm];have hm2:m≤140737488351232:=by omega
 clear hfi IH hm hl;go_enter func19,ntmps19;go_wp2_with fail;go_loopw [5,6] (fun nv iv wr=>∃ (i:Nat) (N:Int),i≤m∧iv=.int .i64 (i:Int)∧nv=.int .i64 N∧Below w.heap.size w wr) (fun _ iv _=>m-(intOf iv).toNat)
 case atStart=>exact⟨0,0,Nat.zero_le _,rfl,rfl,zr⟩
 case round =>
  obtain⟨i,N,hi2,rfl,rfl,hB⟩:=hrel;have HB:=zh hB;by_cases hgo:i<m∧N≤10000∧d≤40
  · obtain⟨hlt,hN,hd2⟩:=hgo;have q1:decide ((i:Int)<(m:Int))=true:=decide_eq_true (by omega);have q2:decide (N≤10000)=true:=decide_eq_true hN;have q3:decide ((d:Int)≤40)=true:=decide_eq_true (by omega);have hiF:i<l.length:=by rw[HM.out];exact hlt
    obtain⟨a',c',he,hc,hpl⟩:=(uK.out.same (Same.of_below hB lr)).open;injection he with e1 e2 e3
    subst e1 e3;obtain⟨b,off,uu,rfl,_,hbh,hcl,fK,hsub⟩:=hpl i hiF;obtain⟨k0,_,_,_,_,_,k5,_,k6,_,_,_,_,k13⟩:=hcl.all;have hfm:=List.getElem_mem hiF;obtain⟨f,hf⟩:∃ f,l[i]=f:=⟨_,rfl⟩
    rw[hf] at k0 k5 k6 fK hsub hfm;obtain⟨au,cu,rfl,_,_⟩:=hsub.open;have qs:(i:Int)≤(c:Int):=by rw[HM.out] at hc;omega
    have HC:=zh (HIH.out f hfm au cu (d+1) wr.drew fK.l (by omega) ((hsub.wide lr hB.size).same (fun _ _ _=>rfl)));obtain⟨gm,hgm⟩:∃ gm,f.fields.length=gm:=⟨_,rfl⟩
    rw[hgm] at HC k13;rw[show ((d+1:Nat):Int)=(d:Int)+1 by omega] at HC;have HWD:=zh (show IntKind.i64.wrap ((d:Int)+1)=(d:Int)+1 by simp[IntKind.wrap,IntKind.signed,IntKind.bits];omega);clear hpl hcl fK hsub hfm hf hgm hc hB;go_wp2_with fail;refine wp_region_held_drew (S:=fun w'=>w'.cell? ⟨b,off+i*14,none⟩=some (.string f.name)∧w'.cell? ⟨b,off+i*14+6,none⟩=some (.string f.eG)∧w'.cell? ⟨b,off+i*14+8,none⟩=some (.string f.him)∧w'.cell? ⟨b,off+i*14+13,none⟩=some (.slice au gm cu)∧Below wr.heap.size wr w') (by kernel_rfl) ⟨k0,k5,k6,k13,(Below.refl _ wr).drew⟩ (fun hHeld=>?_);refine tx 0 ?v0 rfl (by kernel_rfl) tq (by rfl) ?hy0 (by assumption) ?aCd;case hy0=>(rintro wS ⟨k0,k5,k6,k13,kb⟩;go_simp;try with_reducible rfl)
    try simp[Act.put]
    refine tx 1 ?v1 rfl (by kernel_rfl) tq (by rfl) ?hy1 (by assumption) ?aFe;case hy1=>(rintro wS ⟨k0,k5,k6,k13,kb⟩;go_simp;try with_reducible rfl)
    try simp[Act.put]
    refine tx 2 ?v2 rfl (by kernel_rfl) tq (by rfl) ?hy2 (by assumption) ?aCe;case hy2=>(rintro wS ⟨k0,k5,k6,k13,kb⟩;go_simp;try with_reducible rfl)
    try simp[Act.put]
    refine tx 3 ?v3 rfl (by kernel_rfl) tq (by rfl) ?hy3 (by assumption) ?aFf;case hy3=>(rintro wS ⟨k0,k5,k6,k13,kb⟩;go_simp;try with_reducible rfl)
    try simp[Act.put]
    refine tx 4 ?v4 rfl (by kernel_rfl) tq (by rfl) ?hy4 (by assumption) ?aKf;case hy4=>(rintro wS ⟨k0,k5,k6,k13,kb⟩;go_simp;try with_reducible rfl)
    try simp[Act.put]
    refine tx 5 ?v5 rfl (by kernel_rfl) tq (by rfl) ?hy5 (by assumption) ?aYl;case hy5=>(rintro wS ⟨k0,k5,k6,k13,kb⟩;go_simp;try with_reducible rfl)
    try simp[Act.put]
    refine tx 6 ?v6 rfl (by kernel_rfl) tq (by rfl) ?hy6 (by assumption) ?aZq;case hy6=>(rintro wS ⟨k0,k5,k6,k13,kb⟩;go_simp;try with_reducible rfl)
    try simp[Act.put]
    refine tx 7 ?v7 rfl (by kernel_rfl) tq (by rfl) ?hy7 (by assumption) ?aRb;case hy7=>(rintro wS ⟨k0,k5,k6,k13,kb⟩;go_simp;try with_reducible rfl)
    try simp[Act.put]
    refine tx 8 ?v8 rfl (by kernel_rfl) tq (by rfl) ?hy8 (by assumption) ?aRc;case hy8=>(rintro wS ⟨k0,k5,k6,k13,kb⟩;go_simp;try with_reducible rfl)
    try simp[Act.put]
    refine tx 9 ?v9 rfl (by kernel_rfl) tq (by rfl) ?hy9 (by assumption) ?aRd;case hy9=>(rintro wS ⟨k0,k5,k6,k13,kb⟩;go_simp;try with_reducible rfl)
    try simp[Act.put]
    refine tx 10 ?v10 rfl (by kernel_rfl) tq (by rfl) ?aNq (by assumption) ?aNr;case aNq=>(rintro wS ⟨k0,k5,k6,k13,kb⟩;go_simp;try with_reducible rfl)
    try simp[Act.put]
    refine tx 11 ?v11 rfl (by kernel_rfl) tq (by rfl) ?aNs (by assumption) ?aNt;case aNs=>(rintro wS ⟨k0,k5,k6,k13,kb⟩;go_simp;try with_reducible rfl)
    try simp[Act.put]
    refine tx 12 ?v12 rfl (by kernel_rfl) tq (by rfl) ?aHf (by assumption) ?aHg;case aHf=>(rintro wS ⟨k0,k5,k6,k13,kb⟩;go_simp;try with_reducible rfl)
    try simp[Act.put]
    refine tx 13 ?v13 rfl (by kernel_rfl) tq (by rfl) ?aOc (by assumption) ?aOd;case aOc=>(rintro wS ⟨k0,k5,k6,k13,kb⟩;go_simp;try with_reducible rfl)
    try simp[Act.put]
    refine tx 14 ?v14 rfl (by kernel_rfl) tq (by rfl) ?aHh (by assumption) ?aHi;case aHh=>(rintro wS ⟨k0,k5,k6,k13,kb⟩;go_simp;try with_reducible rfl)
    try simp[Act.put]
    refine tx 15 ?v15 rfl (by kernel_rfl) tq (by rfl) ?aNu (by assumption) ?aNv;case aNu=>(rintro wS ⟨k0,k5,k6,k13,kb⟩;go_simp;try with_reducible rfl)
    try simp[Act.put]
    refine tx 16 ?v16 rfl (by kernel_rfl) tq (by rfl) ?bSt (by assumption) ?bSu;case bSt=>(rintro wS ⟨k0,k5,k6,k13,kb⟩;go_simp;try with_reducible rfl)
    try simp[Act.put]
    refine tx 17 ?v17 rfl (by kernel_rfl) tq (by rfl) ?bHr (by assumption) ?bHs;case bHr=>(rintro wS ⟨k0,k5,k6,k13,kb⟩;go_simp;try with_reducible rfl)
    try simp[Act.put]
    refine tx 18 ?v18 rfl (by kernel_rfl) tq (by rfl) ?bSv (by assumption) ?bSw;case bSv=>(rintro wS ⟨k0,k5,k6,k13,kb⟩;go_simp;try with_reducible rfl)
    try simp[Act.put]
    refine tx 19 ?v19 rfl (by kernel_rfl) tq (by rfl) ?bSx (by assumption) ?bSy;case bSx=>(rintro wS ⟨k0,k5,k6,k13,kb⟩;go_simp;try with_reducible rfl)
    try simp[Act.put]
    refine tx 20 ?v20 rfl (by kernel_rfl) tq (by rfl) ?bSz (by assumption) ?bTa;case bSz=>(rintro wS ⟨k0,k5,k6,k13,kb⟩;go_simp;try with_reducible rfl)
    try simp[Act.put]
    refine tx 21 ?v21 rfl (by kernel_rfl) tq (by rfl) ?bTb (by assumption) ?bTc;case bTb=>(rintro wS ⟨k0,k5,k6,k13,kb⟩;go_simp;try with_reducible rfl)
    try simp[Act.put]
    refine tx 22 ?v22 rfl (by kernel_rfl) tq (by rfl) ?bTd (by assumption) ?bTe;case bTd=>(rintro wS ⟨k0,k5,k6,k13,kb⟩;go_simp;try with_reducible rfl)
    try simp[Act.put]
    refine tx 23 ?v23 rfl (by kernel_rfl) tq (by rfl) ?bTf (by assumption) ?bTg;case bTf=>(rintro wS ⟨k0,k5,k6,k13,kb⟩;go_simp;try with_reducible rfl)
    try simp[Act.put]
    refine tx 24 ?v24 rfl (by kernel_rfl) tq (by rfl) ?hy24 (by assumption) ?bTh;case hy24=>(rintro wS ⟨k0,k5,k6,k13,kb⟩;go_simp;try with_reducible rfl)
    try simp[Act.put]
    refine tx 25 ?v25 rfl (by kernel_rfl) tq (by rfl) ?hy25 (by assumption) ?bTi;case hy25=>(rintro wS ⟨k0,k5,k6,k13,kb⟩;go_simp;try with_reducible rfl)
    try simp[Act.put]
    refine tx 26 ?v26 rfl (by kernel_rfl) tq (by rfl) ?bTj (by assumption) ?bTk;case bTj=>(rintro wS ⟨k0,k5,k6,k13,kb⟩;go_simp;try with_reducible rfl)
    try simp[Act.put]
    refine tx 27 ?v27 rfl (by kernel_rfl) tq (by rfl) ?hy27 (by assumption) ?bTl;case hy27=>(rintro wS ⟨k0,k5,k6,k13,kb⟩;go_simp;try with_reducible rfl)
    try simp[Act.put]
    refine tx 28 ?v28 rfl (by kernel_rfl) tq (by rfl) ?hy28 (by assumption) ?bTm;case hy28=>(rintro wS ⟨k0,k5,k6,k13,kb⟩;go_simp;try with_reducible rfl)
    try simp[Act.put]
    refine tx 29 ?v29 rfl (by kernel_rfl) tq (by rfl) ?hy29 (by assumption) ?bTn;case hy29=>(rintro wS ⟨k0,k5,k6,k13,kb⟩;go_simp;try with_reducible rfl)
    try simp[Act.put]
    refine tx 30 ?v30 rfl (by kernel_rfl) tq (by rfl) ?bTo (by assumption) ?bTp;case bTo=>(rintro wS ⟨k0,k5,k6,k13,kb⟩;go_simp;try with_reducible rfl)
    try simp[Act.put]
    refine tx 31 ?v31 rfl (by kernel_rfl) tq (by rfl) ?hy31 (by assumption) ?bTq;case hy31=>(rintro wS ⟨k0,k5,k6,k13,kb⟩;go_simp;try with_reducible rfl)
    try simp[Act.put]
    refine tx 32 ?v32 rfl (by kernel_rfl) tq (by rfl) ?hy32 (by assumption) ?bTr;case hy32=>(rintro wS ⟨k0,k5,k6,k13,kb⟩;go_simp;try with_reducible rfl)
    try simp[Act.put]
    refine tx 33 ?v33 rfl (by kernel_rfl) tq (by rfl) ?bTs (by assumption) ?bTt;case bTs=>(rintro wS ⟨k0,k5,k6,k13,kb⟩;go_simp;try with_reducible rfl)
    try simp[Act.put]
    refine tx 34 ?v34 rfl (by kernel_rfl) tq (by rfl) ?hy34 (by assumption) ?bTu;case hy34=>(rintro wS ⟨k0,k5,k6,k13,kb⟩;go_simp;try with_reducible rfl)
    try simp[Act.put]
    refine wpAnyH_ready (rs:=[35]) (by kernel_rfl) (by simp) ?_;refine AllReadyH.cons rfl (fun K hK=>?_) AllReadyH.nil;go_simp;obtain⟨k0,k5,k6,k13,kb⟩:=hHeld;rw[HWD.out];refine HC.out.mono ?_;rintro e w1 ⟨⟨n,rfl⟩,hb1⟩;replace k0:=V.keeps hb1 k0;replace k5:=V.keeps hb1 k5;replace k6:=V.keeps hb1 k6;replace k13:=V.keeps hb1 k13;replace kb:=V.two kb hb1;clear hb1;go_wp2_with fail;refine hK.out _ _ ⟨k0,k5,k6,k13,kb⟩ (fun hHeld=>?_);try simp[Act.put]
    refine tx 36 ?bWr rfl (by kernel_rfl) tq (by rfl) ?bMa (by assumption) ?bNo;case bMa=>(rintro wS ⟨k0,k5,k6,k13,kb⟩;go_simp;try with_reducible rfl)
    try simp[Act.put]
    refine tx 37 ?bWs rfl (by kernel_rfl) tq (by rfl) ?bMb (by assumption) ?bNp;case bMb=>(rintro wS ⟨k0,k5,k6,k13,kb⟩;go_simp;try with_reducible rfl)
    try simp[Act.put]
    refine wpAnyH_done (by kernel_rfl) ?_ _;obtain⟨k0,k5,k6,k13,kb⟩:=hHeld;have HB1:=zh (HB.out.trans (kb.mono HB.out.size));clear k0 k5 k6 k13 kb;go_wp2_with fail;exact⟨⟨i+1,_,by omega,by simp,rfl,HB1.out⟩,by simp[intOf];omega⟩
  · by_cases hd2:d≤40
    · have q3:decide ((d:Int)≤40)=true:=decide_eq_true (by omega);have q4:decide ((40:Int)<(d:Int))=false:=decide_eq_false (by omega);by_cases hlt:i<m
      · have q1:decide ((i:Int)<(m:Int))=true:=decide_eq_true (by omega);have q2:decide (N≤10000)=false:=decide_eq_false (fun h=>hgo ⟨hlt,h,hd2⟩);clear hgo hB;go_wp2_with fail;go_ret;exact⟨⟨_,rfl⟩,HB.out⟩
      · have q1:decide ((i:Int)<(m:Int))=false:=decide_eq_false (by omega);clear hgo hB;go_wp2_with fail;go_ret;exact⟨⟨_,rfl⟩,HB.out⟩
    · have q3:decide ((d:Int)≤40)=false:=decide_eq_false (by omega);have q4:decide ((40:Int)<(d:Int))=true:=decide_eq_true (by omega);by_cases hlt:i<m
      · have q1:decide ((i:Int)<(m:Int))=true:=decide_eq_true (by omega);by_cases hN:N≤10000
        · have q2:decide (N≤10000)=true:=decide_eq_true hN;clear hgo hB;go_wp2_with fail;go_ret;exact⟨⟨_,rfl⟩,HB.out⟩
        · have q2:decide (N≤10000)=false:=decide_eq_false hN;clear hgo hB;go_wp2_with fail;go_ret;exact⟨⟨_,rfl⟩,HB.out⟩
      · have q1:decide ((i:Int)<(m:Int))=false:=decide_eq_false (by omega);clear hgo hB;go_wp2_with fail;go_ret;exact⟨⟨_,rfl⟩,HB.out⟩
theorem aPn (f:Fd):sO f.fields:=Fd.ind (C:=fun f=>sO f.fields) (fun f ih=>aAg f.fields ih) f
theorem aPo (l:List Fd):sO l:=aAg l (fun f _=>aPn f)
theorem aVi (lim:Int) (l:List Fd) (a:Option Addr) (c:Nat) (w:World) (hl:l.length≤140737488351232) (hfi:FI w 0 w.heap.size l (.slice a l.length c)) :
 Calls prog 6 #[.agg #[.int .i64 lim,.slice a l.length c]] w fun e w'=>(∃ x:Bool,e=.returned (.bool x))∧Below w.heap.size w w':=by
 have HF:=zh (fun o=>aPo l a c 0 (w.alloc o) hl (by omega) ((hfi.same (Same.of_below (zr.alloc lr o) lr)).wide lr (by simp)));obtain⟨m,hm⟩:∃ m,l.length=m:=⟨_,rfl⟩
 rw[hm] at HF ⊢;rw[show ((0:Nat):Int)=0 from rfl] at HF;clear hfi hm hl;go_enter func6,ntmps6;go_wp2_with fail;refine(HF.out _).mono ?_;rintro e w1 ⟨⟨n,rfl⟩,hb1⟩;have HB:=zh ((zr.alloc lr _).trans (hb1.mono (by simp)));clear hb1;go_wp2_with fail;go_ret;exact⟨⟨_,rfl⟩,HB.out⟩
