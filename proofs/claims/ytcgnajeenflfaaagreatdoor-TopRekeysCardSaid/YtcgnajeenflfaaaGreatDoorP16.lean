import Derived.Test.YtcgnajeenflfaaaGreatDoorP11
set_option maxRecDepth 100000
set_option maxHeartbeats 4000000
set_option linter.all false
open Go.Proofs.Tryz Go.RowKit
namespace Go.Proofs.YtcgnajeenflfaaaGreatDoor
namespace We
open Ta (El Tm TabAt ev)
open D (Dm Wf bF aG dM)
open Ma (mH qD yB jF)
def wv (l:List Wd):List Value:=l.flatMap Wd.cells
theorem bEt:(prog.info? 328).map (fun i=>(i.zero,i.size,i.bytes))=some (some (.agg #[.bool false,.int .i64 0,.int .i64 0,.int .i64 0,.bool false]),5,40):=by kernel_rfl
theorem bJw (l:List Wd) (j:Nat) (h:j<l.length) (k:Nat) (hk:k<5):(wv l)[j*5+k]?=l[j].cells[k]?:=by
 induction l generalizing j with
 | nil=>cases h
 | cons x l ih =>
  rw[show wv (x::l)=x.cells++wv l from rfl];cases j with
  | zero=>rw[Nat.zero_mul,Nat.zero_add,List.getElem?_append_left (by show k<5;exact hk)];rfl
  | succ j =>
   rw[List.getElem?_append_right (by show 5≤_;omega),show (j+1)*5+k-x.cells.length=j*5+k by show (j+1)*5+k-5=_;omega];exact ih j (by simpa using h)
theorem aXr {w:World} {base:Nat} {v:Value} {l:List Int} (h:aJ w base v l):∀ k,v.ownBlock=some k→base≤k:=fun k hk=>(World.ownsRow.lt h k hk).1
theorem aBo {l:List El} {j:Nat} (h:j<l.length):l.take (j+1)=l.take j++[l[j]]:=by
 rw[List.take_add_one,List.getElem?_eq_getElem h];rfl
theorem aSy {w:World} {base m cap:Nat} {ae:Option Addr} {es:List El} (h:w.ownsRow base 176 4 (.slice ae m cap) m (ev es)) (hm:es.length=m):∀ j,j<m→∃ g v p s t,ae=some ⟨g,0,none⟩∧g<w.heap.size∧w.cell? ⟨g,j*4,none⟩=some (.bool v)∧w.cell? ⟨g,j*4+1,none⟩=some (.int .i64 p)∧w.cell? ⟨g,j*4+2,none⟩=some (.int .i64 s)∧w.cell? ⟨g,j*4+3,none⟩=some (.int .i64 t)∧∃ h:j<es.length,es[j]=⟨v,p,s,t⟩:=by
 intro j hj;obtain⟨g,cap2,he,_,hg⟩:=World.ownsRow.form h (by omega);injection he with e1 e2 e3
 subst e1;have hj':j<es.length:=by omega
 have key:∀ k,k<4→w.cell? ⟨g,j*4+k,none⟩=es[j].cells[k]?:=fun k hk=>by
  rw[World.ownsRow.cellAt h (j*4+k) (by omega)];exact Ta.bEu es j hj' k hk
 exact⟨g,es[j].v,es[j].p,es[j].s,es[j].t,rfl,hg,key 0 (by omega),key 1 (by omega),key 2 (by omega),key 3 (by omega),hj',rfl⟩
theorem aSz {w:World} {base m cap:Nat} {ae:Option Addr} {M:List Wd} (h:w.ownsRow base 328 5 (.slice ae m cap) M.length (wv M)):∀ j (hj:j<M.length),∃ g,ae=some ⟨g,0,none⟩∧g<w.heap.size∧w.cell? ⟨g,j*5,none⟩=some (.bool M[j].e.v)∧w.cell? ⟨g,j*5+1,none⟩=some (.int .i64 M[j].e.p)∧w.cell? ⟨g,j*5+2,none⟩=some (.int .i64 M[j].e.s)∧w.cell? ⟨g,j*5+3,none⟩=some (.int .i64 M[j].e.t)∧w.cell? ⟨g,j*5+4,none⟩=some (.bool M[j].w):=by
 intro j hj;obtain⟨g,cap2,he,_,hg⟩:=World.ownsRow.form h (by omega);injection he with e1 e2 e3
 subst e1 e2;have key:∀ k,k<5→w.cell? ⟨g,j*5+k,none⟩=M[j].cells[k]?:=fun k hk=>by
  rw[World.ownsRow.cellAt h (j*5+k) (by omega)];exact bJw M j hj k hk
 exact⟨g,rfl,hg,key 0 (by omega),key 1 (by omega),key 2 (by omega),key 3 (by omega),key 4 (by omega)⟩
theorem aJp {D:Dm} (wf:Wf D) {T:Tm} (wt:lF T) {l:List Int} {n:Nat} (hl:l.length≤n) (hn:n≤65536) (hf:So.aM l):(mH (aG D) T (dM D l)).length≤67108864:=by
 rw[Ma.tC];have h1:=Ma.aSo (Ma.eB (aG D) T (dM D l).length (dM D l)) (Ma.vE T) 16 (Ma.aJh wt.few);have h2:=Ma.uX (aG D) T (dM D l).length (dM D l);have h3:=(YtcgnajeenflfaaaGreatDoor.D.rF wf hf).1;omega
theorem bJx (w:World) (v:Bool) (p s t:Int) (z:Bool):aV 5 ((w.alloc (.cells #[.bool v,.int .i64 p,.int .i64 s,.int .i64 t] 176)).alloc (.cells #[.bool v,.int .i64 p,.int .i64 s,.int .i64 t,.bool z] 328)) (w.heap.size+1) (w.heap.size+1+1) (.slice (some ⟨w.heap.size+1,0,none⟩) 1 1) 1 [.bool v,.int .i64 p,.int .i64 s,.int .i64 t,.bool z]:=by
 simpa only [World.size_alloc] using aV.lit (w.alloc (.cells #[.bool v,.int .i64 p,.int .i64 s,.int .i64 t] 176)) 328 #[.bool v,.int .i64 p,.int .i64 s,.int .i64 t,.bool z] 5 1 rfl
theorem bJy (v:Bool) (p s t:Int) (z:Bool):∀ u∈[Value.bool v,.int .i64 p,.int .i64 s,.int .i64 t,.bool z],u.oneCell'=true:=by
 intro u hu;simp only [List.mem_cons,List.not_mem_nil,or_false] at hu;rcases hu with rfl | rfl | rfl | rfl | rfl<;>rfl
def aQv (r:List (List Int)) (w:World) (e:Ending) (w':World):Prop:=∃ v us,e=.returned (.tuple #[v,.int .i64 0])∧w'.ownsRow w.heap.size 42 1 v us.length us∧jF w' (fun _=>False) us r∧Below w.heap.size w w'
theorem bCj {D:Dm} (wf:Wf D) {T:Tm} (wt:lF T) (t:Value) (c:Co) (hc:c.ok) (s:ByteArray) (w:World) (ht:gL w 0 w.heap.size t D T) (hs:s.size≤65536) (hg:U.Good (U.items s)) :
 Calls prog 172 #[t,c.val,.string s] w (aQv (allM D T c s) w):=by
 obtain⟨pb,vm,vt,rfl,hpb,hc0,hc1,hd,htb⟩:=ht;obtain⟨pd,hpd⟩:∃ pd,vm=.pointer (some pd):=by obtain⟨pd,_,_,_,h,_⟩:=hd;exact⟨_,h⟩
 subst hpd;obtain⟨pt,hpt⟩:∃ pt,vt=.pointer (some pt):=by obtain⟨pt,_,_,_,_,_,_,h,_⟩:=htb;exact⟨_,h⟩
 subst hpt;obtain⟨str,sh,back⟩:=c;obtain⟨n,rfl⟩:∃ n:Nat,str=(n:Int):=⟨str.toNat,by have:=hc.1;simp only at this;omega⟩
 have hn1:1≤n:=by have:=hc.1;simp only at this;omega
 have hn4:n≤4:=by have:=hc.2.1;simp only at this;omega
 have h4s:n=4→sh=true:=fun e=>hc.2.2 (by simp[e])
 have HD:=zh hd;have HT:=zh htb;have HW:=zh wf;have HWT:=zh wt;have HG:=zh hg;have HC0:=zh hc0;have HC1:=zh hc1;obtain⟨B,hB⟩:∃ B,w.heap.size=B:=⟨_,rfl⟩
 have d1:decide ((n:Int)<1)=false:=decide_eq_false (by omega);have d2:decide ((4:Int)<(n:Int))=false:=decide_eq_false (by omega);have d5:decide (65536<s.size)=false:=decide_eq_false (by omega);have hz0:(w.alloc (.cells #[.int .i64 (n:Int),.bool sh,.bool back] 77)).heap.size=B+1:=by simp[hB]
 have hb0:Below B w (w.alloc (.cells #[.int .i64 (n:Int),.bool sh,.bool back] 77)):=(Below.refl B w).alloc (by omega) _;have k0:(w.alloc (.cells #[.int .i64 (n:Int),.bool sh,.bool back] 77)).cell? ⟨B,0,none⟩=some (.int .i64 (n:Int)):=by rw[← hB];simp
 have k1:(w.alloc (.cells #[.int .i64 (n:Int),.bool sh,.bool back] 77)).cell? ⟨B,1,none⟩=some (.bool sh):=by rw[← hB];simp
 have k2:(w.alloc (.cells #[.int .i64 (n:Int),.bool sh,.bool back] 77)).cell? ⟨B,2,none⟩=some (.bool back):=by rw[← hB];simp
 have HB:=zh hB;have HZ0:=zh hz0;have HB0:=zh hb0;have K0:=zh k0;have K1:=zh k1;have K2:=zh k2;have q3:((n:Int)==4&&!sh)=false:=by
  by_cases h:n=4
  · rw[h4s h];simp
  · have:((n:Int)==4)=false:=by simp;omega
    rw[this];rfl
 unfold Co.val;clear hd htb wf wt hg hc0 hc1 hz0 hb0 k0 k1 k2 h4s hc hB;have hcase:(((n:Int)==4)=false)∨(((n:Int)==4)=true∧(!sh)=false):=by
  cases h:((n:Int)==4) with
  | false=>exact .inl rfl
  | true=>rw[h,Bool.true_and] at q3;exact .inr ⟨rfl,q3⟩
 obtain⟨es,hes⟩:∃ es,mH (aG D) T (dM D (U.lN s))=es:=⟨_,rfl⟩
 have HES:=zh hes;clear q3 hes;rcases hcase with q4 | ⟨q4,hns⟩
 all_goals
  go_enter func172,ntmps172;go_wp2_with fail;refine(U.aNa s hs _).mono ?_;rintro e w1 ⟨hb1,hpo⟩;rcases hpo with ⟨_,pv,rfl,hpv⟩ | ⟨_,_,hbad,_⟩
  · have hbB:=HB0.out.trans (hb1.mono (by rw[HZ0.out];omega));have hw1:=hb1.size;rw[HZ0.out] at hw1;have kk:∀ o v,(w.alloc (.cells #[.int .i64 (n:Int),.bool sh,.bool back] 77)).cell? ⟨B,o,none⟩=some v→w1.cell? ⟨B,o,none⟩=some v:=fun o v h=>(hb1.cell (p:=⟨B,o,none⟩) (by show B<_;rw[HZ0.out];omega)).trans h
    have k0:=kk 0 _ K0.out;have k1:=kk 1 _ K1.out;have k2:=kk 2 _ K2.out;have c0:=(hbB.cell (p:=⟨pb,0,none⟩) (by show pb<B;rw[← HB.out];exact hpb.2)).trans HC0.out;have c1:=(hbB.cell (p:=⟨pb,1,none⟩) (by show pb<B;rw[← HB.out];exact hpb.2)).trans HC1.out;have HD1:=zh (show bF w1 0 w1.heap.size (.pointer (some pd)) D from(HD.out.later hbB (by rw[HB.out];exact Nat.le_refl _)).wide lr (by rw[HB.out];omega));have HT1:=zh (show TabAt w1 0 w1.heap.size (.pointer (some pt)) T from(HT.out.later hbB (by rw[HB.out];exact Nat.le_refl _)).wide lr (by rw[HB.out];omega));have xO:=zh (hpv.reads.wide (Nat.zero_le _) lr);have HPL:=zh (show (U.lN s).length≤65536 from Nat.le_trans (vF s) hs);have vX:=zh hbB;clear hb1 hbB kk hpv;go_wp2_with fail;try clear hns
    simp only [HB.out];go_region_held3 (fun w'=>w'.cell? ⟨pb,0,none⟩=some (.pointer (some pd))∧w'.cell? ⟨pb,1,none⟩=some (.pointer (some pt))) (go_keep) (first
     | (go_at_call 201
        refine(qD HW.out T HWT.out.none HWT.out.long HWT.out.few (.pointer (some pd)) (.pointer (some pt)) pv (U.lN s) w1.drew HD1.out HT1.out xO.out (rQ s) HPL.out).mono ?_;rintro e w2 ⟨ev2,rfl,ho2,hb2⟩;rw[HES.out] at ho2;obtain⟨ae,ce,rfl⟩:=aP ho2;have HB2:=zh (show Below w1.heap.size w1 w2 from⟨hb2.os,hb2.tape,hb2.output,hb2.size,hb2.block⟩);have HO2:=zh (show w2.ownsRow w1.heap.size 176 4 (.slice ae es.length ce) es.length (ev es) from ho2);have bJz:pb<w1.heap.size:=by have:=hpb.2;rw[HB.out] at this;omega
        have c02:=(HB2.out.cell (p:=⟨pb,0,none⟩) bJz).trans c0;have c12:=(HB2.out.cell (p:=⟨pb,1,none⟩) bJz).trans c1;clear ho2 hb2))
    all_goals
     have bNh:=True.intro;have bQg:B≤w1.heap.size:=by omega
     go_wp2_with fail;obtain⟨m,hm⟩:∃ m,es.length=m:=⟨_,rfl⟩
     have HM:=zh hm;rw[hm] at HO2 ⊢;have HCE:=zh (show ∀ j,j<m→∃ g v p s t,ae=some ⟨g,0,none⟩∧g<w2.heap.size∧w2.cell? ⟨g,j*4,none⟩=some (.bool v)∧w2.cell? ⟨g,j*4+1,none⟩=some (.int .i64 p)∧w2.cell? ⟨g,j*4+2,none⟩=some (.int .i64 s)∧w2.cell? ⟨g,j*4+3,none⟩=some (.int .i64 t)∧∃ h:j<es.length,es[j]=⟨v,p,s,t⟩ from aSy HO2.out hm);have bVu:m≤67108864:=by rw[← hm,← HES.out];exact aJp HW.out HWT.out (vF s) hs (rQ s)
     have bVv:=HB2.out.size;have k12:=(HB2.out.cell (p:=⟨B,1,none⟩) (by show B<w1.heap.size;omega)).trans k1;clear hm;go_loopw [11,12,64] (fun o bv i wr=>∃ (j:Nat) (M:List Wd),j≤m∧i=.int .i64 (j:Int)∧wr.ownsRow w2.heap.size 328 5 o M.length (wv M)∧bv=.bool (dI false (es.take j))∧Below w2.heap.size w2 wr∧M.length=j∧RowKit.Hid (M=wds sh false (es.take j))) (fun _ _ i _=>m-(intOf i).toNat)
     case atStart=>exact⟨0,[],Nat.zero_le _,rfl,World.ownsRow_nil _ _ _ _,rfl,zr,rfl,zh rfl⟩
     case round =>
      obtain⟨j,M,hj,rfl,hO,rfl,hBe,hMl,HMM⟩:=hrel;have hsz:=hBe.size;obtain⟨a11,bVg,rfl⟩:=aP hO;by_cases hlt:j<m
      · have q1:decide ((j:Int)<(m:Int))=true:=decide_eq_true (by omega);obtain⟨g,xv,xp,xs,xt,rfl,hg,e0,e1,e2,e3,hjm,hx⟩:=HCE.out j hlt;have k1r:=(hBe.cell (p:=⟨B,1,none⟩) (by show B<w2.heap.size;omega)).trans k12;have f0:=(hBe.cell (p:=⟨g,j*4,none⟩) hg).trans e0;have f1:=(hBe.cell (p:=⟨g,j*4+1,none⟩) hg).trans e1;have f2:=(hBe.cell (p:=⟨g,j*4+2,none⟩) hg).trans e2;have f3:=(hBe.cell (p:=⟨g,j*4+3,none⟩) hg).trans e3;have uY:=zh hO;have HBe:=zh ((hBe.alloc hsz (.cells #[.bool xv,.int .i64 xp,.int .i64 xs,.int .i64 xt] 176)));obtain⟨b0,hb0⟩:∃ b0,dI false (es.take j)=b0:=⟨_,rfl⟩
        rw[hb0];have hbn:=zh (show dI false (es.take (j+1))=if xp=0 then b0 else xv by rw[aBo hjm,aSp,hx,hb0]);have hmn:=zh (show wds sh false (es.take (j+1))=M++[⟨⟨xv,xp,xs,xt⟩,sh&&(if xp=0 then b0 else xv)&&(xv || xp==0)⟩] by rw[aBo hjm,bCh,hb0,hx,← HMM.out];rfl);clear hO hBe e0 e1 e2 e3 hx hb0;have jB:B<wr.heap.size:=by omega
        have bVw:M.length≤67108864:=by omega
        clear hMl;by_cases hz:xp=0
        · subst hz;cases sh<;>cases b0<;>cases xv;all_goals
           go_wp2_with (at_builtin;refine fF rfl (.tmp 73) (.tmp 90) 325 rfl 328 _ 5 40 underlying325 bEt rfl (by decide) rfl ((uY.out.alloc _).alloc _) rfl (bJx wr _ _ _ _ _) (bJy _ _ _ _ _) (by omega) (by decide) (HBe.out.alloc (by simp;omega) _) (by simp;omega) ?_;intro c3 oM w3 hO3 hB3 _ _);refine⟨⟨j+1,wds _ false (es.take (j+1)),by omega,by simp,?_,?_,hB3,by rw[aGr,List.length_take];have:=HM.out;omega,zh rfl⟩,by simp[intOf];omega⟩
           · rw[hmn.out];simpa[wv,Wd.cells] using hO3
           · rw[hbn.out];simp
        · have p1:(xp != 0)=true:=by simpa using hz
          have p2:(xp==0)=false:=by simpa using hz
          have HZ:=zh hz;clear hz;cases sh<;>cases b0<;>cases xv;all_goals
           go_wp2_with (at_builtin;refine fF rfl (.tmp 73) (.tmp 90) 325 rfl 328 _ 5 40 underlying325 bEt rfl (by decide) rfl ((uY.out.alloc _).alloc _) rfl (bJx wr _ _ _ _ _) (bJy _ _ _ _ _) (by omega) (by decide) (HBe.out.alloc (by simp;omega) _) (by simp;omega) ?_;intro c3 oM w3 hO3 hB3 _ _);refine⟨⟨j+1,wds _ false (es.take (j+1)),by omega,by simp,?_,?_,hB3,by rw[aGr,List.length_take];have:=HM.out;omega,zh rfl⟩,by simp[intOf];omega⟩
           · rw[hmn.out];simpa[wv,Wd.cells,HZ.out] using hO3
           · rw[hbn.out];simp[HZ.out]
      · obtain rfl:j=m:=by omega
        have q1:decide ((j:Int)<(j:Int))=false:=decide_eq_false (by omega);rw[List.take_of_length_le (by rw[HM.out];exact Nat.le_refl _)] at HMM;have hjB:B<w2.heap.size:=by omega
        have k0r:=(hBe.cell (p:=⟨B,0,none⟩) hjB).trans ((HB2.out.cell (p:=⟨B,0,none⟩) (by show B<w1.heap.size;omega)).trans k0);have jn4:(n:Int)≤4:=by omega
        have uY:=zh hO;have vY:=zh hBe;have bVx:M.length≤67108864:=by omega
        have jBr:B<wr.heap.size:=by omega
        clear hMl hO hBe;go_wp2_with fail;go_region_held3 (fun w'=>w'.cell? ⟨B,0,none⟩=some (.int .i64 (n:Int))) (go_keep) (first
         | (go_at_call 202
            refine(aNb _).mono ?_;rintro e w4 ⟨rfl,rfl⟩))
        all_goals
         go_wp2_with fail;obtain⟨C,hC⟩:∃ C,wr.heap.size=C:=⟨_,rfl⟩
         obtain⟨W4,hW4⟩:∃ W4,(wr.alloc (.cells bGe 333)).drew=W4:=⟨_,rfl⟩
         have hz4:W4.heap.size=C+1:=by rw[← hW4,← hC];show (wr.alloc _).heap.size=_;simp
         have hb4:Below wr.heap.size wr W4:=by rw[← hW4];exact(zr.alloc lr _).drew
         have bKa:W4.heap[C]?=some (.cells bGe 333 (0,0)):=by rw[← hW4,← hC];exact heap_alloc_new wr _
         have HLV:=zh (show ∀ i,i<4→W4.cell? ⟨C,i,none⟩=some (.func (.func (bGf i)) #[] #[]) from fun i hi=>by
          rw[cell_of_row W4 C i _ _ _ bKa];match i,hi with
          | 0,_=>rfl
          | 1,_=>rfl
          | 2,_=>rfl
          | 3,_=>rfl)
         have HWC:=zh (aSz uY.out);have bKb:Below C wr W4:=by rw[← hC];exact hb4
         have k0b:=(vY.out.cell (p:=⟨B,2,none⟩) hjB).trans ((HB2.out.cell (p:=⟨B,2,none⟩) (by show B<w1.heap.size;omega)).trans k2);have K24:=zh ((hb4.cell (p:=⟨B,2,none⟩) jBr).trans k0b);have jBC:B<C:=by rw[← hC];exact jBr
         rw[hW4,hC];have HW4:=zh hW4;have HC:=zh hC;have dJ:=zh bKb;have HZ4:=zh hz4;clear hW4 hC hb4 bKb hz4 bKa k0b k0r k0 k1 k2 k12;go_loopw [15,98] (fun ov iv wz=>∃ (i:Nat) (us:List Value) (rows:List (List Int)),i≤n∧iv=.int .i64 (i:Int)∧wz.ownsRow (C+1) 42 1 ov us.length us∧jF wz (fun k=>ov.ownBlock=some k) us rows∧Below (C+1) W4 wz∧rows.length=i∧RowKit.Hid (rows=(List.range i).map fun i=>if i=1∧back=true then So.rH (wts i M) else wts i M)) (fun _ iv _=>n-(intOf iv).toNat)
         case atStart=>exact⟨0,[],[],Nat.zero_le _,rfl,World.ownsRow_nil _ _ _ _,jF.nil _ _,zr,rfl,zh rfl⟩
         case round =>
          rename World=>wz
          obtain⟨i,us,rows,hi,rfl,hO,hRs,hB,hrl,HRW⟩:=hrel;obtain⟨a15,aQw,rfl⟩:=aP hO;by_cases hlt:i<n
          · have q1:decide ((i:Int)<(n:Int))=true:=decide_eq_true (by omega);have hz5:=hB.size;rw[HZ4.out] at hz5;have lc:=(hB.cell (p:=⟨C,i,none⟩) (Nat.lt_succ_self _)).trans (HLV.out i (by omega));obtain⟨F,hF⟩:∃ F,bGf i=F:=⟨_,rfl⟩
            rw[hF] at lc;have HF:=zh hF;have HFC:=zh (show F=224∨F=225∨F=226∨F=227 by
             rw[← hF];match i,(show i<4 by omega) with
             | 0,_=>exact .inl rfl
             | 1,_=>exact .inr (.inl rfl)
             | 2,_=>exact .inr (.inr (.inl rfl))
             | 3,_=>exact .inr (.inr (.inr rfl)))
            have HCL:=zh (show ∀ (x:Wd) (w:World),Calls prog F #[.agg #[.bool x.e.v,.int .i64 x.e.p,.int .i64 x.e.s,.int .i64 x.e.t,.bool x.w]] w fun e w'=>e=.returned (.int .i64 (rP i x))∧Below w.heap.size w w' from fun x w=>by rw[← hF];exact aTa i x w);clear hF;have HO:=zh hO;have HRs:=zh hRs;have HBz:=zh hB;have bFk:us.length=i:=by rw[hRs.1,hrl]
            have HUS:=zh bFk;have hrl2:rows.length≤4:=by omega
            have HRL:=zh hrl;clear hO hRs hB hrl bFk;go_wp2_with fail;obtain⟨X,hX⟩:∃ X,wz.heap.size=X:=⟨_,rfl⟩
            obtain⟨Y,hY⟩:∃ Y,wz.alloc (.cells #[.func (.func F) #[] #[]] 333)=Y:=⟨_,rfl⟩
            have hzY:Y.heap.size=X+1:=by rw[← hY,← hX];simp
            have hbY:Below X wz Y:=by rw[← hY];exact zr.alloc (by omega) _
            have kX:Y.cell? ⟨X,0,none⟩=some (.func (.func F) #[] #[]):=by rw[← hY,← hX];simp
            have hCX:C+1≤X:=by rw[← hX];exact hz5
            have HKX:=zh kX;have HZY:=zh hzY;have HBY:=zh hbY;have HXE:=zh hX;rw[hY,hX];have HYE:=zh hY;clear hX hY hzY hbY kX lc;go_loopw [18,105] (fun vv kv wy=>∃ (k:Nat) (Wt:List Int),k≤M.length∧kv=.int .i64 (k:Int)∧aJ wy (X+1) vv Wt∧Below (X+1) Y wy∧Wt.length≤k∧RowKit.Hid (Wt=wts i (M.take k))) (fun _ kv _=>M.length-(intOf kv).toNat)
            case atStart=>exact⟨0,[],Nat.zero_le _,rfl,aJ.nil _ _,zr,Nat.le_refl _,zh rfl⟩
            case round =>
             rename World=>wy
             obtain⟨k,Wt,hk,rfl,hOw,hBw,hWl,HWt⟩:=hrel;obtain⟨a18,iM,rfl⟩:=aP hOw;have bQh:=hBw.size;rw[HZY.out] at bQh;by_cases hkl:k<M.length
             · have q2:decide ((k:Int)<(M.length:Int))=true:=decide_eq_true (by omega);obtain⟨g,rfl,hg,e0,e1,e2,e3,e4⟩:=HWC.out k hkl;rw[HC.out] at hg;have tr:∀ o v,wr.cell? ⟨g,o,none⟩=some v→wy.cell? ⟨g,o,none⟩=some v:=fun o v h =>
                (hBw.cell (p:=⟨g,o,none⟩) (by show g<X+1;omega)).trans ((HBY.out.cell (p:=⟨g,o,none⟩) (by show g<X;omega)).trans ((HBz.out.cell (p:=⟨g,o,none⟩) (by show g<C+1;omega)).trans ((dJ.out.cell (p:=⟨g,o,none⟩) hg).trans h)))
               have f0:=tr _ _ e0;have f1:=tr _ _ e1;have f2:=tr _ _ e2;have f3:=tr _ _ e3;have f4:=tr _ _ e4;have kXy:=(hBw.cell (p:=⟨X,0,none⟩) (Nat.lt_succ_self _)).trans HKX.out;obtain⟨x,hx⟩:∃ x,M[k]=x:=⟨_,rfl⟩
               have HX:=zh (show M.take (k+1)=M.take k++[x] by rw[List.take_add_one,List.getElem?_eq_getElem hkl,hx];rfl);rw[hx] at f0 f1 f2 f3 f4;have HOy:=zh hOw;have HBy:=zh hBw;have jXy:X<wy.heap.size:=by omega
               clear hOw hBw tr e0 e1 e2 e3 e4 hx;rcases HFC.out with rfl | rfl | rfl | rfl
               all_goals
                go_wp2_with fail;refine(HCL.out x _).mono ?_;rintro e w5 ⟨rfl,hb5⟩;have bGg:Below wy.heap.size wy w5:=(zr.alloc lr _).trans (hb5.mono (by simp));have lJ:=zh bGg;have hsz5:=bGg.size;obtain⟨r,hr⟩:∃ r,rP i x=r:=⟨_,rfl⟩
                rw[hr];have HWn:=zh (show wts i (M.take (k+1))=Wt++(if r=0 then [] else [r]) by rw[HX.out,aXm,hr,← HWt.out]);clear hb5 bGg hr;by_cases hr0:r=0
                · subst hr0;have HO5:=aJ.below HOy.out lJ.out;have HB6:=HBy.out.trans (lJ.out.mono (by omega));rw[if_pos rfl,List.append_nil] at HWn;go_wp2_with fail;exact⟨⟨k+1,Wt,by omega,by simp,HO5,HB6,by omega,zh HWn.out.symm⟩,by simp[intOf];omega⟩
                · have q5:(r != 0)=true:=by simpa using hr0
                  rw[if_neg hr0] at HWn;clear hr0;have hone:=(aJ.one w5 w5.heap.size r lr).reads;simp only [World.size_alloc] at hone;have HB6:=zh ((HBy.out.trans (lJ.out.mono (by omega))).alloc (by omega) (.cells #[.int .i64 r] 3));go_wp2_with (at_builtin;refine bB rfl (.tmp 115) (.tmp 117) rfl rfl ((aJ.below HOy.out lJ.out).alloc _) rfl hone (by simp;omega) HB6.out (by simp;omega) ?_;intro c3 oM w6 hO6 hB6 _ _);exact⟨⟨k+1,Wt++[r],by omega,by simp,by simpa using hO6,hB6,by simp;omega,zh HWn.out.symm⟩,by simp[intOf];omega⟩
             · obtain rfl:k=M.length:=by omega
               have q2:decide ((M.length:Int)<(M.length:Int))=false:=decide_eq_false (by omega);rw[List.take_length] at HWt;have kB2:=(hBw.cell (p:=⟨B,2,none⟩) (by show B<X+1;omega)).trans ((HBY.out.cell (p:=⟨B,2,none⟩) (by show B<X;omega)).trans ((HBz.out.cell (p:=⟨B,2,none⟩) (by show B<C+1;omega)).trans K24.out));have HOy:=zh hOw;have HBy:=zh hBw;clear hOw hBw;by_cases hi1:i=1
               · have qi:((i:Int)==1)=true:=by simp;omega
                 have HI1:=zh hi1;clear hi1;cases back with
                 | true =>
                  have aXs:=zh (show rows++[So.rH Wt]=(List.range (i+1)).map fun i=>if i=1∧true=true then So.rH (wts i M) else wts i M by rw[List.range_succ,List.map_append,← HRW.out,HWt.out];simp[HI1.out]);go_wp2_with fail;refine(aJc _ Wt wy (X+1) HOy.out (by omega)).mono ?_;rintro e w5 ⟨rfl,hOx,hoth⟩;have hl5:=So.rJ Wt;have HBx:=zh (show Below (X+1) Y w5 from HBy.out.trans (by
                   rcases hoth with rfl | ⟨g,hg,ho⟩
                   · exact zr
                   · exact ho.below (aXr HOy.out g hg)))
                  have HOx:=zh hOx;clear hOx hoth hl5;have aBp:Below wz.heap.size wz w5:=by rw[HXE.out];exact HBY.out.trans (HBx.out.mono (Nat.le_succ _))
                  have hszz:=aBp.size;have qZ:=jG HO.out aBp;have lM:aV 1 (w5.alloc (.cells #[.slice a18 Wt.length iM] 42)) w5.heap.size (w5.heap.size+1) (.slice (some ⟨w5.heap.size,0,none⟩) 1 1) 1 [.slice a18 Wt.length iM]:=aV.lit w5 42 #[.slice a18 Wt.length iM] 1 1 rfl;have bEv:us.length≤4:=by have:=HUS.out;omega
                  have hzc:C+1≤w5.heap.size:=by omega
                  go_wp2_with (at_builtin;refine aO rfl (.tmp 128) (.tmp 130) 298 rfl 42 (.slice none 0 0) 1 24 underlying298 Ma.vD rfl (by decide) rfl (qZ.alloc _) rfl lM (fun u hu=>by rw[List.mem_singleton.1 hu];rfl) (by omega) (by decide) (by simp;omega) ?_;intro c9 nE w9 qY nD jM);have hW2:=aBp.alloc hszz (.cells #[.slice a18 Wt.length iM] 42);have qC:=fun k=>(World.ownsRow.lt HO.out k)
                  have hux:aH (w5.alloc (.cells #[.slice a18 Wt.length iM] 42)) (fun k=>Value.ownBlock (.slice a15 us.length aQw)=some k) (.slice a18 Wt.length iM) (So.rH Wt) :=
                   aH.below (aH.of (aJ.reads HOx.out) lr (fun k h1 _ e=>by have h2:=(qC k e).2;rw[HXE.out] at h2;omega)) (zr.alloc lr _) (fun _ _ e=>e)
                  have yA:=Ma.kF HRs.out hW2 hux nD jM;have uJ:=(HBz.out.trans (hW2.mono (by omega))).grown nD (by simp;omega) (fun k e=>(qC k e).1);clear hux hW2 qC qZ lM;exact⟨⟨i+1,us++[.slice a18 Wt.length iM],rows++[(So.rH Wt)],by omega,by simp,by simpa using qY,yA,uJ,by simp[HRL.out],zh aXs.out⟩,by simp[intOf];omega⟩
                 | false =>
                  have aXs:=zh (show rows++[Wt]=(List.range (i+1)).map fun i=>if i=1∧false=true then So.rH (wts i M) else wts i M by rw[List.range_succ,List.map_append,← HRW.out,HWt.out];simp);have HOx:=HOy;have HBx:=HBy;have aBp:Below wz.heap.size wz wy:=by rw[HXE.out];exact HBY.out.trans (HBx.out.mono (Nat.le_succ _))
                  have hszz:=aBp.size;have qZ:=jG HO.out aBp;have lM:aV 1 (wy.alloc (.cells #[.slice a18 Wt.length iM] 42)) wy.heap.size (wy.heap.size+1) (.slice (some ⟨wy.heap.size,0,none⟩) 1 1) 1 [.slice a18 Wt.length iM]:=aV.lit wy 42 #[.slice a18 Wt.length iM] 1 1 rfl;have bEv:us.length≤4:=by have:=HUS.out;omega
                  have hzc:C+1≤wy.heap.size:=by omega
                  go_wp2_with (at_builtin;refine aO rfl (.tmp 128) (.tmp 130) 298 rfl 42 (.slice none 0 0) 1 24 underlying298 Ma.vD rfl (by decide) rfl (qZ.alloc _) rfl lM (fun u hu=>by rw[List.mem_singleton.1 hu];rfl) (by omega) (by decide) (by simp;omega) ?_;intro c9 nE w9 qY nD jM);have hW2:=aBp.alloc hszz (.cells #[.slice a18 Wt.length iM] 42);have qC:=fun k=>(World.ownsRow.lt HO.out k)
                  have hux:aH (wy.alloc (.cells #[.slice a18 Wt.length iM] 42)) (fun k=>Value.ownBlock (.slice a15 us.length aQw)=some k) (.slice a18 Wt.length iM) Wt :=
                   aH.below (aH.of (aJ.reads HOx.out) lr (fun k h1 _ e=>by have h2:=(qC k e).2;rw[HXE.out] at h2;omega)) (zr.alloc lr _) (fun _ _ e=>e)
                  have yA:=Ma.kF HRs.out hW2 hux nD jM;have uJ:=(HBz.out.trans (hW2.mono (by omega))).grown nD (by simp;omega) (fun k e=>(qC k e).1);clear hux hW2 qC qZ lM;exact⟨⟨i+1,us++[.slice a18 Wt.length iM],rows++[Wt],by omega,by simp,by simpa using qY,yA,uJ,by simp[HRL.out],zh aXs.out⟩,by simp[intOf];omega⟩
               · have qi:((i:Int)==1)=false:=by simp;omega
                 have aXs:=zh (show rows++[Wt]=(List.range (i+1)).map fun i=>if i=1∧back=true then So.rH (wts i M) else wts i M by rw[List.range_succ,List.map_append,← HRW.out,HWt.out];simp[hi1]);have HOx:=HOy;have HBx:=HBy;clear hi1;have aBp:Below wz.heap.size wz wy:=by rw[HXE.out];exact HBY.out.trans (HBx.out.mono (Nat.le_succ _))
                 have hszz:=aBp.size;have qZ:=jG HO.out aBp;have lM:aV 1 (wy.alloc (.cells #[.slice a18 Wt.length iM] 42)) wy.heap.size (wy.heap.size+1) (.slice (some ⟨wy.heap.size,0,none⟩) 1 1) 1 [.slice a18 Wt.length iM]:=aV.lit wy 42 #[.slice a18 Wt.length iM] 1 1 rfl;have bEv:us.length≤4:=by have:=HUS.out;omega
                 have hzc:C+1≤wy.heap.size:=by omega
                 go_wp2_with (at_builtin;refine aO rfl (.tmp 128) (.tmp 130) 298 rfl 42 (.slice none 0 0) 1 24 underlying298 Ma.vD rfl (by decide) rfl (qZ.alloc _) rfl lM (fun u hu=>by rw[List.mem_singleton.1 hu];rfl) (by omega) (by decide) (by simp;omega) ?_;intro c9 nE w9 qY nD jM);have hW2:=aBp.alloc hszz (.cells #[.slice a18 Wt.length iM] 42);have qC:=fun k=>(World.ownsRow.lt HO.out k)
                 have hux:aH (wy.alloc (.cells #[.slice a18 Wt.length iM] 42)) (fun k=>Value.ownBlock (.slice a15 us.length aQw)=some k) (.slice a18 Wt.length iM) Wt :=
                  aH.below (aH.of (aJ.reads HOx.out) lr (fun k h1 _ e=>by have h2:=(qC k e).2;rw[HXE.out] at h2;omega)) (zr.alloc lr _) (fun _ _ e=>e)
                 have yA:=Ma.kF HRs.out hW2 hux nD jM;have uJ:=(HBz.out.trans (hW2.mono (by omega))).grown nD (by simp;omega) (fun k e=>(qC k e).1);clear hux hW2 qC qZ lM;exact⟨⟨i+1,us++[.slice a18 Wt.length iM],rows++[Wt],by omega,by simp,by simpa using qY,yA,uJ,by simp[HRL.out],zh aXs.out⟩,by simp[intOf];omega⟩
          · obtain rfl:i=n:=by omega
            have q1:decide ((i:Int)<(i:Int))=false:=decide_eq_false (by omega);have hall:rows=allM D T ⟨(i:Int),sh,back⟩ s:=by
             rw[HRW.out];unfold allM yC aEs;rw[HES.out,← HMM.out];rfl
            rw[hall] at hRs;have hr9:=hRs.keep lr (fun _ _ _=>rfl) (bad':=fun _=>False) (fun _ _ e=>e.elim);have hz2:=vY.out.size;have hCC:=HC.out;have hfin:Below B w wz:=(vX.out.trans (HB2.out.mono bQg)).trans ((vY.out.mono (by omega)).trans ((dJ.out.mono (by omega)).trans (hB.mono (by omega))));have HF1:=zh hfin;have pV:=zh (aGk hO (show B≤C+1 by omega));have HF3:=zh hr9;clear hall hRs hr9 hz2 hCC hfin hO hB;go_wp2_with fail;refine bodyPost_ret (v:=.tuple #[.slice a15 us.length aQw,.int .i64 0]) (by simp[results,Tryz.f172]) rfl ?_;unfold aQv;rw[HB.out];exact⟨_,us,rfl,pV.out,HF3.out,HF1.out⟩
  · exact absurd HG.out hbad
