import Derived.Test.YtcgnajeenflfaaaGreatDoorP27
set_option maxRecDepth 100000
set_option maxHeartbeats 4000000
set_option linter.all false
open Go.Proofs.Tryz Go.RowKit
namespace Go.Proofs.YtcgnajeenflfaaaGreatDoor
namespace V
theorem aRk:(prog.info? 34).map (fun i=>(i.zero,i.size,i.bytes))=some (some .nilIface,1,16):=by kernel_rfl
def pE (w:World) (base:Nat) (g:Option Nat) (l:List Pt) (us:List Value):Prop :=
 us.length=l.length∧∀ j (h:j<l.length),∃ u lo hi,us[j]?=some u∧VI w lo hi l[j] u∧base≤lo∧hi≤w.heap.size∧∀ k,g=some k→k<lo∨hi≤k
theorem pE.nil (w:World) (base:Nat) (g:Option Nat):pE w base g [] []:=⟨rfl,fun j h=>by cases h⟩
theorem pE.below {w w':World} {base:Nat} {g:Option Nat} {l:List Pt} {us:List Value} (h:pE w base g l us) (hb:Below w.heap.size w w'):pE w' base g l us :=
 ⟨h.1,fun j hj=>by
  obtain⟨u,lo,hi,h1,h2,h3,h4,h5⟩:=h.2 j hj;exact⟨u,lo,hi,h1,h2.same (Same.of_below hb h4),h3,Nat.le_trans h4 hb.size,h5⟩⟩
theorem pE.snoc {w w':World} {base g lo hi:Nat} {v:Value} {l:List Pt} {us:List Value} {p:Pt} {u:Value} (h:pE w base v.ownBlock l us) (hu:VI w lo hi p u) (h1:base≤lo) (h2:hi≤w.heap.size)
 (hv:∀ k,v.ownBlock=some k→k<lo∨hi≤k) (hg:w.grownBy w' v.ownBlock) (hw:v.ownBlock=some g∨w.heap.size≤g):pE w' base (some g) (l++[p]) (us++[u]):=by
 have same:∀ lo hi,hi≤w.heap.size→(∀ k,v.ownBlock=some k→k<lo∨hi≤k)→Same lo hi w w':=fun lo hi a b k c d=>hg.block k (by omega) (fun e=>by have:=b k e.symm;omega)
 have out:∀ lo hi,hi≤w.heap.size→(∀ k,v.ownBlock=some k→k<lo∨hi≤k)→∀ k,some g=some k→k<lo∨hi≤k:=fun lo hi a b k e=>by
  have e:=Option.some.inj e;subst e;rcases hw with e | e
  · exact b _ e
  · exact .inr (by omega)
 refine⟨by simp[h.1],fun j hj=>?_⟩;by_cases hjl:j<l.length
 · obtain⟨x,lo2,hi2,a1,a2,a3,a4,a5⟩:=h.2 j hjl;refine⟨x,lo2,hi2,?_,?_,a3,Nat.le_trans a4 hg.size,out _ _ a4 a5⟩
   · rw[List.getElem?_append_left (by rw[h.1];exact hjl)];exact a1
   · rw[List.getElem_append_left hjl];exact a2.same (same _ _ a4 a5)
 · have hje:j=l.length:=by simp at hj;omega
   subst hje;refine⟨u,lo,hi,?_,?_,h1,Nat.le_trans h2 hg.size,out _ _ h2 hv⟩
   · rw[List.getElem?_append_right (by rw[h.1];exact Nat.le_refl _),h.1];simp
   · rw[List.getElem_append_right lr];simpa using hu.same (same _ _ h2 hv)
theorem qA {w w':World} (h:Below w.drew.heap.size w.drew w'):Below w.heap.size w w':=⟨h.os,h.tape,h.output,h.size,h.block⟩
theorem one_cell (w:World) (x:Value) (T:TypeId):∀ j u,[x][j]?=some u→(w.alloc (.cells #[x] T)).cell? ((⟨w.heap.size,0,none⟩:Addr).add j)=some u:=by
 intro j u hj;match j,hj with
 | 0,hj=>simp at hj;subst hj;simp[Addr.add]
theorem own_below {w w':World} {base:Nat} {e:TypeId} {v:Value} {n:Nat} {us:List Value} (h:w.ownsRow base e 1 v n us) (hb:Below w.heap.size w w'):w'.ownsRow base e 1 v n us:=by
 refine⟨h.1,?_⟩;rcases h.2 with hn | ⟨g,cap,cur,rfl,hg,hgg,rest⟩
 · exact .inl hn
 · exact .inr ⟨g,cap,cur,rfl,hg,(hb.block g (Array.getElem?_eq_some_iff.1 hgg).1).trans hgg,rest⟩
theorem aKr {w w3:World} {ob:Obj} {base:Nat} {e:TypeId} {v u:Value} {n b o:Nat} {us:List Value} (h:w.ownsRow base e 1 v n us) (hg:(w.alloc ob).grownBy w3 v.ownBlock) (hb:b<base) (hc:w.cell? ⟨b,o,none⟩=some u):w3.cell? ⟨b,o,none⟩=some u:=by
 have hlt:b<w.heap.size:=World.block_lt_of_cell? w _ hc;refine(World.cell?_of_block (hg.block b (by simp;omega) (fun e=>by have:=(World.ownsRow.lt h b e.symm).1;omega))).trans ?_;exact(World.cell?_of_block (Below.heap_alloc w ob b hlt)).trans hc
theorem aCk {w w3:World} {ob:Obj} {base:Nat} {e:TypeId} {v:Value} {n b o:Nat} {us:List Value} (h:w.ownsRow base e 1 v n us) (hg:(w.alloc ob).grownBy w3 v.ownBlock) (hb:b<base) (hlt:b<w.heap.size) (hc:w.frozen? ⟨b,o,none⟩=false):w3.frozen? ⟨b,o,none⟩=false:=by
 refine(World.frozen?_of_block (hg.block b (by simp;omega) (fun e=>by have:=(World.ownsRow.lt h b e.symm).1;omega))).trans ?_;exact(World.frozen?_of_block (Below.heap_alloc w ob b hlt)).trans hc
theorem wY {p:Pt} (h:aL p=true) (h7:p.kind=7):p.items.length≤1024:=by
 have h1:=bE h;unfold fB at h1;simp only [h7,Bool.and_eq_true] at h1;have h2:=h1.2;simp at h2;exact h2.2
theorem VI.aHp {w:World} {lo hi:Nat} {p:Pt} {v:Value} (h:VI w lo hi p v) (h0:p.kind≠0):∃ T V,v=.iface T V:=by
 cases h with
 | null _ h=>omega
 | truth _ h=>exact⟨_,_,rfl⟩
 | whole _ h=>exact⟨_,_,rfl⟩
 | row _ h _ _ _=>exact⟨_,_,rfl⟩
 | tuple _ h _ _ _ _ _ _=>exact⟨_,_,rfl⟩
theorem aFm {W1 w2 w3:World} {T g cap k:Nat} {s x y:Value} {q:Pt} {l:List Pt} {us:List Value} (ob:Obj) (jX:W1.ownsRow (T+1) 34 1 s k us) (hV1:pE W1 (T+1) s.ownBlock l us)
 (hx:VI w2 W1.heap.size w2.heap.size q x) (hb2:Below W1.heap.size W1 w2) (hg:(w2.alloc ob).grownBy w3 s.ownBlock) (hl:s.ownBlock=some g∨g=(w2.alloc ob).heap.size)
 (hO3:w3.ownsRow (T+1) 34 1 (.slice (some ⟨g,0,none⟩) (k+1) cap) (k+1) (us++[x])) (hT:T+1≤W1.heap.size) :
 (w3.setCell ⟨T,0,none⟩ y).ownsRow (T+1) 34 1 (.slice (some ⟨g,0,none⟩) (k+1) cap) (k+1) (us++[x])∧pE (w3.setCell ⟨T,0,none⟩ y) (T+1) (some g) (l++[q]) (us++[x]) ∧
  Below T W1 (w3.setCell ⟨T,0,none⟩ y)∧W1.heap.size≤(w3.setCell ⟨T,0,none⟩ y).heap.size:=by
 have hba:Below W1.heap.size W1 (w2.alloc ob):=hb2.alloc hb2.size ob;have hown:∀ k,s.ownBlock=some k→T+1≤k∧k<W1.heap.size:=World.ownsRow.lt jX;have hV:=hV1.below hba;have hxa:VI (w2.alloc ob) W1.heap.size w2.heap.size q x:=hx.same (Same.of_below ((Below.refl w2.heap.size w2).alloc lr ob) lr);have hV3:=pE.snoc (v:=s) (g:=g) hV hxa hT (by simp) (fun k hk=>.inl (hown k hk).2) hg (by rcases hl with h | h;exact .inl h;exact .inr (Nat.le_of_eq h.symm));refine⟨ownsRow_setCell_below hO3 (by simp) y,⟨hV3.1,fun j hj=>?_⟩,?_,?_⟩
 · obtain⟨u,lo,hi,h1,h2,h3,h4,h5⟩:=hV3.2 j hj;exact⟨u,lo,hi,h1,h2.same (fun k a b=>Below.heap_setCell _ _ _ _ (by simp;omega)),h3,by simpa[World.setCell] using h4,h5⟩
 · exact(((hba.mono (B':=T) (by omega)).grown hg (by have:=hb2.size;simp;omega) (fun k hk=>by have:=hown k hk;omega))).setCell lr y
 · have h1:=hg.size;have h2:=hb2.size;have h3:(w2.alloc ob).heap.size=w2.heap.size+1:=by simp
   have h4:(w3.setCell ⟨T,0,none⟩ y).heap.size=w3.heap.size:=by simp[World.setCell]
   omega
def aKs (p:Pt) (w:World) (e:Ending) (w':World):Prop:=∃ u,e=.returned u∧VI w' w.heap.size w'.heap.size p u∧Below w.heap.size w w'
theorem wZ {p:Pt} {w:World} {u:Value} (h:VI w w.heap.size w.heap.size p u) (ob:Obj) (_h1:True) (_h2:True):aKs p w (.returned u) (w.alloc ob) :=
 ⟨u,rfl,(h.same (fun k a b=>by omega)).wide lr (by simp),zr.alloc lr _⟩
theorem aTr {p:Pt} (h:aL p=true):p.kind≤7:=by
 have h1:=bE h;unfold fB at h1;simp only [Bool.and_eq_true,decide_eq_true_eq] at h1;exact h1.1.1.1.1
theorem aKt {w:World} {base:Nat} {e:TypeId} {v:Value} {n:Nat} {us:List Value} (h:w.ownsRow base e 1 v n us):∃ a cap,v=.slice a n cap:=by
 rcases h.2 with ⟨rfl,rfl⟩ | ⟨g,cap,cur,rfl,_⟩
 · exact⟨none,0,rfl⟩
 · exact⟨_,cap,rfl⟩
theorem aOj {w:World} {base:Nat} {p:Pt} {s:Value} {us:List Value} (h7:p.kind=7) (hO:w.ownsRow base 34 1 s p.items.length us) (hV:pE w base s.ownBlock p.items us) :
 VI w base w.heap.size p (.iface 118 (.agg #[s])):=by
 have hd:∀ j (h:j<p.items.length),VI w base w.heap.size p.items[j] (us.getD j .nilIface):=fun j hj=>by
  obtain⟨u,lo,hi,h1,h2,h3,h4,_⟩:=hV.2 j hj;rw[List.getD,h1];exact h2.wide h3 h4
 rcases hO.2 with ⟨rfl,hn⟩ | ⟨g,cap,cur,rfl,hg,hgg,hnc,_⟩
 · rw[show Value.slice none 0 0=Value.slice none p.items.length 0 from by rw[hn]];exact VI.tuple p h7 none 0 (fun j=>us.getD j .nilIface) (by omega) (fun j hj=>by omega) hd
 · refine VI.tuple p h7 _ cap (fun j=>us.getD j .nilIface) hnc (fun j hj=>⟨g,rfl,hg,(Array.getElem?_eq_some_iff.1 hgg).1,?_⟩) hd;have hj2:j<us.length:=by rw[hV.1];exact hj
   have:=World.ownsRow.cells hO (g:=g) rfl j (us.getD j .nilIface) (by rw[List.getD,List.getElem?_eq_getElem hj2];rfl);have e:(⟨g,0,none⟩:Addr).add j=⟨g,j,none⟩:=by unfold Addr.add;split<;>simp_all
   rw[e] at this;exact this
theorem aYt (p:Pt):∀ (v:Value) (w:World),aL p=true→Fit p→PI w 0 w.heap.size p.items v →
 Calls prog 56 #[.agg #[.int .u8 p.kind,.bool p.yes,.bool p.neg,.string p.mag,.string p.raw,v]] w (aKs p w):=by
 induction p using Pt.ind with
 | h p ih =>
 intro v w hmay hf hp;obtain⟨a,cap,rfl,_,hat⟩:=hp.open;by_cases h7:p.kind=7
 · have e0:((p.kind:Int)==0)=false:=beq_eq_false_iff_ne.2 (by omega);have e1:((p.kind:Int)==1)=false:=beq_eq_false_iff_ne.2 (by omega);have e2:((p.kind:Int)==2)=false:=beq_eq_false_iff_ne.2 (by omega);have e7:((p.kind:Int)==7)=true:=beq_iff_eq.2 (by omega);have HA:=zh hat;have IH:=zh ih;have hlen:=wY hmay h7;have HM:=zh hmay;have H7:=zh h7;have hl:=hf.l;clear hat ih hp hmay h7;go_enter func56,ntmps56;go_wp2_with fail;go_loopw [27] (fun i wr=>∃ (k:Nat) (s:Value) (us:List Value),k≤p.items.length∧i=.int .i64 k∧wr.cell? ⟨w.heap.size+1,0,none⟩=some s∧wr.frozen? ⟨w.heap.size+1,0,none⟩=false ∧
    wr.ownsRow (w.heap.size+2) 34 1 s k us∧RowKit.Hid (pE wr (w.heap.size+2) s.ownBlock (p.items.take k) us)∧Below w.heap.size w wr∧w.heap.size+2≤wr.heap.size) (fun i _=>p.items.length-(intOf i).toNat)
   case atStart=>exact⟨0,.slice none 0 0,[],Nat.zero_le _,rfl,by simp,by simp,World.ownsRow_nil _ _ _ _,pE.nil _ _ _,(zr.alloc lr _).alloc (by simp) _,by simp⟩
   case round =>
    obtain⟨k,s,us,hkl,rfl,hts,htf,hO,HV,hB,hsz⟩:=hrel;by_cases hlt:k<p.items.length
    · have q3:decide (k<p.items.length)=true:=by simpa using hlt
      obtain⟨b,off,u,rfl,_,hb,hc,hfit,hpi⟩:=HA.out k hlt;obtain⟨d0,d1,d2,d3,d4,d5⟩:=hc.same (Same.of_below hB lr) (Nat.zero_le _) hb;have hmem:p.items[k]∈p.items:=List.getElem_mem _;have hmq:=zh (dW HM.out hmem);obtain⟨q,hq⟩:∃ q,p.items[k]=q:=⟨_,rfl⟩
      rw[hq] at d0 d1 d2 d3 d4 hfit hpi hmem hmq;have HQ:=zh hq;clear hq;obtain⟨a2,cap2,rfl,_,_⟩:=hpi.open;have hpi2:=zh hpi;clear hc hpi;go_wp2_with fail;obtain⟨W1,hW1⟩:∃ W1,W1=wr.alloc (.cells #[.int .u8 q.kind,.bool q.yes,.bool q.neg,.string q.mag,.string q.raw,.slice a2 q.items.length cap2] 57):=⟨_,rfl⟩
      have hB1:Below wr.heap.size wr W1:=by rw[hW1];exact zr.alloc lr _
      have jX:W1.ownsRow (w.heap.size+2) 34 1 s k us:=by rw[hW1];exact hO.alloc _
      have hV1:=zh (HV.out.below hB1);have t1:W1.cell? ⟨w.heap.size+1,0,none⟩=some s:=keep hB1 (by omega) hts;have t2:W1.frozen? ⟨w.heap.size+1,0,none⟩=false:=(hB1.frozen (p:=⟨w.heap.size+1,0,none⟩) (by simp;omega)).trans htf;have x0:W1.cell? ⟨wr.heap.size,0,none⟩=some (.int .u8 q.kind):=by rw[hW1];simp
      have x1:W1.cell? ⟨wr.heap.size,1,none⟩=some (.bool q.yes):=by rw[hW1];simp
      have x2:W1.cell? ⟨wr.heap.size,2,none⟩=some (.bool q.neg):=by rw[hW1];simp
      have x3:W1.cell? ⟨wr.heap.size,3,none⟩=some (.string q.mag):=by rw[hW1];simp
      have x4:W1.cell? ⟨wr.heap.size,4,none⟩=some (.string q.raw):=by rw[hW1];simp
      have x5:W1.cell? ⟨wr.heap.size,5,none⟩=some (.slice a2 q.items.length cap2):=by rw[hW1];simp
      have hBW:Below w.heap.size w W1:=hB.trans (hB1.mono (by omega));have bKv:=zh (show PI W1.drew 0 W1.drew.heap.size q.items (.slice a2 q.items.length cap2) from hpi2.out.later hBW.drew);have hWs:w.heap.size+2≤W1.heap.size:=by have:=hB1.size;omega
      have hWa:w.heap.size+1<w.heap.size+2:=by omega
      have hWl:w.heap.size+1<W1.heap.size:=by omega
      rw[← hW1];clear hW1 hB1 hB hO HV hts htf d0 d1 d2 d3 d4 d5 hb hpi2;obtain⟨i0,hi,hz0,hz1,hz2⟩:=info_parts aRk;by_cases hq0:q.kind=0
      · have HQ0:=zh hq0;clear hq0;go_region_law (first
         | (go_simp;go_at_call 56;refine(IH.out q hmem _ _ hmq.out hfit (by exact bKv.out)).mono ?_;rintro e w2 ⟨x,rfl,hx,hb0⟩;have hb2:=qA hb0;have hxe:=hx.mP HQ0.out;rw[hxe] at hx ⊢;clear hxe;have hx2:=zh hx;have hO2:=own_below jX hb2;have s2:=keep hb2 hWl t1;have f2:w2.frozen? ⟨w.heap.size+1,0,none⟩=false:=(hb2.frozen (p:=⟨w.heap.size+1,0,none⟩) hWl).trans t2;have hWm:w.heap.size+1<w2.heap.size:=Nat.lt_of_lt_of_le hWl hb2.size;clear hx)
         | (refine step_append_lies _ rfl (.tmp 32) (.tmp 35) 74 rfl (w.heap.size+2) 34 i0 .nilIface 1 16 underlying74 hi hz0 hz1 hz2 rfl (by decide) s k us (by simp[Act.eval,Act.put]) (hO2.alloc _) ⟨w2.heap.size,0,none⟩ 1 1 [.nilIface] (by simp[Act.eval,Act.put]) rfl (one_cell w2 _ _) (by intro y hy;simp at hy;subst hy;rfl) (by decide) (by unfold maxLen;omega) (by omega) (by simp;omega) _ rfl ?_;intro g oM w3 hO3 hg3 hlies hgl;have s3:=aKr hO2 hg3 hWa s2;have f3:=aCk hO2 hg3 hWa hWm f2))
        all_goals
         go_wp2_with fail;have ST:=aFm _ jX hV1.out hx2.out hb2 hg3 hlies hO3 (by omega) (y:=.slice (some ⟨g,0,none⟩) (k+1) oM);have HT:p.items.take (k+1)=p.items.take k++[q]:=by rw[List.take_succ_eq_append_getElem hlt,HQ.out]
         refine⟨⟨k+1,.slice (some ⟨g,0,none⟩) (k+1) oM,_,by omega,rfl,World.cell?_setCell_same w3 _ _ s3,(World.frozen?_setCell ..).trans f3,ST.1,zh (by rw[HT];exact ST.2.1),hBW.trans (ST.2.2.1.mono (by omega)),by have:=ST.2.2.2;omega⟩,by simp[intOf];omega⟩
      · have HQ0:=zh hq0;clear hq0;go_region_law (first
         | (go_simp;go_at_call 56;refine(IH.out q hmem _ _ hmq.out hfit (by exact bKv.out)).mono ?_;rintro e w2 ⟨x,rfl,hx,hb0⟩;have hb2:=qA hb0;obtain⟨T0,V0,hxe⟩:=hx.aHp HQ0.out;rw[hxe] at hx ⊢;clear hxe;have hx2:=zh hx;have hO2:=own_below jX hb2;have s2:=keep hb2 hWl t1;have f2:w2.frozen? ⟨w.heap.size+1,0,none⟩=false:=(hb2.frozen (p:=⟨w.heap.size+1,0,none⟩) hWl).trans t2;have hWm:w.heap.size+1<w2.heap.size:=Nat.lt_of_lt_of_le hWl hb2.size;clear hx)
         | (refine step_append_lies _ rfl (.tmp 32) (.tmp 35) 74 rfl (w.heap.size+2) 34 i0 .nilIface 1 16 underlying74 hi hz0 hz1 hz2 rfl (by decide) s k us (by simp[Act.eval,Act.put]) (hO2.alloc _) ⟨w2.heap.size,0,none⟩ 1 1 [.iface T0 V0] (by simp[Act.eval,Act.put]) rfl (one_cell w2 _ _) (by intro y hy;simp at hy;subst hy;rfl) (by decide) (by unfold maxLen;omega) (by omega) (by simp;omega) _ rfl ?_;intro g oM w3 hO3 hg3 hlies hgl;have s3:=aKr hO2 hg3 hWa s2;have f3:=aCk hO2 hg3 hWa hWm f2))
        all_goals
         go_wp2_with fail;have ST:=aFm _ jX hV1.out hx2.out hb2 hg3 hlies hO3 (by omega) (y:=.slice (some ⟨g,0,none⟩) (k+1) oM);have HT:p.items.take (k+1)=p.items.take k++[q]:=by rw[List.take_succ_eq_append_getElem hlt,HQ.out]
         refine⟨⟨k+1,.slice (some ⟨g,0,none⟩) (k+1) oM,_,by omega,rfl,World.cell?_setCell_same w3 _ _ s3,(World.frozen?_setCell ..).trans f3,ST.1,zh (by rw[HT];exact ST.2.1),hBW.trans (ST.2.2.1.mono (by omega)),by have:=ST.2.2.2;omega⟩,by simp[intOf];omega⟩
    · have q3:decide (k<p.items.length)=false:=by simpa using hlt
      have bGs:k=p.items.length:=by omega
      have hT:p.items.take k=p.items:=List.take_of_length_le (by omega);rw[hT] at HV;obtain⟨a9,nE,hs9⟩:=aKt hO;have hVI:=zh (aOj H7.out (bGs▸hO) HV.out);rw[hs9] at hts hVI;rw[bGs] at hts hVI;clear hT hO HV hs9;subst bGs;go_wp2_with fail;go_ret;exact⟨_,rfl,hVI.out.wide (by omega) lr,hB⟩
 · have hk:=aTr hmay;have H7:=zh h7;rcases (show p.kind=0∨p.kind=1∨p.kind=2∨(p.kind≠0∧p.kind≠1∧p.kind≠2∧p.kind≠7) by omega) with h | h | h | ⟨h0,h1,h2,h7⟩
   · have HV:=zh (VI.null (w:=w) (lo:=w.heap.size) (hi:=w.heap.size) p h);have e0:((p.kind:Int)==0)=true:=beq_iff_eq.2 (by omega);clear h h7 hmay;go_enter func56,ntmps56;go_wp2_with fail;go_ret;exact wZ HV.out _ (by simp) (by simp)
   · have HV:=zh (VI.truth (w:=w) (lo:=w.heap.size) (hi:=w.heap.size) p h);have e0:((p.kind:Int)==0)=false:=beq_eq_false_iff_ne.2 (by omega);have e1:((p.kind:Int)==1)=true:=beq_iff_eq.2 (by omega);clear h h7 hmay;go_enter func56,ntmps56;go_wp2_with fail;go_ret;exact wZ HV.out _ (by simp) (by simp)
   · have HV:=zh (VI.whole (w:=w) (lo:=w.heap.size) (hi:=w.heap.size) p h);have e0:((p.kind:Int)==0)=false:=beq_eq_false_iff_ne.2 (by omega);have e1:((p.kind:Int)==1)=false:=beq_eq_false_iff_ne.2 (by omega);have e2:((p.kind:Int)==2)=true:=beq_iff_eq.2 (by omega);clear h h7 hmay;go_enter func56,ntmps56;go_wp2_with fail;go_ret;exact wZ HV.out _ (by simp) (by simp)
   · have HV:=zh (VI.row (w:=w) (lo:=w.heap.size) (hi:=w.heap.size) p h0 h1 h2 h7);have e0:((p.kind:Int)==0)=false:=beq_eq_false_iff_ne.2 (by omega);have e1:((p.kind:Int)==1)=false:=beq_eq_false_iff_ne.2 (by omega);have e2:((p.kind:Int)==2)=false:=beq_eq_false_iff_ne.2 (by omega);have e7:((p.kind:Int)==7)=false:=beq_eq_false_iff_ne.2 (by omega);clear h0 h1 h2 h7 hmay;go_enter func56,ntmps56;go_wp2_with fail;go_ret;exact wZ HV.out _ (by simp) (by simp)
theorem pF {p:Pt} (h:bW p=0):dH 16 p=false∧aL p=true:=by
 unfold bW at h;cases hd:dH 16 p with
 | true=>rw[hd] at h;simp at h
 | false =>
  rw[hd] at h;cases hm:aL p with
  | true=>exact⟨rfl,rfl⟩
  | false=>rw[hm] at h;simp at h
theorem sH {p:Pt} (h:bW p=0):aW p≤16:=by
 have h1:=(pF h).1;have h2:=sV 16 p;rcases Nat.lt_or_ge 16 (aW p) with h3 | h3
 · rw[h2.2 h3] at h1;cases h1
 · exact h3
theorem aAa (p:Pt):bW p=0∨bW p=90∨bW p=91:=by
 unfold bW;split
 · exact .inr (.inr rfl)
 · split
   · exact .inl rfl
   · exact .inr (.inl rfl)
structure Box (w:World) (g:Nat) (p:Pt) (v:Value):Prop where
 lt:g<w.heap.size
 cells:bY w g 0 p v
theorem Box.new (w:World) (p:Pt) (v:Value) (T:TypeId):Box (w.alloc (.cells #[.int .u8 p.kind,.bool p.yes,.bool p.neg,.string p.mag,.string p.raw,v] T)) w.heap.size p v :=
 ⟨by simp,by constructor<;>simp⟩
theorem Box.later {w w1:World} {g B:Nat} {p:Pt} {v:Value} (h:Box w g p v) (hb:Below B w w1) (hB:g<B):Box w1 g p v :=
 ⟨Nat.lt_of_lt_of_le h.lt hb.size,h.cells.same (Same.of_below hb lr) (Nat.zero_le _) hB⟩
def aYu (p:Pt) (w:World) (e:Ending) (w':World):Prop:=∃ u,e=.returned (.tuple #[u,.int .i64 (bW p)])∧(bW p≠0→u=.nilIface)∧(bW p=0→VI w' w.heap.size w'.heap.size p u)∧Below w.heap.size w w'
theorem aCl (p:Pt) (v:Value) (w:World) (hf:Fit p) (hp:PI w 0 w.heap.size p.items v) :
 Calls prog 32 #[.agg #[.int .u8 p.kind,.bool p.yes,.bool p.neg,.string p.mag,.string p.raw,v]] w (aYu p w):=by
 have hp0:=zh hp;obtain⟨a,cap,rfl,_,_⟩:=hp.open;have hbx:=zh (Box.new w p (.slice a p.items.length cap) 57);clear hp;go_enter func32,ntmps32;go_wp2_with fail;refine(aYe 16 p _ _ (by omega) hf (hp0.out.later (zr.alloc lr _))).mono ?_;rintro e w1 ⟨rfl,hb1⟩;have hB1:Below w.heap.size w w1:=(zr.alloc lr _).trans (hb1.mono (by simp));have lW:=zh (hbx.out.later hb1 (by simp));obtain⟨_,⟨c0,c1,c2,c3,c4,c5⟩⟩:=lW.out;clear hb1 hbx;cases hd:dH 16 p with
 | true =>
  have HM:=zh (show bW p=91 by simp[bW,hd]);clear hd;go_wp2_with fail;go_ret2
  exact⟨.nilIface,by rw[HM.out];rfl,fun _=>rfl,(fun h=>by rw[HM.out] at h;cases h),hB1⟩
 | false =>
  have hm0:bW p=if aL p then 0 else 90:=by simp[bW,hd]
  clear hd;go_wp2_with fail;refine(bCx p _ _ hf (hp0.out.later hB1)).mono ?_;rintro e w2 ⟨rfl,hb2⟩;have hB2:=two hB1 hb2;have qK:=zh (lW.out.later hb2 lW.out.lt);clear c0 c1 c2 c3 c4 c5;obtain⟨_,⟨c0,c1,c2,c3,c4,c5⟩⟩:=qK.out;cases hd:aL p with
  | true =>
   have HM:=zh (show bW p=0 by rw[hm0,hd];rfl);have HY:=zh hd;clear hd hm0;go_wp2_with fail;refine(aYt p _ _ HY.out hf (hp0.out.later hB2)).mono ?_;rintro e w3 ⟨u,rfl,hu,hb3⟩;have HU:=zh hu;have hz:w.heap.size≤w2.heap.size:=hB2.size;clear hu;go_wp2_with fail;go_ret2
   exact⟨u,by rw[HM.out];rfl,fun h=>absurd HM.out h,fun _=>HU.out.wide hz lr,two hB2 hb3⟩
  | false =>
   have HM:=zh (show bW p=90 by rw[hm0,hd];rfl);clear hd hm0;go_wp2_with fail;go_ret2
   exact⟨.nilIface,by rw[HM.out];rfl,fun _=>rfl,(fun h=>by rw[HM.out] at h;cases h),hB2⟩
structure pG (w:World) (b o:Nat):Prop where
 c0:w.cell? ⟨b,o,none⟩=some (.int .u8 99)
 c1:w.cell? ⟨b,o+1,none⟩=some (.bool false)
 c2:w.cell? ⟨b,o+2,none⟩=some (.bool false)
 c3:w.cell? ⟨b,o+3,none⟩=some (.string ⟨#[]⟩)
 c4:w.cell? ⟨b,o+4,none⟩=some (.string ⟨#[109,97,114,107]⟩)
 c5:w.cell? ⟨b,o+5,none⟩=some (.slice none 0 0)
theorem pG.same {lo hi b o:Nat} {w w':World} (h:pG w b o) (hs:Same lo hi w w') (h1:lo≤b) (h2:b<hi):pG w' b o :=
 ⟨hs.cell h1 h2 h.c0,hs.cell h1 h2 h.c1,hs.cell h1 h2 h.c2,hs.cell h1 h2 h.c3,hs.cell h1 h2 h.c4,hs.cell h1 h2 h.c5⟩
inductive vL (w:World) (m:Bool):Nat→Nat→List Pt→Value→Prop
 | nil (lo hi:Nat) (hm:m=false):vL w m lo hi [] (.slice none 0 0)
 | row (lo hi:Nat) (l:List Pt) (g cap:Nat) (cur:Array Value) (F:Nat→Value) (L H:Nat→Nat) (h1:lo≤g) (h2:g<hi) (blk:w.heap[g]?=some (.cells cur 57 (0,0))) (hcap:l.length≤cap)
  (hsz:cur.size=cap*6) (hmax:cap≤maxLen) (cells:∀ j (h:j<l.length),bY w g (j*6) l[j] (F j)) (fits:∀ j (h:j<l.length),Fit l[j])
  (rng:∀ j,j<l.length→lo≤L j∧L j≤H j∧H j≤hi∧¬ (L j≤g∧g<H j)) (apart:∀ i j,i<j→j<l.length→H i≤L j)
  (room:m=true→cap=l.length+2∧pG w g (l.length*6)∧pG w g (l.length*6+6))
  (deep:∀ j (h:j<l.length),vL w m (L j) (H j) l[j].items (F j)):vL w m lo hi l (.slice (some ⟨g,0,none⟩) l.length cap)
theorem vL.same {m:Bool} {lo hi:Nat} {w w':World} {l:List Pt} {v:Value} (h:vL w m lo hi l v) (hs:Same lo hi w w'):vL w' m lo hi l v:=by
 induction h with
 | nil lo hi hm=>exact .nil lo hi hm
 | row lo hi l g cap cur F L H h1 h2 blk hcap hsz hmax cells fits rng apart room deep ih =>
  exact .row lo hi l g cap cur F L H h1 h2 ((hs g h1 h2).trans blk) hcap hsz hmax (fun j hj=>(cells j hj).same hs h1 h2) fits rng apart
   (fun hm=>⟨(room hm).1,(room hm).2.1.same hs h1 h2,(room hm).2.2.same hs h1 h2⟩) (fun j hj=>ih j hj (hs.mono (rng j hj).1 (rng j hj).2.2.1))
theorem vL.wide {m:Bool} {lo hi lo' hi':Nat} {w:World} {l:List Pt} {v:Value} (h:vL w m lo hi l v) (a:lo'≤lo) (b:hi≤hi'):vL w m lo' hi' l v:=by
 cases h with
 | nil _ _ hm=>exact .nil lo' hi' hm
 | row _ _ _ g cap cur F L H h1 h2 blk hcap hsz hmax cells fits rng apart room deep =>
  exact .row lo' hi' l g cap cur F L H (by omega) (by omega) blk hcap hsz hmax cells fits (fun j hj=>by obtain⟨r1,r2,r3,r4⟩:=rng j hj;exact⟨by omega,r2,by omega,r4⟩) apart room deep
theorem vL.reads {m:Bool} {lo hi:Nat} {w:World} {l:List Pt} {v:Value} (h:vL w m lo hi l v):PI w lo hi l v:=by
 induction h with
 | nil lo hi hm=>exact PI.nil _ _ _
 | row lo hi l g cap cur F L H h1 h2 blk hcap hsz hmax cells fits rng apart room deep ih =>
  exact .mk l _ cap F hcap (fun j hj=>⟨g,0,rfl,h1,h2,by rw[Nat.zero_add];exact cells j hj⟩) fits (fun j hj=>(ih j hj).wide (rng j hj).1 (rng j hj).2.2.1)
def flat (ps:List (Pt×Value)):List Value:=ps.flatMap fun x=>(cellsOf x.1 x.2).toList
theorem aFo (ps:List (Pt×Value)) (x:Pt×Value):flat (ps++[x])=flat ps++(cellsOf x.1 x.2).toList:=by simp[flat]
theorem flat_get (ps:List (Pt×Value)) (j c:Nat) (hc:c<6) (h:j<ps.length):(flat ps)[j*6+c]?=(cellsOf ps[j].1 ps[j].2)[c]?:=by
 induction ps generalizing j with
 | nil=>cases h
 | cons x r ih =>
  have e:flat (x::r)=(cellsOf x.1 x.2).toList++flat r:=by simp[flat]
  rw[e];cases j with
  | zero =>
   rw[Nat.zero_mul,Nat.zero_add,List.getElem?_append_left (by simpa[cellsOf] using hc)];simp
  | succ j =>
   rw[List.getElem?_append_right (by simp[cellsOf];omega)];have e2:(j+1)*6+c-(cellsOf x.1 x.2).toList.length=j*6+c:=by simp[cellsOf];omega
   rw[e2];exact ih j (by simpa using h)
theorem aCm {w:World} {base g cap n:Nat} {ps:List (Pt×Value)} (h:w.ownsRow base 57 6 (.slice (some ⟨g,0,none⟩) n cap) n (flat ps)) (j:Nat) (hj:j<ps.length):bY w g (j*6) ps[j].1 ps[j].2:=by
 have key:∀ c,c<6→w.cell? ⟨g,j*6+c,none⟩=(cellsOf ps[j].1 ps[j].2)[c]?:=fun c hc=>by
  have e:=flat_get ps j c hc hj;have e3:(cellsOf ps[j].1 ps[j].2)[c]?=some ((cellsOf ps[j].1 ps[j].2)[c]'(by simpa[cellsOf] using hc)):=Array.getElem?_eq_getElem _;rw[e3] at e ⊢;have:=World.ownsRow.cells h (g:=g) rfl (j*6+c) _ e;have e2:(⟨g,0,none⟩:Addr).add (j*6+c)=⟨g,j*6+c,none⟩:=by unfold Addr.add;split<;>simp_all
  rw[e2] at this;exact this
 exact⟨key 0 (by decide),key 1 (by decide),key 2 (by decide),key 3 (by decide),key 4 (by decide),key 5 (by decide)⟩
inductive bKw:Pt→Prop
 | mk (p:Pt) (h:Fit p) (deep:∀ q∈p.items,bKw q):bKw p
def Kids (w:World) (base:Nat) (g:Option Nat) (ps:List (Pt×Value)):Prop :=
 ∃ L H:Nat→Nat,(∀ j (h:j<ps.length),vL w false (L j) (H j) ps[j].1.items ps[j].2∧base≤L j∧L j≤H j∧H j≤w.heap.size∧(∀ k,g=some k→¬ (L j≤k∧k<H j))∧Fit ps[j].1)∧∀ i j,i<j→j<ps.length→H i≤L j
theorem Kids.nil (w:World) (base:Nat) (g:Option Nat):Kids w base g []:=⟨fun _=>0,fun _=>0,(fun j h=>by cases h),(fun i j _ h=>by cases h)⟩
theorem Kids.below {w w':World} {base:Nat} {g:Option Nat} {ps:List (Pt×Value)} (h:Kids w base g ps) (hb:Below w.heap.size w w'):Kids w' base g ps:=by
 obtain⟨L,H,h1,h2⟩:=h;refine⟨L,H,fun j hj=>?_,h2⟩;obtain⟨a,b,c,d,e,f⟩:=h1 j hj;exact⟨a.same (Same.of_below hb d),b,c,Nat.le_trans d hb.size,e,f⟩
theorem Kids.snoc {w w':World} {base g lo hi:Nat} {v:Value} {ps:List (Pt×Value)} {p:Pt} {u:Value} (hu:vL w false lo hi p.items u) (hf:Fit p) (h1:base≤lo) (h2:hi≤w.heap.size) (hlh:lo≤hi)
 (hv:∀ k,v.ownBlock=some k→k<lo) (hold:∃ w0:World,Kids w0 base v.ownBlock ps∧w0.heap.size≤lo∧Below w0.heap.size w0 w) (hg:w.grownBy w' v.ownBlock) (hw:v.ownBlock=some g∨w.heap.size≤g):Kids w' base (some g) (ps++[(p,u)]):=by
 obtain⟨w0,⟨L,H,k1,k2⟩,hw0,hb0⟩:=hold;have same:∀ lo hi,hi≤w.heap.size→(∀ k,v.ownBlock=some k→¬ (lo≤k∧k<hi))→Same lo hi w w':=fun lo hi a b k c d=>hg.block k (by omega) (fun e=>b k e.symm ⟨c,d⟩)
 have out:∀ lo hi,hi≤w.heap.size→(∀ k,v.ownBlock=some k→¬ (lo≤k∧k<hi))→∀ k,some g=some k→¬ (lo≤k∧k<hi):=fun lo hi a b k e=>by
  have e:=Option.some.inj e;subst e;rcases hw with e | e
  · exact b _ e
  · omega
 refine⟨fun j=>if j<ps.length then L j else lo,fun j=>if j<ps.length then H j else hi,fun j hj=>?_,fun i j hij hj=>?_⟩
 · by_cases hjl:j<ps.length
   · obtain⟨a,b,c,d,e,f⟩:=k1 j hjl;have hd:H j≤w.heap.size:=Nat.le_trans d hb0.size;simp only [hjl,if_true];rw[List.getElem_append_left hjl];exact⟨(a.same (Same.of_below hb0 d)).same (same _ _ hd e),b,c,Nat.le_trans hd hg.size,out _ _ hd e,f⟩
   · have hje:j=ps.length:=by simp at hj;omega
     subst hje;have hv2:∀ k,v.ownBlock=some k→¬ (lo≤k∧k<hi):=fun k hk=>by have:=hv k hk;omega
     simp only [Nat.lt_irrefl,if_false];rw[List.getElem_append_right lr];simp only [Nat.sub_self,List.getElem_cons_zero];exact⟨hu.same (same _ _ h2 hv2),h1,hlh,Nat.le_trans h2 hg.size,out _ _ h2 hv2,hf⟩
 · have hj2:j≤ps.length:=by simp at hj;omega
   have hi2:i<ps.length:=by omega
   by_cases hjl:j<ps.length
   · simp only [hi2,hjl,if_true];exact k2 i j hij hjl
   · simp only [hi2,if_true,hjl,if_false];have:=(k1 i hi2).2.2.2.1;omega
end V
namespace Sc
open We (gL lF)
open D (Dm Wf)
open Ta (Tm)
def aCn (Q:ByteArray→ByteArray→Dm→Tm→Prop) (a b:ByteArray) (w:World) (v:Value):Prop:=∃ (D:Dm) (T:Tm) (t:Addr),v=.pointer (some t)∧Wf D∧lF T∧Q a b D T∧gL w 0 w.heap.size v D T
def aYv (Q:ByteArray→ByteArray→Dm→Tm→Prop) (a b:ByteArray) (w:World) (e:Ending) (w':World):Prop :=
 ∃ (v:Value) (c:Int) (x y:Int),e=.returned (.tuple #[v,.int .i64 c,.int .i64 x,.int .i64 y])∧(c=0→aCn Q a b w' v)∧(a.size=0→b.size=0→c=0)∧Below w.heap.size w w'
def aRl (Q:ByteArray→ByteArray→Dm→Tm→Prop) (G:World→Prop):Prop:=∀ (a b:ByteArray) (w:World),G w→Calls prog 20 #[.string a,.string b] w (aYv Q a b w)
theorem aTs {Q:ByteArray→ByteArray→Dm→Tm→Prop} {G:World→Prop} (hG:∀ w w',Below w.heap.size w w'→G w→G w') (HL:aRl Q G) (a b:ByteArray) (w:World) (hw:G w) :
 Calls prog 7 #[.agg #[.string a,.string b]] w fun e w'=>(∃ v,e=.returned v∧(aCn Q a b w' v∨aCn Q a ⟨#[]⟩ w' v∨aCn Q ⟨#[]⟩ ⟨#[]⟩ w' v))∧Below w.heap.size w w':=by
 have bGt:Below w.heap.size w (w.alloc (.cells #[.string a,.string b] 23)):=zr.alloc lr _;have H1:=zh (HL a b _ (hG _ _ bGt hw));have HB0:=zh bGt;have HBX:=zh (aC.new w 23 #[.string a,.string b]);have HH:=zh (fun (x y:ByteArray) (w':World) (hb:Below w.heap.size w w')=>HL x y w' (hG _ _ hb hw));clear bGt hw hG HL;go_enter func7,ntmps7;go_wp2_with fail;refine H1.out.mono ?_;rintro e w1 ⟨v,c,x,y,rfl,h1,_,hb1⟩;have HV:=zh h1;have HB1:=zh (HB0.out.trans (hb1.mono HB0.out.size));have hx1:=aC.below HBX.out hb1 (by simp);have c0:w1.cell? ⟨w.heap.size,0,none⟩=some (.string a):=hx1.cell 0;clear h1 hb1 hx1;by_cases hc:c=0
 · have q1:(c==0)=true:=by simp[hc]
   have HO:=zh (HV.out hc);clear hc;go_wp2_with fail;refine bodyPost_ret (v:=v) (by simp[results,Tryz.f7]) rfl ?_;exact⟨⟨v,rfl,.inl HO.out⟩,HB1.out⟩
 · have q1:(c==0)=false:=by simp[hc]
   clear hc;go_wp2_with fail;refine(HH.out a ⟨#[]⟩ w1 HB1.out).mono ?_;rintro e w2 ⟨v2,c2,x2,y2,rfl,h2,_,hb2⟩;have HV2:=zh h2;have HB2:=zh (HB1.out.trans (hb2.mono HB1.out.size));clear h2 hb2;by_cases hc2:c2=0
   · have q2:(c2==0)=true:=by simp[hc2]
     have HO:=zh (HV2.out hc2);clear hc2;go_wp2_with fail;refine bodyPost_ret (v:=v2) (by simp[results,Tryz.f7]) rfl ?_;exact⟨⟨v2,rfl,.inr (.inl HO.out)⟩,HB2.out⟩
   · have q2:(c2==0)=false:=by simp[hc2]
     clear hc2;go_wp2_with fail;refine(HH.out ⟨#[]⟩ ⟨#[]⟩ w2 HB2.out).mono ?_;rintro e w3 ⟨v3,c3,x3,y3,rfl,h3,h4,hb3⟩;have HO:=zh (h3 (h4 rfl rfl));have HB3:=zh (HB2.out.trans (hb3.mono HB2.out.size));clear h3 h4 hb3;go_wp2_with fail;refine bodyPost_ret (v:=v3) (by simp[results,Tryz.f7]) rfl ?_;exact⟨⟨v3,rfl,.inr (.inr HO.out)⟩,HB3.out⟩
end Sc
namespace V
theorem bY.as_ {b o:Nat} {w w':World} {p:Pt} {v:Value} (h:bY w b o p v) (e:w'.heap[b]?=w.heap[b]?):bY w' b o p v :=
 have k:∀ {o:Nat} {x:Value},w.cell? ⟨b,o,none⟩=some x→w'.cell? ⟨b,o,none⟩=some x:=fun hc=>(World.cell?_of_block (w:=w) e).trans hc
 ⟨k h.c0,k h.c1,k h.c2,k h.c3,k h.c4,k h.c5⟩
inductive PS (w:World) (S:Nat→Prop):List Pt→Value→Prop
 | mk (l:List Pt) (a:Option Addr) (cap:Nat) (F:Nat→Value) (hc:l.length≤cap)
  (cells:∀ j (h:j<l.length),∃ b off,a=some ⟨b,off,none⟩∧S b∧b<w.heap.size∧bY w b (off+j*6) l[j] (F j))
  (fits:∀ j (h:j<l.length),Fit l[j]) (deep:∀ j (h:j<l.length),PS w S l[j].items (F j)):PS w S l (.slice a l.length cap)
theorem PS.keep {S S':Nat→Prop} {w w':World} {l:List Pt} {v:Value} (h:PS w S l v) (hz:w.heap.size≤w'.heap.size) (hk:∀ k,k<w.heap.size→S k→w'.heap[k]?=w.heap[k]?) (hS:∀ k,k<w.heap.size→S k→S' k):PS w' S' l v:=by
 induction h with
 | mk l a cap F hc cells fits deep ih =>
  exact .mk l a cap F hc (fun j hj=>by
   obtain⟨b,off,ha,h1,h2,h3⟩:=cells j hj;exact⟨b,off,ha,hS b h2 h1,Nat.lt_of_lt_of_le h2 hz,h3.as_ (hk b h2 h1)⟩) fits ih
theorem PS.nil (w:World) (S:Nat→Prop):PS w S [] (.slice none 0 0):=.mk [] none 0 (fun _=>.slice none 0 0) lr (fun j h=>by cases h) (fun j h=>by cases h) (fun j h=>by cases h)
theorem PS.form {S:Nat→Prop} {w:World} {l:List Pt} {v:Value} (h:PS w S l v):∃ a cap,v=.slice a l.length cap:=by
 cases h with
 | mk _ a cap _ _ _ _ _=>exact⟨a,cap,rfl⟩
theorem PS.reads {S:Nat→Prop} {w:World} {l:List Pt} {v:Value} (h:PS w S l v):PI w 0 w.heap.size l v:=by
 induction h with
 | mk l a cap F hc cells fits deep ih =>
  exact .mk l a cap F hc (fun j hj=>by
   obtain⟨b,off,ha,_,h2,h3⟩:=cells j hj;exact⟨b,off,ha,Nat.zero_le _,h2,h3⟩) fits ih
def bKx (w:World) (base:Nat) (pv rv:Value) (ps:List (Pt×Value)):Prop :=
 ∀ j (h:j<ps.length),PS w (fun k=>base≤k∧pv.ownBlock≠some k∧rv.ownBlock≠some k) ps[j].1.items ps[j].2∧Fit ps[j].1
def lX (w:World) (base:Nat) (pv rv:Value) (ps:List (Pt×Value)):Prop :=
 w.ownsRow base 57 6 rv ps.length (flat ps)∧(∀ k,rv.ownBlock=some k→pv.ownBlock≠some k)∧bKx w base pv rv ps
theorem lX.nil (w:World) (base:Nat) (pv:Value):lX w base pv (.slice none 0 0) []:=⟨⟨rfl,.inl ⟨rfl,rfl⟩⟩,(fun k h=>by cases h),(fun j h=>by cases h)⟩
theorem lX.form {w:World} {base:Nat} {pv rv:Value} {ps:List (Pt×Value)} (h:lX w base pv rv ps):∃ a cap,rv=.slice a ps.length cap:=aP h.1
theorem jI {w:World} {base:Nat} {e:TypeId} {size n:Nat} {v:Value} {xs:List Value} (h:w.ownsRow base e size v n xs) {k:Nat} (hk:v.ownBlock=some k):base≤k∧k<w.heap.size:=World.ownsRow.lt h k hk
theorem aAb {w w':World} {base:Nat} {e:TypeId} {size n:Nat} {v:Value} {xs:List Value} (h:w.ownsRow base e size v n xs) (hk:∀ k,v.ownBlock=some k→w'.heap[k]?=w.heap[k]?):w'.ownsRow base e size v n xs:=by
 refine⟨h.1,?_⟩;rcases h.2 with hn | ⟨g,cap,cur,rfl,hg,hgg,rest⟩
 · exact .inl hn
 · exact .inr ⟨g,cap,cur,rfl,hg,(hk g rfl).trans hgg,rest⟩
theorem lX.xv {P:Nat→Prop} {w w':World} {base:Nat} {pv pv' rv:Value} {ps:List (Pt×Value)} (h:lX w base pv rv ps) (hx:Xv P w w') (hP:∀ k,P k→k<base∨pv.ownBlock=some k)
 (hp:∀ k,pv'.ownBlock=some k→pv.ownBlock=some k∨w.heap.size≤k):lX w' base pv' rv ps:=by
 obtain⟨h1,h2,h3⟩:=h;have hr:∀ k,rv.ownBlock=some k→base≤k∧k<w.heap.size:=fun k hk=>jI h1 hk
 refine⟨aAb h1 fun k hk=>hx.block k (hr k hk).2 fun e=>?_,fun k hk hk2=>?_,fun j hj=>⟨(h3 j hj).1.keep hx.size (fun k hk hS=>hx.block k hk fun e=>?_) (fun k hk hS=>⟨hS.1,fun e=>?_,hS.2.2⟩),(h3 j hj).2⟩⟩
 · rcases hP k e with e | e
   · have:=(hr k hk).1;omega
   · exact h2 k hk e
 · rcases hp k hk2 with e | e
   · exact h2 k hk e
   · have:=(hr k hk).2;omega
 · rcases hP k e with e | e
   · have:=hS.1;omega
   · exact hS.2.1 e
 · rcases hp k e with e | e
   · exact hS.2.1 e
   · omega
theorem lX.below {w w':World} {base:Nat} {pv rv:Value} {ps:List (Pt×Value)} (h:lX w base pv rv ps) (hb:Below w.heap.size w w'):lX w' base pv rv ps :=
 h.xv (P:=fun _=>False) (Xv.of_below hb) (fun _ e=>e.elim) (fun _ e=>.inl e)
theorem lX.snoc {w w':World} {base:Nat} {pv rv rv':Value} {ps:List (Pt×Value)} {p:Pt} {u:Value} (h:lX w base pv rv ps) (bKy:∀ k,pv.ownBlock=some k→k<w.heap.size)
 (hu:PS w (fun k=>base≤k∧pv.ownBlock≠some k∧rv.ownBlock≠some k) p.items u) (hf:Fit p)
 (hown:w'.ownsRow base 57 6 rv' (ps.length+1) (flat ps++(cellsOf p u).toList)) (hg:w.grownBy w' rv.ownBlock) (hv:rv'.ownBlock=rv.ownBlock∨rv'.ownBlock=some w.heap.size):lX w' base pv rv' (ps++[(p,u)]):=by
 obtain⟨h1,h2,h3⟩:=h;have old:∀ {q:Pt} {x:Value},PS w (fun k=>base≤k∧pv.ownBlock≠some k∧rv.ownBlock≠some k) q.items x→PS w' (fun k=>base≤k∧pv.ownBlock≠some k∧rv'.ownBlock≠some k) q.items x:=fun hx =>
  hx.keep hg.size (fun k hk hS=>hg.block k hk (fun e=>hS.2.2 e.symm)) (fun k hk hS=>⟨hS.1,hS.2.1,fun e=>by
   rcases hv with e2 | e2
   · exact hS.2.2 (e2▸e)
   · rw[e2] at e;have:=Option.some.inj e;omega⟩)
 refine⟨by rw[List.length_append,aFo];exact hown,fun k hk hk2=>?_,fun j hj=>?_⟩
 · rcases hv with e | e
   · exact h2 k (e▸hk) hk2
   · rw[e] at hk;have:=Option.some.inj hk;have:=bKy k hk2;omega
 · by_cases hjl:j<ps.length
   · rw[List.getElem_append_left hjl];exact⟨old (h3 j hjl).1,(h3 j hjl).2⟩
   · have hje:j=ps.length:=by simp at hj;omega
     subst hje;rw[List.getElem_append_right lr];simp only [Nat.sub_self,List.getElem_cons_zero];exact⟨old hu,hf⟩
theorem lX.all {w:World} {base:Nat} {pv rv:Value} {ps:List (Pt×Value)} (h:lX w base pv rv ps):PS w (fun k=>base≤k∧pv.ownBlock≠some k) (ps.map Prod.fst) rv:=by
 obtain⟨h1,h2,h3⟩:=h;rcases h1.2 with ⟨rfl,hn⟩ | ⟨g,cap,cur,rfl,hg,hgg,hnc,rest⟩
 · obtain rfl:ps=[]:=List.eq_nil_of_length_eq_zero hn;exact PS.nil _ _
 · have hlen:(ps.map Prod.fst).length=ps.length:=List.length_map ..;have key:=PS.mk (w:=w) (S:=fun k=>base≤k∧pv.ownBlock≠some k) (ps.map Prod.fst) (some ⟨g,0,none⟩) cap (fun j=>if h:j<ps.length then ps[j].2 else .slice none 0 0) (by rw[hlen];exact hnc)
    (fun j hj=>by
     rw[hlen] at hj;refine⟨g,0,rfl,⟨hg,h2 g rfl⟩,(Array.getElem?_eq_some_iff.1 hgg).1,?_⟩;simp only [hj,dif_pos,List.getElem_map,Nat.zero_add];exact aCm h1 j hj)
    (fun j hj=>by
     rw[hlen] at hj;simp only [List.getElem_map];exact(h3 j hj).2)
    (fun j hj=>by
     rw[hlen] at hj;simp only [hj,dif_pos,List.getElem_map];exact(h3 j hj).1.keep lr (fun _ _ _=>rfl) (fun k _ hS=>⟨hS.1,hS.2.1⟩))
   rw[hlen] at key;exact key
end V
section
theorem aJ.pop {w:World} {base:Nat} {c:Option Addr} {n cap:Nat} {l:List Int} {x:Int} (h:aJ w base (.slice c n cap) (l++[x])):aJ w base (.slice c (n-1) cap) l:=by
 have hn:n=l.length+1:=by
  obtain⟨a,c',he⟩:=aP h;injection he with _ e _
  rw[e];simp
 subst hn;refine⟨by simp[nv],?_⟩;rcases h.2 with ⟨_,hn⟩ | ⟨g,cap',cur,he,hg,hgg,h1,h2,h3,h4⟩
 · simp at hn
 · injection he with e1 e2 e3
   subst e1 e3;refine .inr ⟨g,cap,cur,rfl,hg,hgg,by simp at h1;omega,h2,h3,?_⟩;have h5:=congrArg (List.take l.length) h4;rw[List.take_take] at h5;simp only [List.length_append,List.length_cons,List.length_nil,Nat.mul_one] at h5 ⊢;rw[Nat.min_eq_left (by omega)] at h5;rw[h5];simp[nv]
theorem aJ.xv {P:Nat→Prop} {w w':World} {base:Nat} {v:Value} {l:List Int} (h:aJ w base v l) (hx:Xv P w w') (hP:∀ k,v.ownBlock=some k→¬ P k):aJ w' base v l :=
 V.aAb h fun k hk=>hx.block k (V.jI h hk).2 (hP k hk)
theorem aJ.lt {w:World} {base:Nat} {v:Value} {l:List Int} (h:aJ w base v l) {k:Nat} (hk:v.ownBlock=some k):base≤k∧k<w.heap.size:=V.jI h hk
end
