import Derived.LaidSub
import Derived.Test.YtcgnajeenflfaaaGreatDoorP43
import Derived.Test.YtcgnajeenflfaaaGreatDoorP45
set_option maxRecDepth 100000
set_option maxHeartbeats 4000000
set_option linter.all false
open Go.Proofs.Tryz Go.RowKit
namespace Go.Proofs.YtcgnajeenflfaaaGreatDoor
namespace Rk
open V
open Sc
open We (bT lF)
open D (Dm Wf)
open Ta (Tm)
theorem aLt {L:List (Int×Pt)} {p q:Pt} (hm:aL p=true) (hd:aW p≤16) (h7:p.kind=7) (h:mapM L p=some q):aL q=true∧q.kind=7:=by
 unfold mapM at h;split at h
 · next hL =>
   cases hi:gJ p L with
   | none=>rw[hi] at h;cases h
   | some l =>
    rw[hi] at h;injection h with h
    subst h;refine⟨?_,rfl⟩;have hlen:=aCw hi;have hall:∀ r∈l,aL r=true:=by
     clear hlen hL;induction L generalizing l with
     | nil=>injection hi with hi;subst hi;intro r hr;cases hr
     | cons s t ih =>
      unfold gJ at hi;cases h1:nA p s.1 s.2 with
      | none=>rw[h1] at hi;cases hi
      | some x =>
       rw[h1] at hi;cases h2:gJ p t with
       | none=>rw[h2] at hi;cases hi
       | some m =>
        rw[h2] at hi;injection hi with hi
        subst hi;intro r hr;rcases List.mem_cons.1 hr with rfl | hr
        · exact(aFt hm hd h7 h1).1
        · exact ih _ h2 r hr
    have h1:fB (.mk 7 false false .empty .empty l)=true:=by
     unfold fB;have e:ByteArray.empty.toList=[]:=by rw[Lib.toList_data];rfl
     simp[Pt.kind,Pt.raw,Pt.items,Pt.mag,Pt.yes,Pt.neg,e,show l.length≤1024 by omega]
    rw[nI,h1];simpa[Pt.items,Pt.kind] using hall
 · cases h
theorem bAx {r:Option (List UInt8)} {fb:Nat} {w w':World} (h:r=none) (hb:Below w.heap.size w w'):tX r w (.returned (.tuple #[.string ⟨#[]⟩,.iface 39 (.pointer (some ⟨fb,0,none⟩))])) w':=by
 rw[h];exact⟨⟨fb,rfl⟩,hb⟩
theorem bEg {r:Option (List UInt8)} {l:List UInt8} {w w':World} (h:r=some l) (hb:Below w.heap.size w w'):tX r w (.returned (.tuple #[.string ⟨l.toArray⟩,.nilIface])) w':=by
 rw[h];exact⟨rfl,hb⟩
theorem bEh {D:Dm} (wf:Wf D) {T:Tm} (wt:lF T) (t:Addr) (lim jA:Int) (F F2:List Sc.Fd) (a0 b0 l0:Option Addr) (k0 k2 l1:Nat) (L:List (Int×Pt)) (key:ByteArray) (p:Pt) (w:World)
 (hl2:F2.length≤140737488351232) (hL:L.length≤140737488351232) (h7:p.kind=7) (hm:aL p=true) (hd:aW p≤16)
 (hdec:∀ w',Below w.heap.size w w'→Calls prog 8 #[.pointer (some t),.agg #[.int .i64 lim,.slice a0 F.length k0],.string key] w' fun e w''=>(∃ u,e=.returned (.tuple #[u,.nilIface])∧VI w'' w'.heap.size w''.heap.size p u)∧Below w'.heap.size w' w'')
 (htb:Tb D T t w) (hG:w.cell? ⟨1,0,none⟩=some (.iface 197 (.agg #[.pointer (some ⟨11,36,none⟩)]))) (hg:xD w) (aPu:FI w 0 w.heap.size F2 (.slice b0 F2.length k2)) (hs:nC w 0 w.heap.size L (.slice l0 L.length l1)) :
 Calls prog 13 #[.pointer (some t),.agg #[.int .i64 lim,.slice a0 F.length k0],.agg #[.int .i64 jA,.slice b0 F2.length k2],.slice l0 L.length l1,.string key] w (tX ((mapM L p).bind (encS (bT D T) jA F2)) w):=by
 obtain⟨KM,hKM⟩:∃ KM,bT D T=KM:=⟨_,rfl⟩
 obtain⟨m,hm1⟩:∃ m,F.length=m:=⟨_,rfl⟩
 obtain⟨n,hm2⟩:∃ n,F2.length=n:=⟨_,rfl⟩
 obtain⟨x,hm3⟩:∃ x,L.length=x:=⟨_,rfl⟩
 obtain⟨W,hW⟩:∃ W,w.alloc (.cells #[.int .i64 lim,.slice a0 m k0] 26)=W:=⟨_,rfl⟩
 obtain⟨W2,hW2⟩:∃ W2,W.alloc (.cells #[.int .i64 jA,.slice b0 n k2] 26)=W2:=⟨_,rfl⟩
 have b1:Below w.heap.size w W:=by rw[← hW];exact zr.alloc lr _
 have b2:Below W.heap.size W W2:=by rw[← hW2];exact zr.alloc lr _
 have hB2:Below w.heap.size w W2:=b1.trans (b2.mono b1.size);have hX2:aC W2 W.heap.size 26 #[.int .i64 jA,.slice b0 n k2]:=by rw[← hW2];exact aC.new _ _ _
 have hX1:aC W2 w.heap.size 26 #[.int .i64 lim,.slice a0 m k0]:=by
  have h:aC W w.heap.size 26 #[.int .i64 lim,.slice a0 m k0]:=by rw[← hW];exact aC.new _ _ _
  exact aC.below h b2 h.lt
 have HB2:=zh hB2;have qK:=zh hX2;have bMu:=zh (hdec W2 hB2);rw[hm1] at bMu;have bMv:=zh (fun (u:Value) (w':World) (hb:Below w.heap.size w w') (hv:VI w' 0 w'.heap.size p u)=>aRo L l0 l1 p u w' hL h7 hm hd hv (hs.later hb) (hg.later hb) (keeps hb hG));have bMw:=zh (fun (q:Pt) (u:Value) (w':World) (hb:Below w.heap.size w w') (hq:aL q=true) (hv:VI w' 0 w'.heap.size q u)=>kK wf wt t jA F2 q u b0 k2 w' hl2 hq (bV htb hb) hv (bA aPu hb));have HMM:=zh (fun (q:Pt) (h:mapM L p=some q)=>aLt hm hd h7 h);have H7:=zh h7;rw[hm2,hKM] at bMw;rw[hm3] at bMv;rw[hm1,hm2,hm3,hKM];have c0:W2.cell? ⟨w.heap.size,0,none⟩=some (.int .i64 lim):=by simpa using hX1.cell 0
 have c1:W2.cell? ⟨w.heap.size,1,none⟩=some (.slice a0 m k0):=by simpa using hX1.cell 1
 obtain⟨B,hWB⟩:∃ B,W.heap.size=B:=⟨_,rfl⟩
 rw[hWB] at qK;clear aPu htb hG hg hs hdec hX1 hX2 hB2 b1 b2 hm1 hm2 hm3 h7 hm hd;go_enter func13,ntmps13;go_wp2_with fail;refine bMu.out.mono ?_;intro e w3 hdp;obtain⟨⟨u,rfl,hu⟩,hb⟩:=hdp;have HB3:=zh (HB2.out.trans (hb.mono HB2.out.size));have uD:=zh (aC.below qK.out hb qK.out.lt);have oW:VI w3 0 w3.heap.size p u:=hu.wide (Nat.zero_le _) lr;have pK:=zh (bMv.out u w3 HB3.out oW);obtain⟨av,cv,Fv,rfl,_,_⟩:=vi7 oW H7.out;clear hb hu oW c0 c1 hW hW2;go_wp2_with fail;refine pK.out.mono ?_;intro e w4 hmp;cases hR:mapM L p with
 | none =>
  rw[hR] at hmp;obtain⟨⟨fb,rfl⟩,hb⟩:=hmp;have dJ:=zh (HB3.out.trans (hb.mono HB3.out.size));have HN:=zh (show (mapM L p).bind (encS KM jA F2)=none by rw[hR];rfl);clear hb;go_wp2_with fail;refine bodyPost_ret (v:=.tuple #[.string ⟨#[]⟩,.iface 39 (.pointer (some ⟨fb,0,none⟩))]) (by simp[results,Tryz.f13]) rfl ?_;exact bAx HN.out dJ.out
 | some q =>
  rw[hR] at hmp;obtain⟨⟨y,rfl,hy⟩,hb⟩:=hmp;obtain⟨hqm,hq7⟩:=HMM.out q hR;have dJ:=zh (HB3.out.trans (hb.mono HB3.out.size));have uE:=zh (aC.below uD.out hb uD.out.lt);have HE4:=zh (bMw.out q y w4 dJ.out hqm hy);obtain⟨ay,cy,Fy,rfl,_,_⟩:=vi7 hy hq7;have c2:w4.cell? ⟨B,0,none⟩=some (.int .i64 jA):=by simpa using uE.out.cell 0
  have c3:w4.cell? ⟨B,1,none⟩=some (.slice b0 n k2):=by simpa using uE.out.cell 1
  have HRB:=zh (show (mapM L p).bind (encS KM jA F2)=encS KM jA F2 q by rw[hR];rfl);clear hb hy hqm hq7 hR;go_wp2_with fail;refine HE4.out.mono ?_;intro e w5 hE;cases hr:encS KM jA F2 q with
  | none =>
   rw[hr] at hE;obtain⟨⟨fb,rfl⟩,hb⟩:=hE;have lJ:=zh (dJ.out.trans (hb.mono dJ.out.size));have HN:=zh hr;clear hb hr c2 c3;go_wp2_with fail;refine bodyPost_ret (v:=.tuple #[.string ⟨#[]⟩,.iface 39 (.pointer (some ⟨fb,0,none⟩))]) (by simp[results,Tryz.f13]) rfl ?_;exact bAx (HRB.out.trans HN.out) lJ.out
  | some l =>
   rw[hr] at hE;obtain⟨rfl,hb⟩:=hE;have lJ:=zh (dJ.out.trans (hb.mono dJ.out.size));have HN:=zh hr;clear hb hr c2 c3;go_wp2_with fail;refine bodyPost_ret (v:=.tuple #[.string ⟨l.toArray⟩,.nilIface]) (by simp[results,Tryz.f13]) rfl ?_;exact bEg (HRB.out.trans HN.out) lJ.out
end Rk
namespace Lo
open Go.Maps Go.ChangeMaps
open D (aF jW wH)
open Ta (El Tm ev eY aBm fD gX xI lZ bX kD oH TabAt)
theorem aDg (x y:List Int) (h:bX x=bX y):x=y:=by
 unfold bX at h;injection h with h
 have h2:nv x=nv y:=by simpa using congrArg Array.toList h
 unfold nv at h2;exact(List.map_inj_right (fun a b e=>by injection e)).1 h2
structure TLd (b base S:Nat) (ST:Array Value) (w0:World) (T:Tm) (m:Nat) (wr:World):Prop where
 box:aC wr (b+2) 169 #[.map (some b),.map (some (b+1))]
 ents:∃ f,bQ prog 179 bX wr b f m∧(∀ l,l.length≤8→T.ent l=none→f (fD l)=none)∧∀ l es,T.ent l=some es→l.length≤8∧es.length≤16∧∃ s,f (fD l)=some s∧aV 4 wr base wr.heap.size s es.length (ev es)
 aFy:∃ g k,bQ prog 3 (Value.int .i64) wr (b+1) g k∧k≤m∧(∀ x,g x=none→T.long x=0)∧∀ x u,g x=some u→u=.int .i64 (T.long x)
 strs:aC wr S 9 ST
 low:Below b w0 wr
 lo:b+2<S∧S<base∧base≤wr.heap.size∧b=w0.heap.size
section
variable {b base S:Nat} {ST:Array Value} {w0 wr:World} {T:Tm} {m:Nat}
theorem TLd.keep {w':World} (h:TLd b base S ST w0 T m wr) (hb:Below wr.heap.size wr w'):TLd b base S ST w0 T m w' where
 box:=aC.below h.box hb h.box.lt
 ents:=by
  obtain⟨f,h1,h2,h3⟩:=h.ents;exact⟨f,h1.keep hb,h2,fun l es hl=>by obtain⟨a1,a2,s,a3,a4⟩:=h3 l es hl;exact⟨a1,a2,s,a3,(a4.later hb).wide lr hb.size⟩⟩
 aFy:=by
  obtain⟨g,k,h1,h2⟩:=h.aFy;exact⟨g,k,h1.keep hb,h2⟩
 strs:=aC.below h.strs hb h.strs.lt
 low:=h.low.trans (hb.mono (by have:=h.low.size;have:=h.lo.2.2.2;omega))
 lo:=⟨h.lo.1,h.lo.2.1,Nat.le_trans h.lo.2.2.1 hb.size,h.lo.2.2.2⟩
theorem TLd.ent (h:TLd b base S ST w0 T m wr) (hm:m<4096) {ps:List Int} {es:List El} {s:Value} (hp:ps.length≤8) (hf:∀ x∈ps,aF x) (he:es.length≤16) (hT:T.ent ps=none) (hs:aV 4 wr base wr.heap.size s es.length (ev es)) (x:Int) (hx:aF x) (hx0:ps.getD 0 0=x) :
 ∃ w2,(Instr.mapUpdate 167 (.map (some b)) (bX (fD ps)) s).run prog wr=.ok () w2∧(∃ o,w2=setBlock wr b o) ∧
  ∀ w3,Below w2.heap.size w2 w3→(Instr.lookup 158 (.map (some (b+1))) (.int .i64 x) false).run prog w3=.ok (.int .i64 (T.long x)) w3 ∧
  ∀ mx:Int,mx=max (T.long x) ps.length→∃ w4,(Instr.mapUpdate 158 (.map (some (b+1))) (.int .i64 x) (.int .i64 mx)).run prog w3=.ok () w4∧(∃ o,w4=setBlock w3 (b+1) o)∧TLd b base S ST w0 (aBm T ps es) (m+1) w4:=by
 obtain⟨f,h1,h2,h3⟩:=h.ents;obtain⟨g,k,g1,g2,g3,g4⟩:=h.aFy;obtain⟨kl,hkl⟩:=kD (fD ps) (gX ps) (lZ hf);obtain⟨w2,a1,a2,o,rfl⟩:=h1.store oH underlying167 aDg (by unfold maxLen;omega) hkl s;have hlo:=h.lo;refine⟨_,a1,⟨o,rfl⟩,fun w3 hb=>?_⟩;have ob:∀ {k:Nat} {t:TypeId} {cs:Array Value},aC wr k t cs→k≠b→aC w3 k t cs:=fun {k t cs} hk hne=>(hb.block k (by rw[cB];exact hk.lt)).trans ((aQ o hne).trans hk)
 have m1:bQ prog 3 (Value.int .i64) w3 (b+1) g k:=(g1.of_block (aQ o (by omega))).keep hb;have hl:=m1.look (int_keyed underlying3) underlying158 (wH w3) (keyOf_int_mk underlying3 (jW hx)) false;have hlv:nJ (.int .i64 0) false (g x)=.int .i64 (T.long x):=by
  cases hg:g x with
  | none=>rw[g3 x hg];rfl
  | some u=>rw[g4 x u hg];rfl
 rw[hlv] at hl;refine⟨hl,fun mx hmx=>?_⟩;subst hmx;obtain⟨w4,b1,b2,o2,rfl⟩:=m1.store (int_keyed underlying3) underlying158 (fun x y h=>by injection h) (by unfold maxLen;omega) (keyOf_int_mk underlying3 (jW hx)) (.int .i64 (max (T.long x) ps.length));refine⟨_,b1,⟨o2,rfl⟩,?_⟩;have hz:(setBlock w3 (b+1) o2).heap.size=w3.heap.size:=cB o2;have hz2:wr.heap.size≤w3.heap.size:=by have:=hb.size;rw[cB] at this;exact this
 have rw_:∀ {s n xs},aV 4 wr base wr.heap.size s n xs→aV 4 (setBlock w3 (b+1) o2) base (setBlock w3 (b+1) o2).heap.size s n xs:=fun hr =>
  (bAq hr (fun k h1 h2=>(aQ o2 (by omega)).trans ((hb.block k (by rw[cB];exact h2)).trans (aQ o (by omega))))).wide lr (by rw[hz];exact hz2)
 exact {
  box:=(aQ o2 (by omega)).trans (ob h.box (by omega))
  ents:=by
   refine⟨_,by have:=(a2.keep hb).of_block (aQ (w:=w3) (b:=b+1) o2 (i:=b) (by omega));rw[if_pos (h2 ps hp hT)] at this;exact this,fun l hl hn=>?_,fun l es' hl=>?_⟩
   · have hn':(if l=ps then some es else T.ent l)=none:=hn;split at hn'
     · cases hn'
     · next e=>rw[dB _ _ (fun e2=>e (xI hl hp e2))];exact h2 l hl hn'
   · have hl':(if l=ps then some es else T.ent l)=some es':=hl;split at hl'
     · next e=>cases hl';subst e;exact⟨hp,he,s,eZ _ _ _,rw_ hs⟩
     · next e =>
       obtain⟨c1,c2,s',c3,c4⟩:=h3 l es' hl';exact⟨c1,c2,s',by rw[dB _ _ (fun e2=>e (xI c1 hp e2))];exact c3,rw_ c4⟩
  aFy:=by
   refine⟨_,_,b2,by split<;>omega,fun y hy=>?_,fun y u hy=>?_⟩
   · have hyx:y≠x:=fun e=>by subst e;rw[eZ] at hy;cases hy
     rw[dB _ _ hyx] at hy;show (if y=ps.getD 0 0 then max (T.long y) ps.length else T.long y)=0
     rw[hx0,if_neg hyx];exact g3 y hy
   · show u=.int .i64 (if y=ps.getD 0 0 then max (T.long y) ps.length else T.long y)
     rw[hx0];by_cases hyx:y=x
     · subst hyx;rw[eZ] at hy;rw[if_pos rfl];cases hy;rfl
     · rw[dB _ _ hyx] at hy;rw[if_neg hyx];exact g4 y u hy
  strs:=(aQ o2 (by omega)).trans (ob h.strs (by omega))
  low:=h.low.trans ((fQ o lr).trans ((hb.mono (by rw[cB];omega)).trans (fQ o2 (by omega))))
  lo:=⟨hlo.1,hlo.2.1,by rw[hz];omega,hlo.2.2.2⟩ }
theorem TLd.tab (h:TLd b base S ST w0 T m wr) (hm:m≤4096):TabAt wr 0 wr.heap.size (.pointer (some ⟨b+2,0,none⟩)) T:=by
 obtain⟨f,h1,h2,h3⟩:=h.ents;obtain⟨g,k,g1,g2,g3,g4⟩:=h.aFy;exact⟨b+2,b,b+1,f,m,g,k,rfl,⟨Nat.zero_le _,h.box.lt⟩,by simpa using h.box.cell 0,by simpa using h.box.cell 1,⟨Nat.zero_le _,h1.lt⟩,⟨Nat.zero_le _,g1.lt⟩,h1,hm,g1,by omega,h2,
  fun l es hl=>by obtain⟨a1,a2,s,a3,a4⟩:=h3 l es hl;exact⟨a1,a2,s,a3,a4.wide (Nat.zero_le _) lr⟩,g3,g4⟩
theorem TLd.len_ (h:TLd b base S ST w0 T m wr) (ty:TypeId):(Builtin.len_ #[167] ty #[.map (some b)]).run prog wr=.ok (.int .i64 (m:Int)) wr:=by
 obtain⟨f,⟨arr,clock,h1,h2,_⟩,_⟩:=h.ents;simp[Builtin.len_,run_underlying underlying167,MapKept.run_getObj_map h1,goInt,Result.andThen,h2]
theorem TLd.look (h:TLd b base S ST w0 T m wr) {ps:List Int} (hp:ps.length≤8) (hf:∀ x∈ps,aF x):(T.ent ps=none→∀ w',w'.heap[b]?=wr.heap[b]?→(Instr.lookup 167 (.map (some b)) (bX (fD ps)) true).run prog w'=.ok (.tuple #[.slice none 0 0,.bool false]) w') ∧
 (T.ent ps≠none→∃ a n c,∀ w',w'.heap[b]?=wr.heap[b]?→(Instr.lookup 167 (.map (some b)) (bX (fD ps)) true).run prog w'=.ok (.tuple #[.slice a n c,.bool true]) w'):=by
 obtain⟨f,h1,h2,h3⟩:=h.ents;obtain⟨kl,hkl⟩:=kD (fD ps) (gX ps) (lZ hf);have hl:=fun (w':World) (e:w'.heap[b]?=wr.heap[b]?)=>(h1.of_block e).look oH underlying167 (Tryz.zeroValue170 _) hkl true
 refine⟨fun hT w' e=>?_,fun hT=>?_⟩
 · have:=hl w' e;rw[h2 ps hp hT] at this;exact this
 · cases hd:T.ent ps with
   | none=>exact absurd hd hT
   | some es =>
    obtain⟨_,_,s,a3,a4⟩:=h3 ps es hd;obtain⟨_,a,c,rfl,_⟩:=a4.form;refine⟨a,es.length,c,fun w' e=>?_⟩;have:=hl w' e;rw[a3] at this;exact this
end
open D (aF dU Dm Wf Wp partsOf bF)
open Ta (bL gI bI aY)
structure UPl (a:ByteArray) (D:Dm) (K:List Int):Prop where
 wp:Wp D
 few:∀ y,(partsOf D y).length≤65537
 key:∀ y,partsOf D y≠[]→y∈K
 pts:∀ x∈K,Pnt x
 cap:K.length≤4096
 nil:a.size=0→(D=fun _=>none)∧K=[]
def aId (D:Dm) (x c:Int) (ps:List Int):Dm:=fun y=>if y=x then some (c,ps) else D y
theorem aAh (D:Dm) (x c:Int) (ps:List Int) (y:Int):partsOf (aId D x c ps) y=if y=x then ps else partsOf D y:=by
 unfold partsOf aId;by_cases h:y=x<;>simp[h]
theorem qQ {x:Int} (h:Pnt x):0≤x∧x≤1114111∧dU x=false:=by
 have h1:=h.1;simp only [aY,Bool.and_eq_true,decide_eq_true_eq] at h1;exact⟨h1.1.1,h1.1.2,h.2⟩
theorem UPl.empty (a:ByteArray):UPl a (fun _=>none) [] where
 wp:=⟨fun x c l h=>by(cases h),fun x c l h=>by(cases h)⟩
 few:=fun y=>by simp[partsOf]
 key:=fun y h=>by simp[partsOf] at h
 pts:=fun x h=>by cases h
 cap:=Nat.zero_le _
 nil:=fun _=>⟨rfl,rfl⟩
theorem UPl.put {a:ByteArray} {D:Dm} {K:List Int} (h:UPl a D K) {x c:Int} {ps:List Int} (hx:Pnt x) (hc:0≤c∧c≤254) (hp:∀ q∈ps,Pnt q) (hl:ps.length≤65537) (ha:a.size≠0) (hK:K.length<4096):UPl a (aId D x c ps) (K++[x]) where
 wp:=⟨fun y c' l hy=>by
  unfold aId at hy;split at hy
  · next e=>cases hy;subst e;exact⟨(qQ hx).2.2,fun q hq=>by have:=qQ (hp q hq);exact⟨this.2.2,this.1,this.2.1⟩⟩
  · exact h.wp.plain y c' l hy,fun y c' l hy=>by
  unfold aId at hy;split at hy
  · cases hy;exact hc
  · exact h.wp.cls y c' l hy⟩
 few:=fun y=>by rw[aAh];split;exact hl;exact h.few y
 key:=fun y hy=>by
  rw[aAh] at hy;split at hy
  · next e=>rw[e];simp
  · exact List.mem_append_left _ (h.key y hy)
 pts:=fun y hy=>by
  rcases List.mem_append.1 hy with hy | hy
  · exact h.pts y hy
  · rw[List.mem_singleton.1 hy];exact hx
 cap:=by rw[List.length_append,List.length_singleton];omega
 nil:=fun e=>absurd e ha
structure uT (b base S:Nat) (ST:Array Value) (w0:World) (D:Dm) (K:List Int) (m kb:Nat) (ov:Value) (at_:Int) (wr:World):Prop where
 d:aC wr b 100 #[.pointer (some ⟨b+5,0,none⟩)]
 e:aC wr (b+1) 41 #[.int .i64 0]
 l:aC wr (b+2) 3 #[.int .i64 0]
 n:aC wr (b+3) 3 #[.int .i64 at_]
 box:aC wr (b+5) 157 #[.map (some (b+4))]
 marks:∃ f,bQ prog 3 (Value.int .i64) wr (b+4) f m∧(∀ x,D x=none→f x=none)∧∀ x c l,D x=some (c,l)→∃ s,f x=some (.agg #[.int .i64 x,.int .i64 c,s])∧aH wr (fun k=>ov.ownBlock=some k∨k<base) s l
 lines:∃ g k,bQ prog 3 (Value.int .i64) wr (b+6) g k∧k≤kb∧∀ x u,g x=some u→∃ n,u=.int .i64 n
 row:aJ wr base ov K
 strs:aC wr S 9 ST
 low:Below b w0 wr
 lo:b+6<S∧S<base∧base≤wr.heap.size∧b=w0.heap.size
section
variable {b base S:Nat} {ST:Array Value} {w0 wr:World} {D:Dm} {K:List Int} {m kb:Nat} {ov:Value} {at_:Int}
theorem uT.keep {w':World} (h:uT b base S ST w0 D K m kb ov at_ wr) (hb:Below wr.heap.size wr w'):uT b base S ST w0 D K m kb ov at_ w' where
 d:=aC.below h.d hb h.d.lt
 e:=aC.below h.e hb h.e.lt
 l:=aC.below h.l hb h.l.lt
 n:=aC.below h.n hb h.n.lt
 box:=aC.below h.box hb h.box.lt
 marks:=by
  obtain⟨f,h1,h2,h3⟩:=h.marks;exact⟨f,h1.keep hb,h2,fun x c l hx=>by obtain⟨s,h4,h5⟩:=h3 x c l hx;exact⟨s,h4,h5.below hb (fun _ _ e=>e)⟩⟩
 lines:=by
  obtain⟨g,k,h1,h2,h3⟩:=h.lines;exact⟨g,k,h1.keep hb,h2,h3⟩
 row:=h.row.below hb
 strs:=aC.below h.strs hb h.strs.lt
 low:=h.low.trans (hb.mono (by have:=h.low.size;have:=h.lo.2.2.2;omega))
 lo:=⟨h.lo.1,h.lo.2.1,Nat.le_trans h.lo.2.2.1 hb.size,h.lo.2.2.2⟩
theorem uT.tick (h:uT b base S ST w0 D K m kb ov at_ wr) (n:Int):uT b base S ST w0 D K m kb ov n (wr.setCell ⟨b+3,0,none⟩ (.int .i64 n)) where
 d:=Sc.bC h.d (by omega) 0 _
 e:=Sc.bC h.e (by omega) 0 _
 l:=Sc.bC h.l (by omega) 0 _
 n:=by simpa using h.n.aU 0 (.int .i64 n)
 box:=Sc.bC h.box (by omega) 0 _
 marks:=by
  obtain⟨f,h1,h2,h3⟩:=h.marks;exact⟨f,h1.of_block (Below.heap_setCell _ _ _ _ (by show b+4≠b+3;omega)),h2,fun x c l hx=>by
   obtain⟨s,h4,h5⟩:=h3 x c l hx;exact⟨s,h4,h5.keep (by simp) (fun k _ hk=>Below.heap_setCell _ _ _ _ (by show k≠b+3;have:=h.lo;intro e;exact hk (.inr (by omega)))) (fun _ _ e=>e)⟩⟩
 lines:=by
  obtain⟨g,k,h1,h2,h3⟩:=h.lines;exact⟨g,k,h1.of_block (Below.heap_setCell _ _ _ _ (by show b+6≠b+3;omega)),h2,h3⟩
 row:=ownsRow_setCell_below h.row (a:=⟨b+3,0,none⟩) (by show b+3<base;have:=h.lo;omega) _
 strs:=Sc.bC h.strs (by have:=h.lo;omega) 0 _
 low:=h.low.setCell (p:=⟨b+3,0,none⟩) (by show b≤b+3;omega) _
 lo:=by have:=h.lo;simpa using this
theorem uT.more (h:uT b base S ST w0 D K m kb ov at_ wr) {k2:Nat} (hk:kb≤k2):uT b base S ST w0 D K m k2 ov at_ wr :=
 { h with lines:=by obtain⟨g,k,h1,h2,h3⟩:=h.lines;exact⟨g,k,h1,by omega,h3⟩ }
theorem gW {B g:Nat} {t:TypeId} {cs:Array Value} {w:World} (o:Obj) (h:aC w g t cs) (hne:g≠B):aC (setBlock w B o) g t cs:=(aQ o hne).trans h
theorem uT.mark (h:uT b base S ST w0 D K m kb ov at_ wr) (hm:m<4096) {x c:Int} {ps:List Int} {s:Value} (hx:aF x) (hD:D x=none) (hs:aH wr (fun k=>ov.ownBlock=some k∨k<base) s ps) :
 ∃ w2,(Instr.mapUpdate 155 (.map (some (b+4))) (.int .i64 x) (.agg #[.int .i64 x,.int .i64 c,s])).run prog wr=.ok () w2∧uT b base S ST w0 (aId D x c ps) K (m+1) kb ov at_ w2∧∃ o,w2=setBlock wr (b+4) o:=by
 obtain⟨f,h1,h2,h3⟩:=h.marks;obtain⟨w2,g1,g2,o,rfl⟩:=h1.store (int_keyed underlying3) underlying155 (fun x y h=>by injection h) (by unfold maxLen;omega) (keyOf_int_mk underlying3 (YtcgnajeenflfaaaGreatDoor.D.jW hx)) (.agg #[.int .i64 x,.int .i64 c,s]);have kp:∀ {s l},aH wr (fun k=>ov.ownBlock=some k∨k<base) s l→aH (setBlock wr (b+4) o) (fun k=>ov.ownBlock=some k∨k<base) s l:=fun h5 =>
  h5.keep (by rw[cB];exact Nat.le_refl _) (fun k _ hk=>aQ o (by have:=h.lo;intro e;exact hk (.inr (by omega)))) (fun _ _ e=>e)
 refine⟨_,g1,?_,o,rfl⟩;exact {
  d:=gW o h.d (by omega)
  e:=gW o h.e (by omega)
  l:=gW o h.l (by omega)
  n:=gW o h.n (by omega)
  box:=gW o h.box (by omega)
  marks:=by
   refine⟨_,by rw[if_pos (h2 x hD)] at g2;exact g2,fun y hy=>?_,fun y c' l hy=>?_⟩
   · unfold aId at hy;split at hy
     · cases hy
     · next e=>rw[dB _ _ e];exact h2 y hy
   · unfold aId at hy;split at hy
     · next e=>cases hy;subst e;exact⟨s,eZ _ _ _,kp hs⟩
     · next e=>obtain⟨s',h4,h5⟩:=h3 y c' l hy;exact⟨s',by rw[dB _ _ e];exact h4,kp h5⟩
  lines:=by
   obtain⟨g,k,k1,k2,k3⟩:=h.lines;exact⟨g,k,k1.of_block (aQ o (by omega)),k2,k3⟩
  row:=YtcgnajeenflfaaaGreatDoor.D.aJ.blocks h.row (fun k hk=>aQ o (by have:=h.lo;omega))
  strs:=gW o h.strs (by have:=h.lo;omega)
  low:=h.low.trans (fQ o (by omega))
  lo:=by rw[cB];exact h.lo }
theorem uT.line (h:uT b base S ST w0 D K m kb ov at_ wr) (hk:kb≤1000000) (x n:Int) (hx:aF x) :
 ∃ w2,(Instr.mapUpdate 158 (.map (some (b+6))) (.int .i64 x) (.int .i64 n)).run prog wr=.ok () w2∧uT b base S ST w0 D K m (kb+1) ov at_ w2∧∃ o,w2=setBlock wr (b+6) o:=by
 obtain⟨g,k,k1,k2,k3⟩:=h.lines;obtain⟨w2,g1,g2,o,rfl⟩:=k1.store (int_keyed underlying3) underlying158 (fun x y h=>by injection h) (by unfold maxLen;omega) (keyOf_int_mk underlying3 (YtcgnajeenflfaaaGreatDoor.D.jW hx)) (.int .i64 n);refine⟨_,g1,?_,o,rfl⟩;exact {
  d:=gW o h.d (by omega)
  e:=gW o h.e (by omega)
  l:=gW o h.l (by omega)
  n:=gW o h.n (by omega)
  box:=gW o h.box (by omega)
  marks:=by
   obtain⟨f,h1,h2,h3⟩:=h.marks;exact⟨f,h1.of_block (aQ o (by omega)),h2,fun y c' l hy=>by
    obtain⟨s',h4,h5⟩:=h3 y c' l hy;exact⟨s',h4,h5.keep (by rw[cB];exact Nat.le_refl _) (fun k _ hk=>aQ o (by have:=h.lo;intro e;exact hk (.inr (by omega)))) (fun _ _ e=>e)⟩⟩
  lines:=by
   refine⟨_,_,g2,by split<;>omega,fun y u hy=>?_⟩;by_cases e:y=x
   · subst e;rw[eZ] at hy;exact⟨n,by cases hy;rfl⟩
   · rw[dB _ _ e] at hy;exact k3 y u hy
  row:=YtcgnajeenflfaaaGreatDoor.D.aJ.blocks h.row (fun k hk=>aQ o (by have:=h.lo;omega))
  strs:=gW o h.strs (by have:=h.lo;omega)
  low:=h.low.trans (fQ o (by omega))
  lo:=by rw[cB];exact h.lo }
theorem uT.push (h:uT b base S ST w0 D K m kb ov at_ wr) {x:Int} {w5:World} {nv_:Value} (hg:(wr.alloc (.cells #[.int .i64 x] 3)).grownBy w5 ov.ownBlock)
 (hO:aJ w5 base nv_ (K++[x])) (hl:nv_.ownBlock=ov.ownBlock∨nv_.ownBlock=some (wr.alloc (.cells #[.int .i64 x] 3)).heap.size) :
 uT b base S ST w0 D (K++[x]) m kb nv_ at_ w5:=by
 have h1:=h.keep ((Below.refl wr.heap.size wr).alloc lr (.cells #[.int .i64 x] 3));generalize wr.alloc (.cells #[.int .i64 x] 3)=w4 at hg hl h1;have low:∀ k,ov.ownBlock=some k→base≤k:=fun k e=>(World.ownsRow.lt h1.row k e).1
 have old:∀ k,k<base→w5.heap[k]?=w4.heap[k]?:=fun k hk=>hg.block k (by have:=h1.lo;omega) (fun e=>by have:=low k e.symm;omega)
 have ob:∀ {k:Nat} {t:TypeId} {cs:Array Value},aC w4 k t cs→k<base→aC w5 k t cs:=fun h hk=>(old _ hk).trans h
 have hlo:=h1.lo;exact {
  d:=ob h1.d (by omega)
  e:=ob h1.e (by omega)
  l:=ob h1.l (by omega)
  n:=ob h1.n (by omega)
  box:=ob h1.box (by omega)
  marks:=by
   obtain⟨f,a1,a2,a3⟩:=h1.marks;refine⟨f,a1.of_block (old _ (by omega)),a2,fun y c' l hy=>?_⟩;obtain⟨s,h4,h5⟩:=a3 y c' l hy;refine⟨s,h4,h5.keep hg.size (fun k hk hn=>hg.block k hk (fun e=>hn (.inl e.symm))) (fun k hk e=>?_)⟩;rcases e with e | e
   · rcases hl with hl | hl
     · exact .inl (hl▸e)
     · rw[hl] at e;cases e;omega
   · exact .inr e
  lines:=by
   obtain⟨g,k,k1,k2,k3⟩:=h1.lines;exact⟨g,k,k1.of_block (old _ (by omega)),k2,k3⟩
  row:=hO
  strs:=ob h1.strs (by omega)
  low:=h1.low.grown hg (by omega) (fun k e=>by have:=low k e;omega)
  lo:=⟨hlo.1,hlo.2.1,Nat.le_trans hlo.2.2.1 hg.size,hlo.2.2.2⟩ }
theorem uT.data (h:uT b base S ST w0 D K m kb ov at_ wr) (hm:m≤4096):bF wr (b+4) wr.heap.size (.pointer (some ⟨b+5,0,none⟩)) D:=by
 obtain⟨f,h1,h2,h3⟩:=h.marks;have hlo:=h.lo;refine⟨b+5,b+4,f,m,rfl,⟨by omega,h.box.lt⟩,by simpa using h.box.cell 0,⟨by omega,h1.lt⟩,h1,hm,h2,fun x c l hx=>?_⟩;obtain⟨s,h4,a,cap,rfl,hc,hn,hcells⟩:=h3 x c l hx;exact⟨_,h4,a,cap,rfl,hc,hn,fun j hj=>by obtain⟨g,off,ha,h5,h6,h7⟩:=hcells j hj;exact⟨g,off,ha,by have:¬ g<base:=fun e=>h6 (.inr e);omega,h5,h7⟩⟩
theorem data_set {w:World} {lo hi g i:Nat} {v u:Value} {D:Dm} (h:bF w lo hi v D) (hg:g<lo):bF (w.setCell ⟨g,i,none⟩ u) lo hi v D:=by
 obtain⟨pd,b,f,n,rfl,h1,h2,h3,h4,h5,h6,h7⟩:=h;have e:∀ k,lo≤k→(w.setCell ⟨g,i,none⟩ u).heap[k]?=w.heap[k]?:=fun k hk=>Below.heap_setCell _ _ _ _ (by show k≠g;omega)
 refine⟨pd,b,f,n,rfl,h1,(World.cell?_of_block (e pd h1.1)).trans h2,h3,h4.of_block (e b h3.1),h5,h6,fun x c l hx=>?_⟩;obtain⟨s,hs,a,cap,rfl,hc,hn,hcells⟩:=h7 x c l hx;exact⟨_,hs,a,cap,rfl,hc,hn,fun j hj=>by obtain⟨g',off,ha,a1,a2,a3⟩:=hcells j hj;exact⟨g',off,ha,a1,a2,(World.cell?_of_block (a:=⟨g',off+j,none⟩) (e g' a1)).trans a3⟩⟩
theorem uT.look (h:uT b base S ST w0 D K m kb ov at_ wr) (x:Int) (hx:aF x):∀ w',w'.heap[b+4]?=wr.heap[b+4]? →
 (D x=none→(Instr.lookup 155 (.map (some (b+4))) (.int .i64 x) true).run prog w'=.ok (.tuple #[.agg #[.int .i64 0,.int .i64 0,.slice none 0 0],.bool false]) w') ∧
 (D x≠none→∃ c a n cap,(∀ w',w'.heap[b+4]?=wr.heap[b+4]?→(Instr.lookup 155 (.map (some (b+4))) (.int .i64 x) true).run prog w'=.ok (.tuple #[.agg #[.int .i64 x,.int .i64 c,.slice a n cap],.bool true]) w')):=by
 intro w' hw;obtain⟨f,h1,h2,h3⟩:=h.marks;refine⟨fun hD=>?_,fun hD=>?_⟩
 · have hl:=(h1.of_block hw).look (int_keyed underlying3) underlying155 (Tryz.zeroValue162 _) (keyOf_int_mk underlying3 (YtcgnajeenflfaaaGreatDoor.D.jW hx)) true;rw[h2 x hD] at hl;exact hl
 · cases hd:D x with
   | none=>exact absurd hd hD
   | some cl =>
    obtain⟨c,l⟩:=cl;obtain⟨s,hs,a,cap,rfl,_⟩:=h3 x c l hd;refine⟨c,a,l.length,cap,fun w'' hw'=>?_⟩;have hl:=(h1.of_block hw').look (int_keyed underlying3) underlying155 (Tryz.zeroValue162 _) (keyOf_int_mk underlying3 (YtcgnajeenflfaaaGreatDoor.D.jW hx)) true;rw[hs] at hl;exact hl
theorem uT.bAy (h:uT b base S ST w0 D K m kb ov at_ wr) (x:Int) (hx:aF x):∃ n,(Instr.lookup 158 (.map (some (b+6))) (.int .i64 x) false).run prog wr=.ok (.int .i64 n) wr:=by
 obtain⟨g,k,k1,k2,k3⟩:=h.lines;have hl:=k1.look (int_keyed underlying3) underlying158 (YtcgnajeenflfaaaGreatDoor.D.wH wr) (keyOf_int_mk underlying3 (YtcgnajeenflfaaaGreatDoor.D.jW hx)) false;cases hg:g x with
 | none=>rw[hg] at hl;exact⟨0,hl⟩
 | some u=>rw[hg] at hl;obtain⟨n,rfl⟩:=k3 x u hg;exact⟨n,hl⟩
theorem uT.len_ (h:uT b base S ST w0 D K m kb ov at_ wr) (ty:TypeId):(Builtin.len_ #[155] ty #[.map (some (b+4))]).run prog wr=.ok (.int .i64 (m:Int)) wr:=by
 obtain⟨f,⟨arr,clock,h1,h2,_⟩,_⟩:=h.marks;simp[Builtin.len_,run_underlying underlying155,MapKept.run_getObj_map h1,goInt,Result.andThen,h2]
theorem uT.len (h:uT b base S ST w0 D K m kb ov at_ wr):∃ arr clock,wr.heap[b+4]?=some (.map arr clock)∧arr.size=m:=by
 obtain⟨f,⟨arr,clock,h1,h2,_⟩,_⟩:=h.marks;exact⟨arr,clock,h1,h2⟩
end
end Lo
end Go.Proofs.YtcgnajeenflfaaaGreatDoor
namespace Go
theorem Proofs.YtcgnajeenflfaaaGreatDoor.aIe {H:Type} {enc:TypeId×Value→H} {a:Assume} {C:Checked} {os:Os} {f:FuncId} {fn:Func} {s:ChangeSpec} {conds:List PathCond} {apart fresh handsOn again:Bool} {X:World→Array Value→Prop}
 (hX:∀ (w w':World) (args:Array Value),w.heap=w'.heap→X w args→X w' args)
 (own:ownKnob C.prog.godebug=none) (started:os.Started) (noInit:C.prog.inits.idxOf? f=none) (hfn:C.prog.funcs[f]?=some fn)
 (witness:∃ (w:World) (tape:Tape) (i:Input),w.os=os∧(w.forCall tape i).Shaped C.prog∧i.vars=[]∧Input.okWide C.prog (w.forCall tape i) .any w.heap.size f i ∧
  ((s.pre enc C.prog fn conds apart (w.forCall tape i).memory i.args∧X (w.forCall tape i).memory i.args)∧sizedMet enc C.prog fn (OpenSpec.ofChange s) apart (w.forCall tape i).memory i.args)∧a.holds C.prog (lone (Frame.enter C.prog f i.args .normal) [] (w.forCall tape i)))
 (contract:∀ (W:World) (base:Nat) (args:Array Value) (ds gs:List (DataW H)) (before:List MemPlace),
  (∀ (j:Nat) t v,fn.params[j]?=some t→args[j]?=some v→Value.okWide C.prog W .any base t v) →
  DataW.Whole enc C.prog fn.params.toList s.vars apart W args.toList ds gs before →
  conds.all (PathCond.test C.prog ⟨fn.params.toList,ds,s.plain.varTypes C.prog,gs⟩)=true →
  (DataW.weightsEach C.prog (fn.params.toList++s.plain.varTypes C.prog) (ds++gs)).all (· ≤ reachBytes)=true→X W args→W.ShapedOpen C.prog →
  a.holds C.prog (lone (Frame.enter C.prog f args .normal) [] W) →
  Calls C.prog f args W fun e W'=>∃ v,e=.returned v∧s.post enc C.prog fn apart fresh handsOn again W args v W') :
 ReturnsInHanded a C os f .any (fun w args=>(s.pre enc C.prog fn conds apart w args∧X w args)∧sizedMet enc C.prog fn (OpenSpec.ofChange s) apart w args) (s.post enc C.prog fn apart fresh handsOn again):=by
 refine returnsInHanded_of_calls own started noInit witness ?_;intro w tape i _ hsh _ hok hpre hholds;obtain⟨_,_,_,fn',hfn',_,_,_,_,hval⟩:=hok;have e:fn'=fn:=Option.some.inj (hfn'.symm.trans hfn);subst e;obtain⟨⟨⟨ds,gs,before,hw,hc⟩,hx⟩,hz⟩:=hpre;have hw':=DataW.Whole.of_heap (w':=w.forCall tape i) (by rfl) hw;refine(contract (w.forCall tape i) w.heap.size i.args ds gs before hval hw' hc (hz.weights hw) (hX _ _ _ (by rfl) hx) hsh hholds).mono fun e W' ⟨v,he,hp⟩=>?_
 subst he;exact ChangeSpec.post_blind hp
end Go
namespace Go.Proofs.YtcgnajeenflfaaaGreatDoor.Lo
open Go.RowKit
open Go.Proofs.YtcgnajeenflfaaaGreatDoor.Sc (aEd)
def VarReads (P:Program) (w:World) (n:String) (d:DataW Unit):Prop :=
 ∃ g t cs fuel p,P.globalNamed n=some g∧(P.globals[g]?).map (·.type)=some t∧w.var? P n=some cs∧DataW.trod (fun _=>()) P w 0 (fun _=>true) false fuel t cs.toList=some (d,p)
theorem aLu {P:Program} {w:World}:∀ (l:List (String×DataW Unit)) (ps:List MemPlace),DataW.LaidVars P w l ps→∀ n d,(n,d)∈l→VarReads P w n d
 | [],_,_,_,_,hm=>by cases hm
 | (n',d')::r,ps,h,n,d,hm=>by
  obtain⟨g,t,cs,fuel,p,q,h1,h2,h3,h4,h5,_⟩:=h;rcases List.mem_cons.1 hm with e | e
  · cases e;exact⟨g,t,cs,fuel,p,h1,h2,h3,h4⟩
  · exact aLu r q h5 n d e
theorem xJ {P:Program} {W:World} {name:String} {k:IntKind} {zs:List Int} {g:Nat} {t e:TypeId} {n:Nat}
 (hg:P.globalNamed name=some g) (hty:(P.globals[g]?).map (·.type)=some t) (ht:P.underlying t=some (.array n e)) (he:P.underlying e=some (.int k)) (hce:P.cellsOf e=1) (hct:P.cellsOf t=n)
 (h:VarReads P W name (Lib.tabData k zs)):Lib.TabIs P W name k zs:=by
 obtain⟨g',t',cs,fuel,p,hg',hty',hvar,hd⟩:=h;obtain rfl:=Option.some.inj (hg.symm.trans hg');obtain rfl:=Option.some.inj (hty.symm.trans hty');unfold Lib.TabIs;rw[hvar,← Lib.cells_of_tab ht he hce hct hd]
theorem sS {P:Program} {W:World} {name nm:String} {d:DataW Unit} {g:Nat} {t:TypeId} {ms:Array (String×TypeId)}
 (hg:P.globalNamed name=some g) (hty:(P.globals[g]?).map (·.type)=some t) (ht:P.underlying t=some (.interface ms))
 (h:VarReads P W name (.iface nm d)):∃ ev,W.cell? ⟨g,0,none⟩=some ev∧(ev=.nilIface∨∃ te pe,ev=.iface te pe):=by
 obtain⟨g',t',cs,fuel,p,hg',hty',hvar,hd⟩:=h;obtain rfl:=Option.some.inj (hg.symm.trans hg');obtain rfl:=Option.some.inj (hty.symm.trans hty');obtain⟨_,u,v,hcs,_⟩:=iface_of_trod ht hd;refine⟨.iface u v,?_,.inr ⟨u,v,rfl⟩⟩;have:=World.var?_cell hg hvar 0;rw[this,show cs=#[.iface u v] by cases cs;simp_all];rfl
theorem et:prog.globalNamed "errors.errorType" = some 1:=by kernel_rfl
theorem rt:(prog.cutTypes.find? (·.1 == "internal/reflectlite.rtype")).map (·.2)=some 197:=by kernel_rfl
theorem bMx:prog.types.size=412:=by kernel_rfl
theorem bIe:((List.range 412).filter fun t=>prog.rowNamed t [101,114,114,111,114])=[36]:=by kernel_rfl
theorem aDh {l:List (String×DataW Unit)} {W:World} (h:laidMetH prog l W) (hm:("errors.errorType", (Rows.laid_errors_errorType:DataW Unit))∈l):aEd W:=by
 have h':=(laidMetH_iff.1 h).2 _ (List.mem_filter.2 ⟨hm,by kernel_rfl⟩);obtain⟨name,u,ty,e1,e2,e3,e4,e5⟩:=h';have en:name=[101,114,114,111,114]:=(Option.some.inj e1).symm;subst en;obtain rfl:=Option.some.inj (rt.symm.trans e2);have hm:ty∈(List.range 412).filter fun t=>prog.rowNamed t [101,114,114,111,114]:=List.mem_filter.2 ⟨List.mem_range.2 (by rw[← bMx];exact e3),e4⟩
 rw[bIe] at hm;obtain rfl:=List.mem_singleton.1 hm;have hh:typeHandle prog 36=.pointer (some ⟨11,36,none⟩):=by kernel_rfl
 rw[hh] at e5;exact(World.var?_cell et e5 0).trans (by rfl)
theorem pQ {l:List (String×DataW Unit)} {W:World} (h:laidMetH prog l W) {n:String} {d:DataW Unit} (hm:(n,d)∈l) (hn:d.handleName?.isNone=true):VarReads prog W n d :=
 let ⟨ps,hv,_⟩:=(laidMetH_iff.1 h).1
 aLu _ ps hv n d (List.mem_filter.2 ⟨hm,hn⟩)
theorem aLv {l:List (String×DataW Unit)} {W:World} (h:laidMetH prog l W) (hs:W.ShapedOpen prog)
 (m1:("strconv.ErrSyntax", (Rows.laid_strconv_ErrSyntax:DataW Unit))∈l) (m2:("strconv.ErrRange", (Rows.laid_strconv_ErrRange:DataW Unit))∈l)
 (m3:("internal/strconv.uint64pow10", (Rows.laid_internal_strconv_uint64pow10:DataW Unit))∈l) (m4:("math/bits.deBruijn64tab", (Rows.laid_math_bits_deBruijn64tab:DataW Unit))∈l):GLd W where
 len:=cell_of_shapedOpen_int (t:=3) (zero:=#[.int .i64 0]) hs (of_decide_eq_true (by kernel_rfl)) (by kernel_rfl) rfl (by kernel_rfl) (by kernel_rfl) underlying3
 errs:=⟨sS (by kernel_rfl) (by kernel_rfl) underlying36 (pQ h m1 (by kernel_rfl)),sS (by kernel_rfl) (by kernel_rfl) underlying36 (pQ h m2 (by kernel_rfl))⟩
 bru:=by
  have ht:Lib.TabIs prog W "math/bits.deBruijn64tab" .u8 [0,1,56,2,57,49,28,3,61,58,42,50,38,29,17,4,62,47,59,36,45,43,51,22,53,39,33,30,24,18,12,5,63,55,48,27,60,41,37,16,46,35,44,21,52,32,23,11,54,26,40,15,34,20,31,10,25,14,19,9,13,8,7,6] :=
   xJ (g:=10) (t:=373) (e:=5) (n:=64) (by kernel_rfl) (by kernel_rfl) (by kernel_rfl) (by kernel_rfl) (by kernel_rfl) (by kernel_rfl) (pQ h m4 (by kernel_rfl))
  exact ht.cell (by kernel_rfl) 15 (by decide)
 pow:=xJ (g:=7) (t:=351) (e:=279) (n:=20) (by kernel_rfl) (by kernel_rfl) (by kernel_rfl) (by kernel_rfl) (by kernel_rfl) (by kernel_rfl) (pQ h m3 (by kernel_rfl))
end Go.Proofs.YtcgnajeenflfaaaGreatDoor.Lo
namespace Go.Proofs.YtcgnajeenflfaaaGreatDoor
namespace topRekeys
theorem closed:joinedFacts prog 4 Tryz.f4 Rows.topRekeysSpec Rows.topRekeysRow=true :=
 (iZ (iZ (iZ (iZ (iZ (iZ (iZ (iZ (iZ (iZ (iZ (iZ (iZ (iZ (iZ (iZ (iZ (iZ (iZ (iZ (iZ (iZ (iZ (iZ (iZ (iZ (iZ (iZ (iZ (iZ (iZ c0 c1) c2) c3) c4) c5) c6) c7) c8) c9) c10) c11) c12) c13) c14) c15) c16) c17) c18) c19) c20) c21) c22) c23) c24) c25) c26) c27) c28) c29) c30) c31)
theorem named:prog.funcNamed Rows.topRekeysRow.func=some 4:=by kernel_rfl
theorem inst:Tryz.f4.isInstance prog Rows.topRekeysRow.origin Rows.topRekeysRow.targs:=of_decide_eq_true (by kernel_rfl)
