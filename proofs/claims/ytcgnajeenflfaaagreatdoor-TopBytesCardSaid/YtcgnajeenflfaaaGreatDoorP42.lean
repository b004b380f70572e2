import Derived.Test.YtcgnajeenflfaaaGreatDoorP41
set_option maxRecDepth 100000
set_option maxHeartbeats 4000000
set_option linter.all false
open Go.Proofs.Tryz Go.RowKit
namespace Go.Proofs.YtcgnajeenflfaaaGreatDoor
namespace Lo
open Go.Maps Go.ChangeMaps
open D (isI64 wf64 zeroInt)
open Ta (El Tm ev emptyT putT rowK rowK_len rowK_inj rowK_fine encRow keyRow_any rowKeyed TabAt)
theorem encRow_inj (x y:List Int) (h:encRow x=encRow y):x=y:=by
 unfold encRow at h
 injection h with h
 have h2:nv x=nv y:=by simpa using congrArg Array.toList h
 unfold nv at h2
 exact(List.map_inj_right (fun a b e=>by injection e)).1 h2
structure TLd (b base S:Nat) (ST:Array Value) (w0:World) (T:Tm) (m:Nat) (wr:World):Prop where
 box:Blk wr (b+2) 169 #[.map (some b),.map (some (b+1))]
 ents:∃ f,MapIs prog 179 encRow wr b f m∧(∀ l,l.length≤8→T.ent l=none→f (rowK l)=none)∧∀ l es,T.ent l=some es→l.length≤8∧es.length≤16∧∃ s,f (rowK l)=some s∧RowIn 4 wr base wr.heap.size s es.length (ev es)
 longs:∃ g k,MapIs prog 3 (Value.int .i64) wr (b+1) g k∧k≤m∧(∀ x,g x=none→T.long x=0)∧∀ x u,g x=some u→u=.int .i64 (T.long x)
 strs:Blk wr S 9 ST
 low:Below b w0 wr
 lo:b+2<S∧S<base∧base≤wr.heap.size∧b=w0.heap.size
section
variable {b base S:Nat} {ST:Array Value} {w0 wr:World} {T:Tm} {m:Nat}
theorem TLd.keep {w':World} (h:TLd b base S ST w0 T m wr) (hb:Below wr.heap.size wr w'):TLd b base S ST w0 T m w' where
 box:=Blk.below h.box hb h.box.lt
 ents:=by
  obtain⟨f,h1,h2,h3⟩:=h.ents
  exact⟨f,h1.keep hb,h2,fun l es hl=>by obtain⟨a1,a2,s,a3,a4⟩:=h3 l es hl;exact⟨a1,a2,s,a3,(a4.later hb).wide lr hb.size⟩⟩
 longs:=by
  obtain⟨g,k,h1,h2⟩:=h.longs
  exact⟨g,k,h1.keep hb,h2⟩
 strs:=Blk.below h.strs hb h.strs.lt
 low:=h.low.trans (hb.mono (by have:=h.low.size;have:=h.lo.2.2.2;omega))
 lo:=⟨h.lo.1,h.lo.2.1,Nat.le_trans h.lo.2.2.1 hb.size,h.lo.2.2.2⟩
theorem TLd.ent (h:TLd b base S ST w0 T m wr) (hm:m<4096) {ps:List Int} {es:List El} {s:Value} (hp:ps.length≤8) (hf:∀ x∈ps,isI64 x) (he:es.length≤16) (hT:T.ent ps=none) (hs:RowIn 4 wr base wr.heap.size s es.length (ev es)) (x:Int) (hx:isI64 x) (hx0:ps.getD 0 0=x) :
 ∃ w2,(Instr.mapUpdate 167 (.map (some b)) (encRow (rowK ps)) s).run prog wr=.ok () w2∧(∃ o,w2=setBlock wr b o) ∧
  ∀ w3,Below w2.heap.size w2 w3→(Instr.lookup 158 (.map (some (b+1))) (.int .i64 x) false).run prog w3=.ok (.int .i64 (T.long x)) w3 ∧
  ∀ mx:Int,mx=max (T.long x) ps.length→∃ w4,(Instr.mapUpdate 158 (.map (some (b+1))) (.int .i64 x) (.int .i64 mx)).run prog w3=.ok () w4∧(∃ o,w4=setBlock w3 (b+1) o)∧TLd b base S ST w0 (putT T ps es) (m+1) w4:=by
 obtain⟨f,h1,h2,h3⟩:=h.ents
 obtain⟨g,k,g1,g2,g3,g4⟩:=h.longs
 obtain⟨kl,hkl⟩:=keyRow_any (rowK ps) (rowK_len ps) (rowK_fine hf)
 obtain⟨w2,a1,a2,o,rfl⟩:=h1.store rowKeyed underlying167 encRow_inj (by unfold maxLen;omega) hkl s
 have hlo:=h.lo
 refine⟨_,a1,⟨o,rfl⟩,fun w3 hb=>?_⟩
 have ob:∀ {k:Nat} {t:TypeId} {cs:Array Value},Blk wr k t cs→k≠b→Blk w3 k t cs:=fun {k t cs} hk hne=>(hb.block k (by rw[setBlock_size];exact hk.lt)).trans ((setBlock_other o hne).trans hk)
 have m1:MapIs prog 3 (Value.int .i64) w3 (b+1) g k:=(g1.of_block (setBlock_other o (by omega))).keep hb
 have hl:=m1.look (int_keyed underlying3) underlying158 (zeroInt w3) (keyOf_int_mk underlying3 (wf64 hx)) false
 have hlv:lookR (.int .i64 0) false (g x)=.int .i64 (T.long x):=by
  cases hg:g x with
  | none=>rw[g3 x hg];rfl
  | some u=>rw[g4 x u hg];rfl
 rw[hlv] at hl
 refine⟨hl,fun mx hmx=>?_⟩
 subst hmx
 obtain⟨w4,b1,b2,o2,rfl⟩:=m1.store (int_keyed underlying3) underlying158 (fun x y h=>by injection h) (by unfold maxLen;omega) (keyOf_int_mk underlying3 (wf64 hx)) (.int .i64 (max (T.long x) ps.length))
 refine⟨_,b1,⟨o2,rfl⟩,?_⟩
 have hz:(setBlock w3 (b+1) o2).heap.size=w3.heap.size:=setBlock_size o2
 have hz2:wr.heap.size≤w3.heap.size:=by have:=hb.size;rw[setBlock_size] at this;exact this
 have rw_:∀ {s n xs},RowIn 4 wr base wr.heap.size s n xs→RowIn 4 (setBlock w3 (b+1) o2) base (setBlock w3 (b+1) o2).heap.size s n xs:=fun hr =>
  (row_hi hr (fun k h1 h2=>(setBlock_other o2 (by omega)).trans ((hb.block k (by rw[setBlock_size];exact h2)).trans (setBlock_other o (by omega))))).wide lr (by rw[hz];exact hz2)
 exact {
  box:=(setBlock_other o2 (by omega)).trans (ob h.box (by omega))
  ents:=by
   refine⟨_,by have:=(a2.keep hb).of_block (setBlock_other (w:=w3) (b:=b+1) o2 (i:=b) (by omega));rw[if_pos (h2 ps hp hT)] at this;exact this,fun l hl hn=>?_,fun l es' hl=>?_⟩
   · have hn':(if l=ps then some es else T.ent l)=none:=hn
     split at hn'
     · cases hn'
     · next e=>rw[putM_other _ _ (fun e2=>e (rowK_inj hl hp e2))];exact h2 l hl hn'
   · have hl':(if l=ps then some es else T.ent l)=some es':=hl
     split at hl'
     · next e=>cases hl';subst e;exact⟨hp,he,s,putM_same _ _ _,rw_ hs⟩
     · next e =>
       obtain⟨c1,c2,s',c3,c4⟩:=h3 l es' hl'
       exact⟨c1,c2,s',by rw[putM_other _ _ (fun e2=>e (rowK_inj c1 hp e2))];exact c3,rw_ c4⟩
  longs:=by
   refine⟨_,_,b2,by split<;>omega,fun y hy=>?_,fun y u hy=>?_⟩
   · have hyx:y≠x:=fun e=>by subst e;rw[putM_same] at hy;cases hy
     rw[putM_other _ _ hyx] at hy
     show (if y=ps.getD 0 0 then max (T.long y) ps.length else T.long y)=0
     rw[hx0,if_neg hyx]
     exact g3 y hy
   · show u=.int .i64 (if y=ps.getD 0 0 then max (T.long y) ps.length else T.long y)
     rw[hx0]
     by_cases hyx:y=x
     · subst hyx;rw[putM_same] at hy;rw[if_pos rfl];cases hy;rfl
     · rw[putM_other _ _ hyx] at hy;rw[if_neg hyx];exact g4 y u hy
  strs:=(setBlock_other o2 (by omega)).trans (ob h.strs (by omega))
  low:=h.low.trans ((setBlock_below o lr).trans ((hb.mono (by rw[setBlock_size];omega)).trans (setBlock_below o2 (by omega))))
  lo:=⟨hlo.1,hlo.2.1,by rw[hz];omega,hlo.2.2.2⟩ }
theorem TLd.tab (h:TLd b base S ST w0 T m wr) (hm:m≤4096):TabAt wr 0 wr.heap.size (.pointer (some ⟨b+2,0,none⟩)) T:=by
 obtain⟨f,h1,h2,h3⟩:=h.ents
 obtain⟨g,k,g1,g2,g3,g4⟩:=h.longs
 exact⟨b+2,b,b+1,f,m,g,k,rfl,⟨Nat.zero_le _,h.box.lt⟩,by simpa using h.box.cell 0,by simpa using h.box.cell 1,⟨Nat.zero_le _,h1.lt⟩,⟨Nat.zero_le _,g1.lt⟩,h1,hm,g1,by omega,h2,
  fun l es hl=>by obtain⟨a1,a2,s,a3,a4⟩:=h3 l es hl;exact⟨a1,a2,s,a3,a4.wide (Nat.zero_le _) lr⟩,g3,g4⟩
theorem TLd.len_ (h:TLd b base S ST w0 T m wr) (ty:TypeId):(Builtin.len_ #[167] ty #[.map (some b)]).run prog wr=.ok (.int .i64 (m:Int)) wr:=by
 obtain⟨f,⟨arr,clock,h1,h2,_⟩,_⟩:=h.ents
 simp[Builtin.len_,run_underlying underlying167,MapKept.run_getObj_map h1,goInt,Result.andThen,h2]
theorem TLd.look (h:TLd b base S ST w0 T m wr) {ps:List Int} (hp:ps.length≤8) (hf:∀ x∈ps,isI64 x):(T.ent ps=none→∀ w',w'.heap[b]?=wr.heap[b]?→(Instr.lookup 167 (.map (some b)) (encRow (rowK ps)) true).run prog w'=.ok (.tuple #[.slice none 0 0,.bool false]) w') ∧
 (T.ent ps≠none→∃ a n c,∀ w',w'.heap[b]?=wr.heap[b]?→(Instr.lookup 167 (.map (some b)) (encRow (rowK ps)) true).run prog w'=.ok (.tuple #[.slice a n c,.bool true]) w'):=by
 obtain⟨f,h1,h2,h3⟩:=h.ents
 obtain⟨kl,hkl⟩:=keyRow_any (rowK ps) (rowK_len ps) (rowK_fine hf)
 have hl:=fun (w':World) (e:w'.heap[b]?=wr.heap[b]?)=>(h1.of_block e).look rowKeyed underlying167 (Tryz.zeroValue170 _) hkl true
 refine⟨fun hT w' e=>?_,fun hT=>?_⟩
 · have:=hl w' e
   rw[h2 ps hp hT] at this
   exact this
 · cases hd:T.ent ps with
   | none=>exact absurd hd hT
   | some es =>
    obtain⟨_,_,s,a3,a4⟩:=h3 ps es hd
    obtain⟨_,a,c,rfl,_⟩:=a4.form
    refine⟨a,es.length,c,fun w' e=>?_⟩
    have:=hl w' e
    rw[a3] at this
    exact this
end
open Ta (El Tm ev emptyT putT rowK rowK_len rowK_inj rowK_fine encRow keyRow_any rowKeyed TabAt linesOf linesOf_le linesOf_small lineP lineE tabM isPtB wfT_empty wfT_put nine rowOf_any right_any)
open Sc (PartPost TabOk)
open We (WfT)
def Qt (a:ByteArray) (T:Tm):Prop:=T=tabM a
abbrev TPost (a:ByteArray) (w:World):Ending→World→Prop:=PartPost (TabOk Qt) a w
theorem tbad {a:ByteArray} {w w':World} {v:Value} {c x:Int} (hc:c≠0) (ha:a.size≠0) (hb:Below w.heap.size w w'):TPost a w (.returned (.tuple #[v,.int .i64 c,.int .i64 x])) w' :=
 ⟨v,c,x,rfl,fun h=>absurd h hc,fun h=>absurd h ha,hb⟩
theorem row_el {w:World} {lo hi n c i:Nat} {a:Option Addr} {es:List El} (h:RowIn 4 w lo hi (.slice a n c) n (ev es)) (hn:es.length=n) (hi_:i<n):∃ (g off:Nat) (x:El),a=some ⟨g,off,none⟩∧es[i]?=some x∧n≤c ∧
 w.cell? ⟨g,off+i*4,none⟩=some (.bool x.v)∧w.cell? ⟨g,off+i*4+1,none⟩=some (.int .i64 x.p)∧w.cell? ⟨g,off+i*4+2,none⟩=some (.int .i64 x.s)∧w.cell? ⟨g,off+i*4+3,none⟩=some (.int .i64 x.t):=by
 obtain⟨hl,a',c',he,hc,_,hcells⟩:=h
 injection he with e1 e2 e3
 subst e1 e3
 have hx:i<es.length:=by omega
 obtain⟨g,off,rfl,_,_,h0⟩:=hcells (i*4) (by omega)
 have at_:∀ k (hk:k<4),w.cell? ⟨g,off+(i*4+k),none⟩=es[i].cells[k]?:=fun k hk=>by
  obtain⟨g',off',ha,_,_,h1⟩:=hcells (i*4+k) (by omega)
  injection ha with ha
  injection ha with h2 h3
  subst h2 h3
  rw[h1,← Ta.ev_at es i hx k hk]
  rw[List.getElem?_eq_getElem]
 refine⟨g,off,es[i],rfl,List.getElem?_eq_getElem hx,hc,?_,?_,?_,?_⟩
 · exact at_ 0 (by omega)
 · have:=at_ 1 (by omega);rw[← Nat.add_assoc] at this;exact this
 · have:=at_ 2 (by omega);rw[← Nat.add_assoc] at this;exact this
 · have:=at_ 3 (by omega);rw[← Nat.add_assoc] at this;exact this
theorem blank_is {q:ByteArray} (h:0<q.size):Ta.blank q=((q[0].toNat:Int)==35):=by
 have e1:q.data.toList.getD 0 0=q[0]:=by
  rw[List.getD,List.getElem?_eq_getElem (show 0<q.data.toList.length by rw[← Lib.size_eq];exact h)]
  rfl
 have e0:(q.size==0)=false:=by rw[beq_eq_false_iff_ne];omega
 unfold Ta.blank
 rw[e0,e1,Bool.false_or]
 by_cases hq:q[0]=35
 · rw[hq];rfl
 · rw[beq_eq_false_iff_ne.2 hq]
   symm
   simp only [beq_eq_false_iff_ne,ne_eq]
   intro e
   exact hq (UInt8.toNat_inj.1 (by show q[0].toNat=35;omega))
theorem pt_i64 {x:Int} (h:isPtB x=true):isI64 x:=by
 simp only [isPtB,Bool.and_eq_true,decide_eq_true_eq] at h
 unfold isI64
 omega
theorem tload_long (a:ByteArray) (ha:65536<a.size) (w:World):Calls prog 38 #[.string a] w (TPost a w):=by
 have q1:decide ((65536:Int)<(a.size:Int))=true:=decide_eq_true (by omega)
 have HA:=zh ha
 clear ha
 go_enter func38,ntmps38
 go_wp2_with fail
 go_ret3
 exact tbad (by decide) (by have:=HA.out;omega) zr
theorem tstart (w:World) (b:Nat) (hb:w.heap.size=b) (W0:World) (hW:((w.alloc (.map #[] 0)).alloc (.map #[] 0)).alloc (.cells #[.map (some b),.map (some (b+1))] 169)=W0)
 (ST:Array Value) (w1:World) (hw1:Below W0.heap.size W0 w1) (hS:Blk w1 (b+3) 9 ST):TLd b w1.heap.size (b+3) ST w emptyT 0 w1:=by
 have b0:MapIs prog 179 encRow (w.alloc (.map #[] 0)) b (fun _=>none) 0:=by rw[← hb];exact MapIs.made ..
 have z1:(w.alloc (.map #[] 0)).heap.size=b+1:=by simp[hb]
 have b1:MapIs prog 3 (Value.int .i64) ((w.alloc (.map #[] 0)).alloc (.map #[] 0)) (b+1) (fun _=>none) 0:=by rw[← z1];exact MapIs.made ..
 have z2:((w.alloc (.map #[] 0)).alloc (.map #[] 0)).heap.size=b+2:=by simp[hb]
 have b2:Blk W0 (b+2) 169 #[.map (some b),.map (some (b+1))]:=by rw[← hW,← z2];exact Blk.new _ _ _
 have c0:MapIs prog 179 encRow W0 b (fun _=>none) 0:=by rw[← hW];exact(b0.keep (zr.alloc lr _)).keep (zr.alloc lr _)
 have c1:MapIs prog 3 (Value.int .i64) W0 (b+1) (fun _=>none) 0:=by rw[← hW];exact b1.keep (zr.alloc lr _)
 have z3:W0.heap.size=b+3:=by rw[← hW];simp[hb]
 have l0:Below b w W0:=by rw[← hW,← hb];exact((zr.alloc lr _).alloc (by simp) _).alloc (by simp;omega) _
 exact {
  box:=Blk.below b2 hw1 b2.lt
  ents:=⟨_,c0.keep hw1,fun _ _ _=>rfl,fun l es h=>by cases (show (none:Option (List El))=some es from h)⟩
  longs:=⟨_,_,c1.keep hw1,Nat.le_refl _,fun _ _=>rfl,fun x u h=>by cases h⟩
  strs:=hS
  low:=l0.trans (hw1.mono (by omega))
  lo:=⟨by omega,hS.lt,Nat.le_refl _,hb.symm⟩ }
theorem tload_fine (a:ByteArray) (ha:a.size≤65536) (w:World) (hg:GLd w):Calls prog 38 #[.string a] w (TPost a w):=by
 have q1:decide ((65536:Int)<(a.size:Int))=false:=decide_eq_false (by omega)
 have hmk:∀ w:World,(Instr.makeMap 167 none).run prog w=.ok (.map (some w.heap.size)) (w.alloc (.map #[] 0)):=fun _=>rfl
 have hmk2:∀ w:World,(Instr.makeMap 158 none).run prog w=.ok (.map (some w.heap.size)) (w.alloc (.map #[] 0)):=fun _=>rfl
 have HG:=zh hg
 have HA:=zh ha
 clear ha hg
 go_enter func38,ntmps38
 go_wp2_with fail
 obtain⟨b,hb⟩:∃ b,w.heap.size=b:=⟨_,rfl⟩
 simp only [hb,Nat.add_assoc,Nat.reduceAdd]
 obtain⟨W0,hW⟩:∃ W0,((w.alloc (.map #[] 0)).alloc (.map #[] 0)).alloc (.cells #[.map (some b),.map (some (b+1))] 169)=W0:=⟨_,rfl⟩
 rw[hW]
 refine(Split_any 10 a (by have:=HA.out;omega) W0 (HG.out.later (by rw[← hW];exact((zr.alloc lr _).alloc (by simp) _).alloc (by simp;omega) _))).mono ?_
 rintro e w1 ⟨rfl,hS,hb1⟩
 have hz3:W0.heap.size=b+3:=by rw[← hW];simp[hb]
 rw[hz3] at hS ⊢
 have hU:=tstart w b hb W0 hW _ w1 hb1 hS
 obtain⟨base,hbase⟩:∃ base,w1.heap.size=base:=⟨_,rfl⟩
 rw[hbase] at hU
 have HSm:=zh (linesOf_small 10 a)
 have HSl:=zh (linesOf_le 10 a)
 have HSz:=zh (show a.size=0→∀ q∈linesOf 10 a,q.size=0 from fun h q hq=>by have:=linesOf_small 10 a q hq;omega)
 have HTM:=zh (show tabM a=(linesOf 10 a).foldl Ta.stepT emptyT from rfl)
 obtain⟨ls,hls⟩:∃ ls,linesOf 10 a=ls:=⟨_,rfl⟩
 obtain⟨n,hn⟩:∃ n,ls.length=n:=⟨_,rfl⟩
 rw[hls] at HSm HSl HSz HTM hU hS ⊢
 rw[hn] at HSl ⊢
 have hnl:n≤65537:=by have:=HSl.out;have:=HA.out;omega
 have HN:=zh hn
 have HU:=zh hU
 have HBB:=zh (show b=w.heap.size from hb.symm)
 clear hU hS hls hn hW hz3 hb1 hb
 go_wp2_with fail
 go_loopw [26] (fun iv wr=>∃ (j m:Nat) (T:Tm),iv=.int .i64 j∧j≤n∧m≤4096∧RowKit.Hid (TLd b base (b+3) (ls.map Value.string).toArray w T m wr)∧RowKit.Hid (WfT T∧T=(ls.take j).foldl Ta.stepT emptyT)) (fun i _=>n-(intOf i).toNat)
 case atStart=>exact⟨0,0,emptyT,rfl,Nat.zero_le _,Nat.zero_le _,HU,zh ⟨wfT_empty,rfl⟩⟩
 case round =>
  obtain⟨j,m,T,rfl,hj,hm,HM,HP⟩:=hrel
  by_cases hlt:j<n
  case neg =>
   have hjn:n=j:=by omega
   subst hjn
   have HQ:=zh (show T=tabM a by rw[HTM.out,HP.out.2,← HN.out,List.take_length])
   go_wp2_with fail
   go_ret3
   exact⟨_,0,0,rfl,fun _=>⟨T,HP.out.1,HQ.out,HM.out.tab hm⟩,fun _=>rfl,by rw[← HBB.out];exact HM.out.low⟩
  obtain⟨q,hq⟩:∃ q,ls[j]?=some q:=⟨_,List.getElem?_eq_getElem (by rw[HN.out];exact hlt)⟩
  have HQm:=zh (List.mem_of_getElem? hq)
  have HTK:=zh (show (ls.take (j+1)).foldl Ta.stepT emptyT=Ta.stepT T q by rw[List.take_add_one,hq,Option.toList_some,List.foldl_append,← HP.out.2];rfl)
  have cq:wr.cell? ⟨b+3,j,none⟩=some (.string q):=(HM.out.strs.cell j).trans (by simp[hq])
  clear hq
  by_cases hq0:q.size=0
  · have hqe:q.toList.isEmpty=true:=by
     obtain⟨⟨l⟩⟩:=q
     cases l with
     | nil=>rw[← decide_eq_emptyBytes];rfl
     | cons _ _=>simp[ByteArray.size] at hq0
    have HP2:=zh (show WfT T∧T=(ls.take (j+1)).foldl Ta.stepT emptyT from⟨HP.out.1,by rw[HTK.out];unfold Ta.stepT;rw[if_pos];unfold Ta.blank;rw[hq0];rfl⟩)
    go_wp2_with fail
    exact⟨⟨j+1,m,T,by simp,by omega,hm,HM,HP2⟩,by simp[intOf];omega⟩
  have hqe:q.toList.isEmpty=false:=by
   rw[← decide_eq_emptyBytes]
   exact decide_eq_false (fun e=>hq0 (by rw[e];rfl))
  have hqp:0<q.size:=by omega
  have HBL:=zh (show Ta.blank q=((q[0].toNat:Int)==35) from blank_is hqp)
  by_cases hq35:((q[0].toNat:Int)==35)=true
  · have HP2:=zh (show WfT T∧T=(ls.take (j+1)).foldl Ta.stepT emptyT from⟨HP.out.1,by rw[HTK.out];unfold Ta.stepT;rw[if_pos (HBL.out.trans hq35)]⟩)
    go_wp2_with fail
    exact⟨⟨j+1,m,T,by simp,by omega,hm,HM,HP2⟩,by simp[intOf];omega⟩
  have hq36:((q[0].toNat:Int)==35)=false:=by simpa using hq35
  have HTK2:=zh (show (ls.take (j+1)).foldl Ta.stepT emptyT=putT T (lineP q) (lineE q) by rw[HTK.out];unfold Ta.stepT;rw[if_neg (by rw[HBL.out,hq36];simp)])
  have HA0:=zh (show a.size≠0 from fun e=>hq0 (HSz.out e q HQm.out))
  have hqs:q.size≤65536:=by have:=HSm.out q HQm.out;have:=HA.out;omega
  have HEN:=zh (entry_any q hqs wr (HG.out.later (by rw[HBB.out] at *;exact HM.out.low)))
  clear hq35 hq0
  go_wp2_with fail
  refine HEN.out.mono ?_
  rintro e w2 ⟨⟨a1,a2,n1,c1,n2,c2,ok,rfl,hok⟩,hb2⟩
  have HM2:=zh (HM.out.keep hb2)
  have HOK:=zh hok
  have hsw:=hb2.size
  clear hok hb2 cq
  cases ok with
  | false =>
   go_wp2_with fail
   go_ret3
   exact tbad (by decide) HA0.out (by rw[← HBB.out];exact(HM2.out.keep (zr.alloc lr (.cells #[.slice a1 n1 c1,.slice a2 n2 c2] 172))).low)
  | true =>
  obtain⟨hpi,hp8,hp1,hpp,he16,hre⟩:=HOK.out rfl
  obtain⟨ps,hps⟩:∃ ps,lineP q=ps:=⟨_,rfl⟩
  obtain⟨es,hes⟩:∃ es,lineE q=es:=⟨_,rfl⟩
  rw[hps] at hpi hp8 hp1 hpp
  rw[hes] at he16 hre
  rw[hps,hes] at HTK2
  obtain rfl:n1=ps.length:=by obtain⟨_,_,h,_⟩:=hpi;injection h
  obtain rfl:n2=es.length:=by obtain⟨_,_,_,h,_⟩:=hre;injection h
  obtain⟨X,hX⟩:∃ X,w2.heap.size=X:=⟨_,rfl⟩
  obtain⟨W3,hW3⟩:∃ W3,w2.alloc (.cells #[.slice a1 ps.length c1,.slice a2 es.length c2] 172)=W3:=⟨_,rfl⟩
  have hb3:Below w2.heap.size w2 W3:=by rw[← hW3];exact zr.alloc lr _
  have hx3:Blk W3 X 172 #[.slice a1 ps.length c1,.slice a2 es.length c2]:=by rw[← hW3,← hX];exact Blk.new _ _ _
  have hr3:=(hre.later hb3).wide lr hb3.size
  have hp3:=(hpi.later hb3).wide lr hb3.size
  have HM3:=zh (HM2.out.keep hb3)
  have HSZ:=zh (show base≤wr.heap.size from HM.out.lo.2.2.1)
  obtain⟨ne,hne⟩:∃ ne,es.length=ne:=⟨_,rfl⟩
  obtain⟨np,hnp⟩:∃ np,ps.length=np:=⟨_,rfl⟩
  rw[hne,hnp] at hx3
  rw[hne] at hr3
  rw[hnp] at hp3
  have HX3:=zh hx3
  have HR3:=zh hr3
  have HP3:=zh hp3
  have HNE:=zh hne
  have HNP:=zh hnp
  have HPS:=zh (And.intro hp8 (And.intro hp1 (And.intro hpp he16)))
  have hW3':=hW3
  rw[hne,hnp] at hW3'
  have HW3:=zh (And.intro hX hW3')
  have x1:W3.cell? ⟨X,1,none⟩=some (.slice a2 ne c2):=by simpa using hx3.cell 1
  have hne16:ne≤16:=by omega
  rw[hne,hnp]
  clear hre hpi hb3 hx3 hr3 hp3 hp8 hp1 hpp he16 hW3 hW3' hX hps hes hne hnp
  go_wp2_with fail
  simp only [HW3.out.1,HW3.out.2]
  go_loopw [50] (fun iv wr3=>∃ (i:Nat),iv=.int .i64 i∧i≤ne∧RowKit.Hid (Below W3.heap.size W3 wr3)∧RowKit.Hid (∀ x∈es.take i,x.fits)) (fun i _=>ne-(intOf i).toNat)
  case atStart=>exact⟨0,rfl,Nat.zero_le _,zh zr,zh (fun x h=>by cases h)⟩
  case round =>
   obtain⟨i,rfl,hi,HB3,HF⟩:=hrel
   have HM4:=zh (HM3.out.keep HB3.out)
   by_cases hlt:i<ne
   · obtain⟨g,off,x,rfl,hxi,hcap,k0,k1,k2,k3⟩:=row_el (HR3.out.later HB3.out) HNE.out hlt
     have HXI:=zh hxi
     have HB4:=zh (HB3.out.alloc HB3.out.size (.cells #[.bool x.v,.int .i64 x.p,.int .i64 x.s,.int .i64 x.t] 176))
     have HRT:=zh (right_any x (wr.alloc (.cells #[.bool x.v,.int .i64 x.p,.int .i64 x.s,.int .i64 x.t] 176)))
     clear hxi
     go_wp2_with fail
     refine HRT.out.mono ?_
     rintro e w5 ⟨⟨bo,rfl,hbo⟩,hb5⟩
     have HB5:=zh (HB4.out.trans (hb5.mono HB4.out.size))
     have HBO:=zh hbo
     clear hb5 hbo
     cases bo with
     | false =>
      go_wp2_with fail
      go_ret3
      exact tbad (by decide) HA0.out (by rw[← HBB.out];exact(HM3.out.keep HB5.out).low)
     | true =>
      have HF2:=zh (show ∀ y∈es.take (i+1),y.fits from fun y hy=>by
       rw[List.take_add_one,HXI.out,Option.toList_some] at hy
       rcases List.mem_append.1 hy with hy | hy
       · exact HF.out y hy
       · rw[List.mem_singleton.1 hy];exact HBO.out rfl)
      go_wp2_with fail
      exact⟨⟨i+1,by simp,by omega,HB5,HF2⟩,by simp[intOf];omega⟩
   · have hine:i=ne:=by omega
     have HFA:=zh (show ∀ x∈es,x.fits from fun x hx=>HF.out x (by rw[hine,← HNE.out,List.take_length];exact hx))
     have HX4:=zh (Blk.below HX3.out HB3.out HX3.out.lt)
     have xp0:wr.cell? ⟨X,0,none⟩=some (.slice a1 np c1):=by simpa using HX4.out.cell 0
     have hp4:=(HP3.out.later HB3.out).wide (Nat.zero_le _) HB3.out.size
     have HRO:=zh (rowOf_any (.slice a1 np c1) ps wr 0 wr.heap.size hp4 lr)
     have HP4:=zh hp4
     clear hp4 hine hi
     go_wp2_with fail
     refine HRO.out.mono ?_
     rintro e w5 ⟨rfl,hb5⟩
     have hd8:decide (ps.length≤8)=true:=decide_eq_true HPS.out.1
     obtain⟨x0,x1',x2,x3,x4,x5,x6,x7,x8,hrow⟩:=nine (rowK_len ps)
     have e1:encRow (rowK ps)=.agg #[.int .i64 x0,.int .i64 x1',.int .i64 x2,.int .i64 x3,.int .i64 x4,.int .i64 x5,.int .i64 x6,.int .i64 x7,.int .i64 x8]:=by rw[hrow];rfl
     rw[e1,hd8]
     have HE:=zh e1
     obtain⟨Y,hY⟩:∃ Y,w5.heap.size=Y:=⟨_,rfl⟩
     obtain⟨W6,hW6⟩:∃ W6,w5.alloc (.cells #[.int .i64 x0,.int .i64 x1',.int .i64 x2,.int .i64 x3,.int .i64 x4,.int .i64 x5,.int .i64 x6,.int .i64 x7,.int .i64 x8] 179)=W6:=⟨_,rfl⟩
     have hb6:Below W3.heap.size W3 W6:=by rw[← hW6];exact(HB3.out.trans (hb5.mono HB3.out.size)).alloc (Nat.le_trans HB3.out.size hb5.size) _
     have hy6:Blk W6 Y 179 #[.int .i64 x0,.int .i64 x1',.int .i64 x2,.int .i64 x3,.int .i64 x4,.int .i64 x5,.int .i64 x6,.int .i64 x7,.int .i64 x8]:=by rw[← hW6,← hY];exact Blk.new _ _ _
     have HB6:=zh hb6
     have HY6:=zh hy6
     have HM6:=zh (HM3.out.keep hb6)
     have HX6:=zh (Blk.below HX3.out hb6 HX3.out.lt)
     have HW6:=zh (And.intro hY hW6)
     have HFI:=zh (fun x (hx:x∈ps)=>pt_i64 (HPS.out.2.2.1 x hx))
     have HLK:=zh (HM6.out.look HPS.out.1 HFI.out)
     have cb:W6.cell? ⟨b+2,0,none⟩=some (.map (some b)):=by simpa using HM6.out.box.cell 0
     have k0:W6.cell? ⟨Y,0,none⟩=some (.int .i64 x0):=by simpa using hy6.cell 0
     have k1:W6.cell? ⟨Y,1,none⟩=some (.int .i64 x1'):=by simpa using hy6.cell 1
     have k2:W6.cell? ⟨Y,2,none⟩=some (.int .i64 x2):=by simpa using hy6.cell 2
     have k3:W6.cell? ⟨Y,3,none⟩=some (.int .i64 x3):=by simpa using hy6.cell 3
     have k4:W6.cell? ⟨Y,4,none⟩=some (.int .i64 x4):=by simpa using hy6.cell 4
     have k5:W6.cell? ⟨Y,5,none⟩=some (.int .i64 x5):=by simpa using hy6.cell 5
     have k6:W6.cell? ⟨Y,6,none⟩=some (.int .i64 x6):=by simpa using hy6.cell 6
     have k7:W6.cell? ⟨Y,7,none⟩=some (.int .i64 x7):=by simpa using hy6.cell 7
     have k8:W6.cell? ⟨Y,8,none⟩=some (.int .i64 x8):=by simpa using hy6.cell 8
     clear hb5 hrow e1 hd8 hb6 hy6 hY hW6 xp0 hlt
     go_wp2_with fail
     simp only [HW6.out.1,HW6.out.2]
     by_cases hT:T.ent ps=none
     case neg =>
      obtain⟨a9,n9,c9,hlk⟩:=HLK.out.2 hT
      rw[HE.out] at hlk
      have lk:=fun n=>hlk (W6.drewN n) rfl
      clear hlk hT
      go_quiet (fail)
      go_wp2_with fail
      go_ret3
      exact tbad (by decide) HA0.out (by rw[← HBB.out];exact Ta.below_drewN HM6.out.low nq)
     have hlk:=HLK.out.1 hT
     rw[HE.out] at hlk
     have lk:=fun n=>hlk (W6.drewN n) rfl
     have HT:=zh hT
     clear hlk hT
     go_quiet (fail)
     obtain⟨W7,hW7⟩:∃ W7,W6.drewN nq=W7:=⟨_,rfl⟩
     have hb7:Below W6.heap.size W6 W7:=by rw[← hW7];exact Ta.below_drewN zr nq
     have HB7:=zh (HB6.out.trans (hb7.mono HB6.out.size))
     have HM7:=zh (HM6.out.keep hb7)
     have HY7:=zh (Blk.below HY6.out hb7 HY6.out.lt)
     have HX7:=zh (Blk.below HX6.out hb7 HX6.out.lt)
     rw[hW7]
     have hlen:=fun ty=>HM7.out.len_ ty
     have cb7:W7.cell? ⟨b+2,0,none⟩=some (.map (some b)):=by simpa using HM7.out.box.cell 0
     have xc1:W7.cell? ⟨X,1,none⟩=some (.slice a2 ne c2):=by simpa using HX7.out.cell 1
     clear lk cb k0 k1 k2 k3 k4 k5 k6 k7 k8 hW7 hb7
     have k0:W7.cell? ⟨Y,0,none⟩=some (.int .i64 x0):=by simpa using HY7.out.cell 0
     have k1:W7.cell? ⟨Y,1,none⟩=some (.int .i64 x1'):=by simpa using HY7.out.cell 1
     have k2:W7.cell? ⟨Y,2,none⟩=some (.int .i64 x2):=by simpa using HY7.out.cell 2
     have k3:W7.cell? ⟨Y,3,none⟩=some (.int .i64 x3):=by simpa using HY7.out.cell 3
     have k4:W7.cell? ⟨Y,4,none⟩=some (.int .i64 x4):=by simpa using HY7.out.cell 4
     have k5:W7.cell? ⟨Y,5,none⟩=some (.int .i64 x5):=by simpa using HY7.out.cell 5
     have k6:W7.cell? ⟨Y,6,none⟩=some (.int .i64 x6):=by simpa using HY7.out.cell 6
     have k7:W7.cell? ⟨Y,7,none⟩=some (.int .i64 x7):=by simpa using HY7.out.cell 7
     have k8:W7.cell? ⟨Y,8,none⟩=some (.int .i64 x8):=by simpa using HY7.out.cell 8
     by_cases hfull:m=4096
     · have e1:((m:Int)==4096)=true:=by simp;omega
       clear hfull
       go_wp2_with fail
       go_ret3
       exact tbad (by decide) HA0.out (by rw[← HBB.out];exact HM7.out.low)
     have e1:((m:Int)==4096)=false:=by simp;omega
     have HMF:=zh (show m<4096 by omega)
     clear hfull
     obtain⟨_,_,he0,hnc,hcells⟩:=YtcgnajeenflfaaaGreatDoor.D.IntsIn.get HP3.out
     injection he0 with he1 he2 he3
     subst he1 he3
     obtain⟨g0,off0,rfl,hg0,hg1,hc0⟩:=hcells 0 (by have:=HPS.out.2.1;omega)
     obtain⟨x,hx⟩:∃ x,ps[0]'(by have:=HPS.out.2.1;omega)=x:=⟨_,rfl⟩
     rw[hx] at hc0
     have hx0:ps.getD 0 0=x:=by rw[List.getD,List.getElem?_eq_getElem (by have:=HPS.out.2.1;omega),hx];rfl
     have hxi:isI64 x:=HFI.out x (hx▸List.getElem_mem _)
     have hz7:=HB7.out.size
     have hz3:=HR3.out
     have hs7:RowIn 4 W7.drew base W7.drew.heap.size (.slice a2 ne c2) es.length (ev es):=by rw[HNE.out];exact(HR3.out.later (HB7.out.drew)).wide HSZ.out hz7
     obtain⟨w8,hst,⟨o8,ho8⟩,hnx⟩:=(HM7.out.keep (Below.refl W7.heap.size W7).drew).ent HMF.out HPS.out.1 HFI.out HPS.out.2.2.2 HT.out hs7 x hxi hx0
     rw[HE.out] at hst
     have hk8:∀ {p:Addr} {v:Value},p.block≠b→W7.cell? p=some v→w8.cell? p=some v:=fun {p v} hp hv=>by
      rw[ho8]
      exact(World.cell?_of_block (setBlock_other (w:=W7.drew) o8 hp)).trans hv
     have hlo:=HM7.out.lo
     have hbX:X≠b:=by have h1:=HX3.out.lt;have h2:=HW3.out.1;have h3:=HM2.out.lo;omega
     have cb8:w8.cell? ⟨b+2,1,none⟩=some (.map (some (b+1))):=hk8 (by show b+2≠b;omega) (by simpa using HM7.out.box.cell 1)
     have xa8:w8.cell? ⟨X,0,none⟩=some (.slice (some ⟨g0,off0,none⟩) np c1):=hk8 hbX (by simpa using HX7.out.cell 0)
     have xp8:w8.cell? ⟨g0,off0,none⟩=some (.int .i64 x):=hk8 (by show g0≠b;have:=HSZ.out;omega) ((HB7.out.cell (p:=⟨g0,off0,none⟩) hg1).trans hc0)
     obtain⟨hl8,hmu⟩:=hnx w8.drew zr.drew
     obtain⟨mx,hmx⟩:∃ mx,max (T.long x) (np:Int)=mx:=⟨_,rfl⟩
     obtain⟨w9,hst9,⟨o9,ho9⟩,hm9⟩:=hmu mx (by rw[HNP.out,hmx])
     have hk9:∀ {p:Addr} {v:Value},p.block≠b+1→w8.cell? p=some v→w9.cell? p=some v:=fun {p v} hp hv=>by
      rw[ho9]
      exact(World.cell?_of_block (setBlock_other (w:=w8.drew) o9 hp)).trans hv
     have cb9:w9.cell? ⟨b+2,1,none⟩=some (.map (some (b+1))):=hk9 (by show b+2≠b+1;omega) cb8
     have xa9:w9.cell? ⟨X,0,none⟩=some (.slice (some ⟨g0,off0,none⟩) np c1):=hk9 (by show X≠b+1;have h1:=HX3.out.lt;have h2:=HW3.out.1;have h3:=HM2.out.lo;omega) xa8
     have xp9:w9.cell? ⟨g0,off0,none⟩=some (.int .i64 x):=hk9 (by show g0≠b+1;have:=HSZ.out;omega) xp8
     have HM9:=zh hm9
     have HP9:=zh (show WfT (putT T ps es)∧putT T ps es=(ls.take (j+1)).foldl Ta.stepT emptyT from⟨wfT_put HP.out.1 (fun e=>by have:=HPS.out.2.1;rw[e] at this;cases this) HPS.out.1 HPS.out.2.2.2 (fun y hy=>HFA.out y hy),HTK2.out.symm⟩)
     have hnp1:0<np:=by have:=HPS.out.2.1;have:=HNP.out;omega
     have hmf:=HMF.out
     clear hk9 ho9 hk8 hnx hm9 hmu hs7 hz3 ho8 hx hx0 hcells hlo he2 hnc
     go_wp2_with fail
     apply region_1e
     case h =>
      go_region
      all_goals exact⟨rfl,rfl,rfl⟩
     go_wp2_with fail
     clear k0 k1 k2 k3 k4 k5 k6 k7 k8 cb7 xc1 hlen
     apply region_1e
     case h =>
      go_region_held3 (fun w'=>w'.cell? ⟨b+2,1,none⟩=some (.map (some (b+1)))∧w'.cell? ⟨X,0,none⟩=some (.slice (some ⟨g0,off0,none⟩) np c1)∧w'.cell? ⟨g0,off0,none⟩=some (.int .i64 x)) (go_keep) (fail)
      all_goals exact⟨rfl,rfl,rfl⟩
     go_wp2_with fail
     exact⟨⟨j+1,m+1,putT T ps es,by simp,by omega,by omega,HM9,HP9⟩,by simp[intOf];omega⟩
theorem tload_any (a:ByteArray) (w:World) (hg:GLd w):Calls prog 38 #[.string a] w (TPost a w):=by
 by_cases h:65536<a.size
 · exact tload_long a h w
 · exact tload_fine a (by omega) w hg
end Lo
namespace V
theorem VI.tupleOf {w:World} {lo hi:Nat} {p:Pt} {v:Value} (hv:VI w lo hi p v) (h7:p.kind=7) :
 ∃ (a:Option Addr) (cap:Nat) (F:Nat→Value),v=.iface 118 (.agg #[.slice a p.items.length cap])∧(∀ j,j<p.items.length→∃ g,a=some ⟨g,0,none⟩∧lo≤g∧g<hi∧w.cell? ⟨g,j,none⟩=some (F j))∧∀ j (h:j<p.items.length),VI w lo hi p.items[j] (F j):=by
 cases hv with
 | null _ h=>omega
 | truth _ h=>omega
 | whole _ h=>omega
 | row _ _ _ _ h=>omega
 | tuple _ _ a cap F hc cells deep=>exact⟨a,cap,F,rfl,cells,deep⟩
theorem VI.truthOf {w:World} {lo hi:Nat} {p:Pt} {v:Value} (hv:VI w lo hi p v) (h:p.kind=1):v=.iface 148 (.agg #[.bool p.yes]):=by
 cases hv with
 | null _ h=>omega
 | truth _ h=>rfl
 | whole _ h=>omega
 | row _ _ h _ _=>omega
 | tuple _ h a cap F hc cells deep=>omega
theorem VI.wholeOf {w:World} {lo hi:Nat} {p:Pt} {v:Value} (hv:VI w lo hi p v) (h:p.kind=2):v=.iface 220 (.agg #[.bool p.neg,.string p.mag]):=by
 cases hv with
 | null _ h=>omega
 | truth _ h=>omega
 | whole _ h=>rfl
 | row _ _ _ h _=>omega
 | tuple _ h a cap F hc cells deep=>omega
theorem VI.rowOf {w:World} {lo hi:Nat} {p:Pt} {v:Value} (hv:VI w lo hi p v) (h0:p.kind≠0) (h1:p.kind≠1) (h2:p.kind≠2) (h7:p.kind≠7):v=.iface 222 (.agg #[.int .u8 p.kind,.string p.raw]):=by
 cases hv with
 | null _ h=>omega
 | truth _ h=>omega
 | whole _ h=>omega
 | row _ _ _ _ _=>rfl
 | tuple _ h a cap F hc cells deep=>omega
theorem samev_any (p:Pt):∀ (q:Pt) (v u:Value) (w:World),mayB p=true→mayB q=true→VI w 0 w.heap.size p v→VI w 0 w.heap.size q u →
 Calls prog 36 #[v,u] w fun e w'=>e=.returned (.bool (sameP p q))∧Below w.heap.size w w':=by
 induction p using Pt.ind with
 | h p ih =>
 intro q v u w hp hq hv hu
 by_cases h0:p.kind=0∨q.kind=0
 · exact samev_null p q v u w hp hq hv hu h0
 · by_cases hk:p.kind=q.kind
   · obtain⟨s0,s1,s2,s3,s4⟩:=same_one hp hq hk
     by_cases h7:p.kind=7
     · have hq7:q.kind=7:=by omega
       have hlen:=may_len hp h7
       have hlenq:=may_len hq hq7
       have hS:=s4 h7
       obtain⟨a,cap,F,rfl,hcells,hdeep⟩:=hv.tupleOf h7
       obtain⟨b,capb,G,rfl,hcells',hdeep'⟩:=hu.tupleOf hq7
       have f1:=is_truth_tuple
       have f2:=has_Number_tuple
       have f3:=has_Raw_tuple
       have f4:=has_List_tuple
       have m1:∀ w:World,(method 512 118 (.agg #[.slice a p.items.length cap]) "Kind").run prog w=.ok (278,.agg #[.slice a p.items.length cap]) w:=fun _=>by kernel_rfl
       have m2:∀ w:World,(method 512 118 (.agg #[.slice b q.items.length capb]) "Kind").run prog w=.ok (278,.agg #[.slice b q.items.length capb]) w:=fun _=>by kernel_rfl
       have m3:∀ w:World,(method 512 118 (.agg #[.slice a p.items.length cap]) "Len").run prog w=.ok (279,.agg #[.slice a p.items.length cap]) w:=fun _=>by kernel_rfl
       have m4:∀ w:World,(method 512 118 (.agg #[.slice b q.items.length capb]) "Len").run prog w=.ok (279,.agg #[.slice b q.items.length capb]) w:=fun _=>by kernel_rfl
       have m5:∀ w:World,(method 512 118 (.agg #[.slice a p.items.length cap]) "At").run prog w=.ok (277,.agg #[.slice a p.items.length cap]) w:=fun _=>by kernel_rfl
       have m6:∀ w:World,(method 512 118 (.agg #[.slice b q.items.length capb]) "At").run prog w=.ok (277,.agg #[.slice b q.items.length capb]) w:=fun _=>by kernel_rfl
       have HC:=zh hcells
       have HD:=zh hdeep
       have HC':=zh hcells'
       have HD':=zh hdeep'
       have HP:=zh hp
       have HQ:=zh hq
       have IH:=zh ih
       clear hv hu hcells hdeep hcells' hdeep' hp hq ih s0 s1 s2 s3 s4 h0 hk h7 hq7
       by_cases hl:p.items.length=q.items.length
       · have g5:((p.items.length:Int) != (q.items.length:Int))=false:=by simp;omega
         have HN:=zh (show sameP p q=sameL (p.items.drop 0) (q.items.drop 0) by rw[hS];rfl)
         have HL:=zh hl
         have hla:=Nat.le_of_eq hl
         have hlb:=Nat.le_of_eq hl.symm
         clear hl hS
         go_enter func36,ntmps36
         go_wp2_with fail
         refine(kind_tuple _ _ _ _).mono ?_
         rintro e w1 ⟨rfl,hb1⟩
         go_wp2_with fail
         refine(kind_tuple _ _ _ _).mono ?_
         rintro e w2 ⟨rfl,hb2⟩
         go_wp2_with fail
         refine(len_tuple _ _ _ _).mono ?_
         rintro e w3 ⟨rfl,hb3⟩
         go_wp2_with fail
         refine(len_tuple _ _ _ _).mono ?_
         rintro e w4 ⟨rfl,hb4⟩
         go_wp2_with fail
         refine(len_tuple _ _ _ _).mono ?_
         rintro e w5 ⟨rfl,hb5⟩
         have hB5:=two (two (two (two hb1 hb2) hb3) hb4) hb5
         clear hb1 hb2 hb3 hb4 hb5
         go_wp2_with fail
         go_loopw [94] (fun i wr=>∃ k:Nat,k≤p.items.length∧i=.int .i64 k∧RowKit.Hid (sameP p q=sameL (p.items.drop k) (q.items.drop k))∧Below w.heap.size w wr) (fun i _=>p.items.length-(intOf i).toNat)
         case atStart=>exact⟨0,Nat.zero_le _,rfl,HN,hB5⟩
         case round =>
          clear hB5
          obtain⟨k,hkl,rfl,HK,hB⟩:=hrel
          by_cases hlt:k<p.items.length
          · have q3:decide (k<p.items.length)=true:=by simpa using hlt
            have hltq:k<q.items.length:=by omega
            obtain⟨g,rfl,_,hg,hc⟩:=HC.out k hlt
            obtain⟨g',rfl,_,hg',hc'⟩:=HC'.out k hltq
            have HE:=zh (sameL_drop HL.out hlt)
            have hmem:p.items[k]∈p.items:=List.getElem_mem _
            have hmemq:q.items[k]∈q.items:=List.getElem_mem _
            have hvi:=zh (HD.out k hlt)
            have hvi':=zh (HD'.out k hltq)
            obtain⟨y,hy⟩:∃ y,p.items[k]=y:=⟨_,rfl⟩
            obtain⟨z,hz⟩:∃ z,q.items[k]=z:=⟨_,rfl⟩
            rw[hy] at HE hmem hvi
            rw[hz] at HE hmemq hvi'
            have hmy:=zh (mayB_item HP.out hmem)
            have hmz:=zh (mayB_item HQ.out hmemq)
            have HCk:=zh (keep hB hg hc)
            have hc1:=zh hc'
            clear hy hz hc hc'
            go_wp2_with fail
            refine(at_in g _ cap k (F k) _ (by omega) hlt HCk.out).mono ?_
            rintro e w6 ⟨rfl,hb6⟩
            have hB6:=hB.trans (hb6.mono hB.size)
            go_wp2_with fail
            refine(at_in g' _ capb k (G k) _ (by omega) hltq (keep hB6 hg' hc1.out)).mono ?_
            rintro e w7 ⟨rfl,hb7⟩
            have hB7:=hB6.trans (hb7.mono hB6.size)
            go_wp2_with fail
            refine(IH.out y hmem z (F k) (G k) _ hmy.out hmz.out (hvi.out.later hB7) (hvi'.out.later hB7)).mono ?_
            rintro e w8 ⟨rfl,hb8⟩
            have hB8:=hB7.trans (hb8.mono hB7.size)
            clear hB hB6 hB7 hb6 hb7 hb8
            cases hd:sameP y z with
            | true =>
             have HR:=zh (show sameP p q=sameL (p.items.drop (k+1)) (q.items.drop (k+1)) by rw[HK.out,HE.out,hd];rfl)
             clear hd
             go_wp2_with fail
             refine⟨?_,by simp[intOf];omega⟩
             first
              | exact⟨k+1,by omega,rfl,HR,hB8⟩
              | ((repeat apply Exists.intro);exact⟨⟨k+1,by omega,rfl,HR,hB8⟩,rfl⟩)
            | false =>
             have HR:=zh (show sameP p q=false by rw[HK.out,HE.out,hd];rfl)
             clear hd
             go_wp2_with fail
             go_ret
             exact⟨by rw[HR.out];rfl,hB8⟩
          · have q3:decide (k<p.items.length)=false:=by simpa using hlt
            have HR:=zh (show sameP p q=true by rw[HK.out,List.drop_of_length_le (by omega),List.drop_of_length_le (by omega),sameL_nil])
            go_wp2_with fail
            go_ret
            exact⟨by rw[HR.out];rfl,hB⟩
       · have g5:((p.items.length:Int) != (q.items.length:Int))=true:=by simp;omega
         have HN:=zh (show sameP p q=false by rw[hS,sameL_false hl])
         clear hl hS
         go_enter func36,ntmps36
         go_wp2_with fail
         refine(kind_tuple _ _ _ _).mono ?_
         rintro e w1 ⟨rfl,hb1⟩
         go_wp2_with fail
         refine(kind_tuple _ _ _ _).mono ?_
         rintro e w2 ⟨rfl,hb2⟩
         go_wp2_with fail
         refine(len_tuple _ _ _ _).mono ?_
         rintro e w3 ⟨rfl,hb3⟩
         go_wp2_with fail
         refine(len_tuple _ _ _ _).mono ?_
         rintro e w4 ⟨rfl,hb4⟩
         go_wp2_with fail
         go_ret
         exact⟨by rw[HN.out];rfl,two (two (two hb1 hb2) hb3) hb4⟩
     · by_cases h1:p.kind=1
       · rw[hv.truthOf h1,hu.truthOf (by omega),s1 h1]
         exact samev_truth _ _ w
       · by_cases h2:p.kind=2
         · rw[hv.wholeOf h2,hu.wholeOf (by omega),s2 h2]
           exact samev_whole _ _ _ _ w _ rfl
         · rw[hv.rowOf (by omega) h1 h2 h7,hu.rowOf (by omega) (by omega) (by omega) (by omega),s3 (by omega) h1 h2 h7,← hk]
           exact samev_row _ _ _ w _ rfl
   · exact samev_kinds p q v u w hv hu (by omega) (by omega) hk
theorem Same_any (p q:Pt) (v u:Value) (w:World) (hp:mayB p=true) (hq:mayB q=true) (hv:VI w 0 w.heap.size p v) (hu:VI w 0 w.heap.size q u) :
 Calls prog 18 #[v,u] w fun e w'=>e=.returned (.bool (sameP p q))∧Below w.heap.size w w':=by
 have HP:=zh hp
 have HQ:=zh hq
 have HV:=zh hv
 have HU:=zh hu
 clear hp hq hv hu
 go_enter func18,ntmps18
 go_wp2_with fail
 refine(samev_any p q v u _ HP.out HQ.out HV.out HU.out).mono ?_
 rintro e w1 ⟨rfl,hb1⟩
 go_wp2_with fail
 go_ret
 exact⟨rfl,hb1⟩
