import Derived.Laws.AppendOwnNone
import Derived.Lib.BufferWrite
import Derived.Maps.OwnIn
import Derived.Test.YtcgnajeenflfaaaGreatDoorRows
import Derived.WalkLawsBesides
import Derived.WalkSpells
import Derived.Test.YtcgnajeenflfaaaGreatDoorP0
set_option maxRecDepth 100000
set_option maxHeartbeats 4000000
set_option linter.all false
open Go.Proofs.Tryz Go.RowKit
namespace Go.Proofs.YtcgnajeenflfaaaGreatDoor
section
def nv (l:List Int):List Value:=l.map (Value.int .i64)
theorem nv_length (l:List Int):(nv l).length=l.length:=by simp[nv]
theorem nv_append (l m:List Int):nv l++nv m=nv (l++m):=by simp[nv]
theorem nv_one (l:List Int):∀ u∈nv l,u.oneCell'=true:=by
 intro u hu
 simp only [nv,List.mem_map] at hu
 obtain⟨c,_,rfl⟩:=hu
 rfl
def OwnN (w:World) (base:Nat) (v:Value) (l:List Int):Prop:=w.ownsRow base 3 1 v l.length (nv l)
theorem OwnN.nil (w:World) (base:Nat):OwnN w base (.slice none 0 0) []:=World.ownsRow_nil w base 3 1
theorem OwnN.below {w w':World} {base:Nat} {v:Value} {l:List Int} (h:OwnN w base v l) (hb:Below w.heap.size w w'):OwnN w' base v l:=by
 refine⟨h.1,?_⟩
 rcases h.2 with hn | ⟨g,cap,cur,rfl,hg,hgg,rest⟩
 · exact .inl hn
 · exact .inr ⟨g,cap,cur,rfl,hg,(hb.block g (Array.getElem?_eq_some_iff.1 hgg).1).trans hgg,rest⟩
theorem OwnN.low {w:World} {base base':Nat} {v:Value} {l:List Int} (h:OwnN w base v l) (hb:base'≤base):OwnN w base' v l:=by
 refine⟨h.1,?_⟩
 rcases h.2 with hn | ⟨g,cap,cur,rfl,hg,hgg,rest⟩
 · exact .inl hn
 · exact .inr ⟨g,cap,cur,rfl,by omega,hgg,rest⟩
theorem row_slice {w:World} {base:Nat} {e:TypeId} {size:Nat} {v:Value} {n:Nat} {xs:List Value} (h:w.ownsRow base e size v n xs):∃ a cap,v=.slice a n cap:=by
 rcases h.2 with ⟨rfl,rfl⟩ | ⟨g,cap,_,rfl,_⟩
 · exact⟨_,_,rfl⟩
 · exact⟨_,_,rfl⟩
theorem len16 {n:Nat} (h:n≤1099511627776):n≤maxLen:=Nat.le_trans h (by decide)
def IntsIn (w:World) (lo hi:Nat) (v:Value) (l:List Int):Prop :=
 ∃ (a:Option Addr) (cap:Nat),v=.slice a l.length cap∧l.length≤cap∧(a=none→cap=0) ∧
  ∀ j (h:j<l.length),∃ g off,a=some ⟨g,off,none⟩∧lo≤g∧g<hi∧w.cell? ⟨g,off+j,none⟩=some (.int .i64 l[j])
theorem IntsIn.nil (w:World) (lo hi:Nat):IntsIn w lo hi (.slice none 0 0) []:=⟨none,0,rfl,Nat.le_refl _,fun _=>rfl,fun j h=>by cases h⟩
theorem IntsIn.wide {w:World} {lo hi lo' hi':Nat} {v:Value} {l:List Int} (h:IntsIn w lo hi v l) (h1:lo'≤lo) (h2:hi≤hi'):IntsIn w lo' hi' v l:=by
 obtain⟨a,cap,rfl,hc,hn,hcells⟩:=h
 exact⟨a,cap,rfl,hc,hn,fun j hj=>by obtain⟨g,off,ha,h3,h4,h5⟩:=hcells j hj;exact⟨g,off,ha,by omega,by omega,h5⟩⟩
theorem IntsIn.later {w w':World} {lo hi:Nat} {v:Value} {l:List Int} (h:IntsIn w lo hi v l) (hb:Below hi w w'):IntsIn w' lo hi v l:=by
 obtain⟨a,cap,rfl,hc,hn,hcells⟩:=h
 exact⟨a,cap,rfl,hc,hn,fun j hj=>by obtain⟨g,off,ha,h3,h4,h5⟩:=hcells j hj;exact⟨g,off,ha,h3,h4,(hb.cell (p:=⟨g,off+j,none⟩) h4).trans h5⟩⟩
theorem OwnN.reads {w:World} {base:Nat} {v:Value} {l:List Int} (h:OwnN w base v l):IntsIn w base w.heap.size v l:=by
 rcases h.2 with ⟨rfl,hn⟩ | ⟨g,cap,cur,rfl,hg,hgg,h1,h2,h3,h4⟩
 · obtain rfl:l=[]:=List.eq_nil_of_length_eq_zero hn
   exact IntsIn.nil ..
 · refine⟨_,cap,rfl,h1,fun h=>by(cases h),fun j hj=>⟨g,0,rfl,hg,(Array.getElem?_eq_some_iff.1 hgg).1,?_⟩⟩
   have h5:cur[j]?=some (.int .i64 l[j]):=by
    have h6:=congrArg (·[j]?) h4
    simp only [Nat.mul_one,nv,List.getElem?_map,List.getElem?_eq_getElem hj,Option.map_some] at h6
    rw[List.getElem?_take_of_lt hj] at h6
    simpa using h6
   simp[World.cell?,hgg,h5]
theorem OwnN.alloc {w:World} {base:Nat} {v:Value} {l:List Int} (h:OwnN w base v l) (o:Obj):OwnN (w.alloc o) base v l:=World.ownsRow.alloc h o
theorem OwnN.one (w:World) (base:Nat) (x:Int) (hb:base≤w.heap.size):OwnN (w.alloc (.cells #[.int .i64 x] 3)) base (.slice (some ⟨w.heap.size,0,none⟩) 1 1) [x] :=
 World.ownsRow_lit w #[.int .i64 x] 1 hb (by decide) rfl
theorem OwnN.two (w:World) (base:Nat) (x y:Int) (hb:base≤w.heap.size):OwnN (w.alloc (.cells #[.int .i64 x,.int .i64 y] 3)) base (.slice (some ⟨w.heap.size,0,none⟩) 2 2) [x,y] :=
 World.ownsRow_lit w #[.int .i64 x,.int .i64 y] 2 hb (by decide) rfl
theorem infoInt:(prog.info? 3).map (fun i=>(i.zero,i.size,i.bytes))=some (some (.int .i64 0),1,8):=by kernel_rfl
theorem wpList_append_ints {ops:Array Oper} {rest:List Oper} {o:Oper} {a:Act} {Q:Exit→Act→World→Prop} {W w:World} (hgd:o.guard=none) (s x:Operand)
 (ho:o.op=.call { callee:=.builtin .append,args:=#[s,x],argTypes:=#[42,42] })
 {base:Nat} {v:Value} {l:List Int} (hs:a.eval s=v) (hown:OwnN w base v l) {lo hi:Nat} {u:Value} {m:List Int} (hx:a.eval x=u) (hu:IntsIn w lo hi u m)
 (hlen:l.length+m.length≤1099511627776) (hB:Below base W w) (hbase:base≤w.heap.size)
 (h:∀ c cap w',OwnN w' base (.slice c (l.length+m.length) cap) (l++m)→Below base W w'→base≤w'.heap.size→w.heap.size≤w'.heap.size→wpList prog ops Q rest (a.put o.dst (.slice c (l.length+m.length) cap)) w'):wpList prog ops Q (o::rest) a w:=by
 obtain⟨i0,hi,hz0,hz1,hz2⟩:=info_parts infoInt
 obtain⟨ad,cap,rfl,hc,hn,hcells⟩:=hu
 have fin:∀ v' w',w'.ownsRow base 3 1 v' (l.length+m.length) (nv l++nv m)→w.grownBy w' v.ownBlock→wpList prog ops Q rest (a.put o.dst v') w':=by
  intro v' w' ho' hg
  obtain⟨c,cap',rfl⟩:=row_slice ho'
  refine h c cap' w' ?_ (hB.grown hg hbase fun k hk=>(World.ownsRow.lt hown k hk).1) (Nat.le_trans hbase hg.size) hg.size
  unfold OwnN
  rw[nv_append] at ho'
  simpa using ho'
 cases ad with
 | none =>
  have hm:m=[]:=by
   cases m with
   | nil=>rfl
   | cons y r=>obtain⟨g,off,ha,_⟩:=hcells 0 (Nat.zero_lt_succ _);cases ha
  subst hm
  obtain rfl:=hn rfl
  exact wpList_append_own_none hgd s x 42 ho base 3 i0 1 underlying42 hi v l.length (nv l) hs hown hx (fin v w (by simpa[nv,OwnN] using hown) ⟨rfl,rfl,rfl,Nat.le_refl _,fun _ _ _=>rfl⟩)
 | some ad =>
  have hnews:∀ j u,(nv m)[j]?=some u→w.cell? (ad.add j)=some u:=by
   intro j u hu
   simp only [nv,List.getElem?_map,Option.map_eq_some_iff] at hu
   obtain⟨y,hy,rfl⟩:=hu
   obtain⟨hj,rfl⟩:=List.getElem?_eq_some_iff.1 hy
   obtain⟨g,off,ha,_,_,h3⟩:=hcells j hj
   cases ha
   by_cases h0:j=0
   · subst h0;simpa[Addr.add] using h3
   · simpa[Addr.add,h0] using h3
  exact wpList_append_own w hgd s x 42 ho base 3 i0 (.int .i64 0) 1 8 underlying42 hi hz0 hz1 hz2 rfl (by decide) v l.length (nv l) hs hown ad m.length cap (nv m) hx (by simp[nv_length]) hnews (nv_one m) (len16 hlen) (by omega) hbase (fun v' w' h1 h2 _=>fin v' w' h1 h2)
end
section
open Go.Maps Go.ChangeMaps Go.MapKept
section
variable {P:Program} {k:TypeId} {κ:Type} [DecidableEq κ] {enc:κ→Value} {w w':World} {b n:Nat} {f:κ→Option Value}
def MapIs (P:Program) (k:TypeId) (enc:κ→Value) (w:World) (b:Nat) (f:κ→Option Value) (n:Nat):Prop :=
 ∃ arr clock,w.heap[b]?=some (.map arr clock)∧arr.size=n∧Stamped arr clock∧(∀ e∈arr.toList,∃ x l,e.key=enc x∧keyOf P k (enc x)=some l) ∧
  ∀ x v,f x=some v↔∃ e∈arr.toList,e.key=enc x∧e.val=v
omit [DecidableEq κ] in
theorem MapIs.lt (h:MapIs P k enc w b f n):b<w.heap.size:=by
 obtain⟨arr,clock,hb,_⟩:=h
 exact(Array.getElem?_eq_some_iff.1 hb).1
omit [DecidableEq κ] in
theorem MapIs.of_block (h:MapIs P k enc w b f n) (he:w'.heap[b]?=w.heap[b]?):MapIs P k enc w' b f n:=by
 obtain⟨arr,clock,hb,r⟩:=h
 exact⟨arr,clock,he.trans hb,r⟩
omit [DecidableEq κ] in
theorem MapIs.later {B:Nat} (h:MapIs P k enc w b f n) (hb:Below B w w') (hB:b<B):MapIs P k enc w' b f n:=h.of_block (hb.block b hB)
omit [DecidableEq κ] in
theorem MapIs.keep (h:MapIs P k enc w b f n) (hb:Below w.heap.size w w'):MapIs P k enc w' b f n:=h.later hb h.lt
def lookR (z:Value) (c:Bool):Option Value→Value
 | some v=>if c then .tuple #[v,.bool true] else v
 | none=>if c then .tuple #[z,.bool false] else z
omit [DecidableEq κ] in
theorem MapIs.look {t e:TypeId} (h:MapIs P k enc w b f n) (K:Keyed P k) (ht:P.underlying t=some (.map k e)) {z:Value} (hz:(zeroValue e).run P w=.ok z w)
 {x:κ} {kl:Lit} (hkey:keyOf P k (enc x)=some kl) (c:Bool):(Instr.lookup t (.map (some b)) (enc x) c).run P w=.ok (lookR z c (f x)) w:=by
 obtain⟨arr,clock,hb,_,hs,hk,hf⟩:=h
 rcases K.find w hkey arr.toList (fun e he=>by obtain⟨y,l,h1,h2⟩:=hk e he;exact⟨l,h1▸h2⟩) with ⟨h1,h2⟩ | ⟨j,e0,h1,h2,h3⟩
 · have:f x=none:=by
    cases h:f x with
    | none=>rfl
    | some v=>obtain⟨y,hy,h4,_⟩:=(hf x v).1 h;exact absurd h4 (h2 y hy)
   rw[this]
   simp[Instr.lookup,run_underlying ht,MapKept.run_getObj_map hb,K.check w _ hkey,h1,hz,Result.andThen,lookR]
 · have:f x=some e0.val:=(hf x e0.val).2 ⟨e0,List.mem_of_getElem? h2,h3,rfl⟩
   rw[this]
   simp[Instr.lookup,run_underlying ht,MapKept.run_getObj_map hb,K.check w _ hkey,h1,Result.andThen,lookR]
def putM (f:κ→Option Value) (key:κ) (val:Value):κ→Option Value:=fun x=>if x=key then some val else f x
theorem putM_same (f:κ→Option Value) (key:κ) (val:Value):putM f key val key=some val:=if_pos rfl
theorem putM_other (f:κ→Option Value) {key x:κ} (val:Value) (h:x≠key):putM f key val x=f x:=if_neg h
theorem MapIs.store {t e:TypeId} (h:MapIs P k enc w b f n) (K:Keyed P k) (ht:P.underlying t=some (.map k e)) (henc:∀ x y,enc x=enc y→x=y) (hroom:n<maxLen)
 {x:κ} {kl:Lit} (hkey:keyOf P k (enc x)=some kl) (val:Value) :
 ∃ w',(Instr.mapUpdate t (.map (some b)) (enc x) val).run P w=.ok () w'∧MapIs P k enc w' b (putM f x val) (if f x=none then n+1 else n)∧(∃ o,w'=setBlock w b o):=by
 obtain⟨arr,clock,hb,hn,hs,hk,hf⟩:=h
 rcases K.find w hkey arr.toList (fun e he=>by obtain⟨y,l,h1,h2⟩:=hk e he;exact⟨l,h1▸h2⟩) with ⟨h1,h2⟩ | ⟨j,e0,h1,h2,h3⟩
 · have hnone:f x=none:=by
    cases h:f x with
    | none=>rfl
    | some v=>obtain⟨y,hy,h4,_⟩:=(hf x v).1 h;exact absurd h4 (h2 y hy)
   refine⟨setBlock w b (.map (arr.push ⟨enc x,val,clock⟩) (clock+1)),?_,⟨arr.push ⟨enc x,val,clock⟩,clock+1,?_,?_,stamped_push hs h2,?_,?_⟩,_,rfl⟩
   · simp[Instr.mapUpdate,run_underlying ht,MapKept.run_getObj_map hb,K.check w false hkey,h1,MapKept.run_setObj_map _ hb,Result.andThen,setBlock]
   · simp[setBlock,(Array.getElem?_eq_some_iff.1 hb).1]
   · rw[if_pos hnone];simp[hn]
   · intro e he
     simp only [Array.toList_push,List.mem_append,List.mem_singleton] at he
     rcases he with he | rfl
     · exact hk e he
     · exact⟨x,kl,rfl,hkey⟩
   · intro y v
     simp only [Array.toList_push,List.mem_append,List.mem_singleton]
     by_cases hy:y=x
     · subst hy
       rw[putM_same]
       constructor
       · intro h;cases h;exact⟨_,Or.inr rfl,rfl,rfl⟩
       · rintro ⟨e,he | rfl,h4,rfl⟩
         · exact absurd h4 (h2 e he)
         · rfl
     · rw[putM_other _ _ hy,hf]
       constructor
       · rintro ⟨e,he,h4,h5⟩;exact⟨e,Or.inl he,h4,h5⟩
       · rintro ⟨e,he | rfl,h4,h5⟩
         · exact⟨e,he,h4,h5⟩
         · exact absurd (henc _ _ h4).symm hy
 · have hsome:f x=some e0.val:=(hf x e0.val).2 ⟨e0,List.mem_of_getElem? h2,h3,rfl⟩
   have hj:arr[j]?=some e0:=by simpa using h2
   have hkeyf:∀ e',arr[j]?=some e'→({ e' with key:=enc x,val:=val }:MapEntry).key=e'.key:=fun e' he'=>by rw[hj] at he';cases he';exact h3.symm
   have hlist:(arr.modify j (fun e'=>{ e' with key:=enc x,val:=val })).toList=arr.toList.set j { e0 with key:=enc x,val:=val }:=by rw[Array.toList_modify,modify_eq_set _ _ _ _ h2]
   have hjl:j<arr.toList.length:=(List.getElem?_eq_some_iff.1 h2).1
   have hpw:arr.toList.Pairwise (fun x y=>x.key≠y.key):=((stamped_iff arr clock).1 hs).2.2
   have other:∀ (i:Nat) (e:MapEntry),arr.toList[i]?=some e→i≠j→e.key≠enc x:=by
    intro i e he hij
    rw[← h3]
    obtain⟨hi,he⟩:=List.getElem?_eq_some_iff.1 he
    obtain⟨_,h2'⟩:=List.getElem?_eq_some_iff.1 h2
    rw[List.pairwise_iff_getElem] at hpw
    rcases Nat.lt_or_gt_of_ne hij with h | h
    · have:=hpw i j hi hjl h;rw[he,h2'] at this;exact this
    · have:=hpw j i hjl hi h;rw[he,h2'] at this;exact this.symm
   have mem:∀ e,e∈arr.toList.set j { e0 with key:=enc x,val:=val }↔(e={ e0 with key:=enc x,val:=val }∨(e∈arr.toList∧e.key≠enc x)):=by
    intro e
    constructor
    · intro he
      obtain⟨i,hi,ex⟩:=List.getElem_of_mem he
      rw[List.getElem_set] at ex
      split at ex
      · exact Or.inl ex.symm
      · rename_i hne
        have hi':i<arr.toList.length:=by simpa using hi
        exact Or.inr ⟨ex▸List.getElem_mem hi',other i e (by rw[List.getElem?_eq_getElem hi',ex]) (fun h=>hne h.symm)⟩
    · rintro (rfl | ⟨he,hne⟩)
      · exact List.mem_iff_getElem.2 ⟨j,by simpa using hjl,by simp⟩
      · obtain⟨i,hi,ex⟩:=List.getElem_of_mem he
        refine List.mem_iff_getElem.2 ⟨i,by simpa using hi,?_⟩
        rw[List.getElem_set,if_neg (fun h=>?_)]
        · exact ex
        · subst h
          obtain⟨_,h2'⟩:=List.getElem?_eq_some_iff.1 h2
          rw[h2'] at ex
          subst ex
          exact hne h3
   refine⟨setBlock w b (.map (arr.modify j (fun e'=>{ e' with key:=enc x,val:=val })) clock),?_,⟨arr.modify j (fun e'=>{ e' with key:=enc x,val:=val }),clock,?_,?_,stamped_modify hs _ _ (fun _ _=>rfl) (fun e' _ he'=>hkeyf e' he'),?_,?_⟩,_,rfl⟩
   · simp[Instr.mapUpdate,run_underlying ht,MapKept.run_getObj_map hb,K.check w false hkey,h1,hj,h3,K.stays w hkey,MapKept.run_setObj_map _ hb,Result.andThen,setBlock]
   · simp[setBlock,(Array.getElem?_eq_some_iff.1 hb).1]
   · rw[if_neg (by rw[hsome];simp)];simpa using hn
   · intro e he
     rw[hlist] at he
     rcases (mem e).1 he with rfl | ⟨he,_⟩
     · exact⟨x,kl,rfl,hkey⟩
     · exact hk e he
   · intro y v
     rw[hlist]
     by_cases hy:y=x
     · subst hy
       rw[putM_same]
       constructor
       · intro h;cases h;exact⟨_,(mem _).2 (Or.inl rfl),rfl,rfl⟩
       · rintro ⟨e,he,h4,rfl⟩
         rcases (mem e).1 he with rfl | ⟨_,hne⟩
         · rfl
         · exact absurd h4 hne
     · rw[putM_other _ _ hy,hf]
       constructor
       · rintro ⟨e,he,h4,h5⟩;exact⟨e,(mem e).2 (Or.inr ⟨he,fun h=>hy (henc _ _ (h4.symm.trans h))⟩),h4,h5⟩
       · rintro ⟨e,he,h4,h5⟩
         rcases (mem e).1 he with rfl | ⟨he,_⟩
         · exact absurd (henc _ _ h4).symm hy
         · exact⟨e,he,h4,h5⟩
omit [DecidableEq κ] in
theorem MapIs.made (P:Program) (k:TypeId) (enc:κ→Value) (w:World):MapIs P k enc (w.alloc (.map #[] 0)) w.heap.size (fun _=>none) 0 :=
 ⟨#[],0,(MapKept.heap_alloc w _).1,rfl,stamped_empty 0,fun e he=>by simp at he,fun x v=>by simp⟩
theorem setBlock_other (o:Obj) {i:Nat} (h:i≠b):(setBlock w b o).heap[i]?=w.heap[i]?:=by
 simp only [setBlock]
 rw[Array.getElem?_setIfInBounds,if_neg (fun e=>h e.symm)]
theorem setBlock_below {B:Nat} (o:Obj) (hb:B≤b):Below B w (setBlock w b o) :=
 ⟨rfl,rfl,rfl,by simp[setBlock],fun i hi=>setBlock_other o (by omega)⟩
theorem setBlock_size (o:Obj):(setBlock w b o).heap.size=w.heap.size:=by simp[setBlock]
end
end
namespace D
open Go.Maps
abbrev Dm:=Int→Option (Int×List Int)
def classM (D:Dm) (x:Int):Int:=((D x).map (·.1)).getD 0
def partsOf (D:Dm) (x:Int):List Int:=((D x).map (·.2)).getD []
def sylB (x:Int):Bool:=decide (44032≤x)&&decide (x<55204)
def sylL (x:Int):List Int :=
 [4352+(x-44032) / 588,4449+(x-44032) % 588 / 28]++(if (x-44032) % 28=0 then [] else [4519+(x-44032) % 28])
def partsF (D:Dm):Nat→Int→List Int
 | 0,x=>[x]
 | f+1,x=>if sylB x then (sylL x).flatMap (partsF D f) else if (partsOf D x).isEmpty then [x] else (partsOf D x).flatMap (partsF D f)
def partsM (D:Dm) (x:Int):List Int:=partsF D 5000 x
def isI64 (x:Int):Prop:=-9223372036854775808≤x∧x≤9223372036854775807
theorem wf64 {x:Int} (h:isI64 x):(Lit.int .i64 x).wf=true:=by
 unfold isI64 at h
 simp only [Lit.wf,IntKind.min,IntKind.max,IntKind.signed,IntKind.bits,Bool.and_eq_true,decide_eq_true_eq,if_true]
 omega
structure Wf (D:Dm):Prop where
 plain:∀ x c l,D x=some (c,l)→sylB x=false∧∀ q∈l,sylB q=false∧0≤q∧q≤1114111
 cls:∀ x c l,D x=some (c,l)→0≤c∧c≤254
 rank:∃ r:Int→Nat,(∀ x,r x≤4500)∧∀ x c l,D x=some (c,l)→∀ q∈l,r q<r x
 size:∀ x,sylB x=false→(partsM D x).length≤18
def DataAt (w:World) (lo hi:Nat) (v:Value) (D:Dm):Prop :=
 ∃ pd b f n,v=.pointer (some ⟨pd,0,none⟩)∧(lo≤pd∧pd<hi)∧w.cell? ⟨pd,0,none⟩=some (.map (some b))∧(lo≤b∧b<hi)∧MapIs prog 3 (Value.int .i64) w b f n∧n≤4096 ∧
  (∀ x,D x=none→f x=none)∧∀ x c l,D x=some (c,l)→∃ s,f x=some (.agg #[.int .i64 x,.int .i64 c,s])∧IntsIn w lo hi s l
theorem DataAt.later {w w':World} {lo hi B:Nat} {v:Value} {D:Dm} (h:DataAt w lo hi v D) (hb:Below B w w') (hB:hi≤B):DataAt w' lo hi v D:=by
 obtain⟨pd,b,f,n,rfl,h1,h2,h3,h4,h5,h6,h7⟩:=h
 refine⟨pd,b,f,n,rfl,h1,(hb.cell (p:=⟨pd,0,none⟩) (by show pd<B;omega)).trans h2,h3,h4.later hb (by omega),h5,h6,fun x c l hx=>?_⟩
 obtain⟨s,hs,hi⟩:=h7 x c l hx
 exact⟨s,hs,hi.later (hb.mono hB)⟩
theorem DataAt.wide {w:World} {lo hi lo' hi':Nat} {v:Value} {D:Dm} (h:DataAt w lo hi v D) (h1:lo'≤lo) (h2:hi≤hi'):DataAt w lo' hi' v D:=by
 obtain⟨pd,b,f,n,rfl,a1,a2,a3,a4,a5,a6,a7⟩:=h
 refine⟨pd,b,f,n,rfl,by omega,a2,by omega,a4,a5,a6,fun x c l hx=>?_⟩
 obtain⟨s,hs,hi⟩:=a7 x c l hx
 exact⟨s,hs,hi.wide h1 h2⟩
theorem DataAt.look {w:World} {lo hi:Nat} {v:Value} {D:Dm} (h:DataAt w lo hi v D) (x:Int) (hx:isI64 x) :
 ∃ pd b y s,v=.pointer (some ⟨pd,0,none⟩)∧pd<hi∧w.cell? ⟨pd,0,none⟩=some (.map (some b)) ∧
  (Instr.lookup 155 (.map (some b)) (.int .i64 x) false).run prog w=.ok (.agg #[.int .i64 y,.int .i64 (classM D x),s]) w∧IntsIn w lo hi s (partsOf D x):=by
 obtain⟨pd,b,f,n,rfl,h1,h2,h3,h4,h5,h6,h7⟩:=h
 have hl:=h4.look (int_keyed underlying3) underlying155 (Tryz.zeroValue162 _) (keyOf_int_mk underlying3 (wf64 hx)) false
 cases hd:D x with
 | none =>
  rw[h6 x hd] at hl
  exact⟨pd,b,0,_,rfl,h1.2,h2,by simpa[lookR,classM,hd] using hl,by simpa[partsOf,hd] using IntsIn.nil w lo hi⟩
 | some cl =>
  obtain⟨c,l⟩:=cl
  obtain⟨s,hs,hi⟩:=h7 x c l hd
  rw[hs] at hl
  exact⟨pd,b,x,s,rfl,h1.2,h2,by simpa[lookR,classM,hd] using hl,by simpa[partsOf,hd] using hi⟩
theorem mark1 (y c:Int) (a:Option Addr) (n cap:Nat) (w:World):(Instr.field 162 (.agg #[.int .i64 y,.int .i64 c,.slice a n cap]) 1).run prog w=.ok (.int .i64 c) w:=by kernel_rfl
theorem mark2 (y c:Int) (a:Option Addr) (n cap:Nat) (w:World):(Instr.field 162 (.agg #[.int .i64 y,.int .i64 c,.slice a n cap]) 2).run prog w=.ok (.slice a n cap) w:=by kernel_rfl
theorem sylB_iff (x:Int):sylB x=true↔44032≤x∧x<55204:=by simp[sylB]
theorem syllable_any (x:Int) (w:World):Calls prog 115 #[.int .i64 x] w fun e w'=>e=.returned (.bool (sylB x))∧w'=w:=by
 by_cases h1:44032≤x
 · by_cases h2:x<55204
   · rw[show sylB x=true by simp[sylB,h1,h2]]
     go_enter func115,ntmps115
     go_wp2_with fail
     go_ret
     exact⟨rfl,rfl⟩
   · rw[show sylB x=false by simp[sylB,h2]]
     go_enter func115,ntmps115
     go_wp2_with fail
     go_ret
     exact⟨rfl,rfl⟩
 · rw[show sylB x=false by simp[sylB,h1]]
   go_enter func115,ntmps115
   go_wp2_with fail
   go_ret
   exact⟨rfl,rfl⟩
theorem Class_any (v:Value) (D:Dm) (x:Int) (hx:isI64 x) (w:World) (hi:Nat) (hd:DataAt w 0 hi v D) :
 Calls prog 245 #[v,.int .i64 x] w fun e w'=>e=.returned (.int .i64 (classM D x))∧w'=w:=by
 obtain⟨pd,b,y,s,rfl,h1,h2,h3,h4⟩:=hd.look x hx
 obtain⟨a,cap,rfl,_,_,_⟩:=h4
 have fd:=mark1 y (classM D x) a (partsOf D x).length cap
 clear hd
 go_enter func245,ntmps245
 go_wp2_with fail
 go_ret
 exact⟨rfl,rfl⟩
theorem IntsIn.get {w:World} {lo hi:Nat} {v:Value} {l:List Int} (h:IntsIn w lo hi v l):∃ a cap,v=.slice a l.length cap∧l.length≤cap ∧
 ∀ j (h:j<l.length),∃ g off,a=some ⟨g,off,none⟩∧lo≤g∧g<hi∧w.cell? ⟨g,off+j,none⟩=some (.int .i64 l[j]):=by
 obtain⟨a,cap,e,hc,_,r⟩:=h
 exact⟨a,cap,e,hc,r⟩
theorem flat_take (l:List Int) (P:Int→List Int) (j:Nat) (h:j<l.length):(l.take (j+1)).flatMap P=(l.take j).flatMap P++P l[j]:=by
 rw[List.take_add_one,List.getElem?_eq_getElem h,List.flatMap_append];simp
theorem flat_len (l:List Int) (P:Int→List Int) (n:Nat) (h:∀ q∈l,(P q).length≤n):(l.flatMap P).length≤l.length*n:=by
 induction l with
 | nil=>simp
 | cons q r ih =>
  have h1:=h q (List.mem_cons_self ..)
  have h2:=ih (fun x hx=>h x (List.mem_cons_of_mem _ hx))
  rw[List.flatMap_cons,List.length_append,List.length_cons,Nat.add_mul];omega
theorem ends_any (v:Value) (D:Dm) (P:Int→List Int) (l:List Int) (s:Value) (w:World) (hd:DataAt w 0 w.heap.size v D) (hs:IntsIn w 0 w.heap.size s l) (hl:l.length≤18) (hP:∀ q∈l,(P q).length≤18)
 (HP:Hid (∀ q∈l,∀ w1,DataAt w1 0 w1.heap.size v D→Calls prog 243 #[v,.int .i64 q] w1 fun e w2=>∃ u,e=.returned u∧OwnN w2 w1.heap.size u (P q)∧Below w1.heap.size w1 w2)) :
 Calls prog 248 #[v,s] w fun e w'=>∃ u,e=.returned u∧OwnN w' w.heap.size u (l.flatMap P)∧Below w.heap.size w w':=by
 obtain⟨pd,hpd⟩:∃ pd,v=.pointer (some pd):=by obtain⟨pd,_,_,_,h,_⟩:=hd;exact⟨_,h⟩
 subst hpd
 have HD:=zh hd
 obtain⟨a,cap,rfl,hcap,hcell⟩:=IntsIn.get hs
 have HC:=zh hcell
 have HL:=zh hP
 clear hd hs hcell hP
 go_enter func248,ntmps248
 go_wp2_with fail
 go_loopw [5,10] (fun o i wr=>∃ (j:Nat) (M:List Int),j≤l.length∧i=.int .i64 j∧OwnN wr w.heap.size o M∧Below w.heap.size w wr∧RowKit.Hid (M=(l.take j).flatMap P)) (fun _ i _=>l.length-(intOf i).toNat)
 case atStart=>exact⟨0,[],Nat.zero_le _,rfl,OwnN.nil _ _,zr,zh rfl⟩
 case round =>
  obtain⟨j,M,hj,rfl,hO,hB,HM⟩:=hrel
  obtain⟨a5,cap5,rfl⟩:=row_slice hO
  by_cases hlt:j<l.length
  · obtain⟨g,off,rfl,_,hg,hc⟩:=HC.out j hlt
    have hc':=(hB.cell (p:=⟨g,off+j,none⟩) hg).trans hc
    obtain⟨N,hN⟩:∃ N,P l[j]=N:=⟨_,rfl⟩
    have HN:=zh hN
    have hlen:M.length+N.length≤1099511627776:=by
     have h1:=flat_len (l.take j) P 18 (fun q hq=>HL.out q (List.mem_of_mem_take hq))
     have h2:=HL.out l[j] (List.getElem_mem hlt)
     have h3:(l.take j).length≤18:=by simp;omega
     have h4:(l.take j).length*18≤18*18:=Nat.mul_le_mul_right 18 h3
     rw[HM.out,← hN]
     omega
    clear hN
    go_wp2_with fail
    refine(HP.out l[j] (List.getElem_mem hlt) wr ((HD.out.later hB lr).wide lr hB.size)).mono ?_
    rintro e w2 ⟨u,rfl,hu,hb2⟩
    rw[HN.out] at hu
    have hO2:=hO.below hb2
    have hB2:=hB.trans (hb2.mono hB.size)
    have hur:=hu.reads
    go_wp2_with (at_builtin;refine wpList_append_ints rfl (.tmp 14) (.tmp 17) rfl rfl hO2 rfl hur hlen hB2 hB2.size ?_;intro c3 cap3 w3 hO3 hB3 _ _)
    refine⟨⟨j+1,M++N,by omega,by simp,?_,hB3,zh (by rw[flat_take l P j hlt,HM.out,HN.out])⟩,by simp[intOf];omega⟩
    simpa using hO3
  · obtain rfl:j=l.length:=by omega
    have hM:=HM.out
    rw[List.take_length] at hM
    go_wp2_with fail
    go_ret
    exact⟨_,rfl,hM▸hO,hB⟩
def Fuel (r:Int→Nat) (f:Nat) (x:Int):Prop:=(sylB x=false∧r x<f)∨(sylB x=true∧∀ q∈sylL x,r q+1<f)
theorem sylL_in {x q:Int} (h:sylB x=true) (hq:q∈sylL x):4352≤q∧q≤4600:=by
 rw[sylB_iff] at h
 unfold sylL at hq
 split at hq<;>simp at hq<;>omega
theorem sylB_low {q:Int} (h:q≤44031):sylB q=false:=by simp[sylB];omega
theorem parts_mem {D:Dm} {x:Int} (h:partsOf D x≠[]):∃ c,D x=some (c,partsOf D x):=by
 cases hd:D x with
 | none=>simp[partsOf,hd] at h
 | some cl=>obtain⟨c,l⟩:=cl;exact⟨c,by simp[partsOf,hd]⟩
theorem flat_congr {l:List Int} {P Q:Int→List Int} (h:∀ q∈l,P q=Q q):l.flatMap P=l.flatMap Q:=by
 induction l with
 | nil=>rfl
 | cons q r ih=>rw[List.flatMap_cons,List.flatMap_cons,h q (List.mem_cons_self ..),ih (fun x hx=>h x (List.mem_cons_of_mem _ hx))]
theorem flat_ge (l:List Int) (P:Int→List Int) (h:∀ q∈l,P q≠[]):l.length≤(l.flatMap P).length:=by
 induction l with
 | nil=>simp
 | cons q t ih =>
  have h1:=h q (List.mem_cons_self ..)
  have h2:=ih (fun x hx=>h x (List.mem_cons_of_mem _ hx))
  have h3:0<(P q).length:=List.length_pos_iff.2 h1
  rw[List.flatMap_cons,List.length_append,List.length_cons];omega
section
variable {D:Dm} {r:Int→Nat} (wf:Wf D) (hr:∀ x c l,D x=some (c,l)→∀ q∈l,r q<r x)
include wf hr
theorem partsF_same:∀ (n:Nat) (x:Int),r x<n→∀ f g,sylB x=false→r x<f→r x<g→partsF D f x=partsF D g x:=by
 intro n
 induction n with
 | zero=>intro x h;omega
 | succ n ih =>
  intro x hx f g hs hf hg
  obtain⟨f,rfl⟩:∃ k,f=k+1:=⟨f-1,by omega⟩
  obtain⟨g,rfl⟩:∃ k,g=k+1:=⟨g-1,by omega⟩
  unfold partsF
  rw[hs]
  simp only [Bool.false_eq_true,if_false]
  by_cases hp:partsOf D x=[]
  · simp[hp]
  · obtain⟨c,hc⟩:=parts_mem hp
    rw[if_neg (by simpa using hp),if_neg (by simpa using hp)]
    refine flat_congr fun q hq=>?_
    have h1:=hr x c _ hc q hq
    exact ih q (by omega) f g ((wf.plain x c _ hc).2 q hq).1 (by omega) (by omega)
theorem partsF_le {x:Int} {f:Nat} (hb:r x≤4500) (hs:sylB x=false) (hf:r x<f):(partsF D f x).length≤18:=by
 have:=wf.size x hs
 unfold partsM at this
 rwa [partsF_same wf hr (r x+1) x (by omega) 5000 f hs (by omega) hf] at this
theorem partsF_ne (f:Nat) (x:Int) (hs:sylB x=false):r x<f→partsF D f x≠[]:=by
 induction f generalizing x with
 | zero=>intro h;omega
 | succ f ih =>
  intro hf
  unfold partsF
  rw[hs]
  simp only [Bool.false_eq_true,if_false]
  by_cases hp:partsOf D x=[]
  · simp[hp]
  · obtain⟨c,hc⟩:=parts_mem hp
    rw[if_neg (by simpa using hp)]
    cases hl:partsOf D x with
    | nil=>exact absurd hl hp
    | cons q t =>
     have hq:q∈partsOf D x:=by rw[hl];exact List.mem_cons_self ..
     have:=ih q ((wf.plain x c _ hc).2 q hq).1 (by have:=hr x c _ hc q hq;omega)
     simp[this]
end
theorem Parts_f {D:Dm} {r:Int→Nat} (wf:Wf D) (hr:∀ x c l,D x=some (c,l)→∀ q∈l,r q<r x) (hb:∀ x,r x≤4500) (v:Value):∀ (f:Nat) (x:Int) (w:World),Fuel r f x→isI64 x→DataAt w 0 w.heap.size v D →
 Calls prog 243 #[v,.int .i64 x] w fun e w'=>∃ u,e=.returned u∧OwnN w' w.heap.size u (partsF D f x)∧Below w.heap.size w w':=by
 intro f
 induction f with
 | zero =>
  intro x w hf
  rcases hf with ⟨_,h⟩ | ⟨h,h2⟩
  · omega
  · exact absurd (h2 (4352+(x-44032) / 588) (by unfold sylL;simp)) (by omega)
 | succ f ih =>
  intro x w hf hx hd
  have IH:=zh ih
  clear ih
  obtain⟨pd,b,y,s,rfl,h1,h2,h3,h4⟩:=hd.look x hx
  obtain⟨a,cap,rfl,hcap,hcell⟩:=IntsIn.get h4
  have HD:=zh hd
  have HS:=zh h4
  clear hd hcell h4
  cases hs:sylB x with
  | true =>
   have hfu:∀ q∈sylL x,r q+1<f+1:=by
    rcases hf with ⟨h,_⟩ | ⟨_,h⟩
    · rw[hs] at h;cases h
    · exact h
   have HX:=zh (show ∀ q∈sylL x,Fuel r f q∧isI64 q∧(partsF D f q).length≤18 from fun q hq=>by
    have h1:=sylL_in hs hq
    have h2:=hfu q hq
    have h3:sylB q=false:=sylB_low (by omega)
    exact⟨.inl ⟨h3,by omega⟩,by unfold isI64;omega,partsF_le wf hr (hb q) h3 (by omega)⟩)
   have HR:=zh (show partsF D (f+1) x=(sylL x).flatMap (partsF D f) by rw[partsF,hs];rfl)
   have hb2:=(sylB_iff x).1 hs
   obtain⟨S,hS⟩:∃ S,x-44032=S:=⟨_,rfl⟩
   obtain⟨A,hA⟩:∃ A,S / 588=A:=⟨_,rfl⟩
   obtain⟨M,hM⟩:∃ M,S % 588=M:=⟨_,rfl⟩
   obtain⟨B,hB⟩:∃ B,M / 28=B:=⟨_,rfl⟩
   obtain⟨C,hC⟩:∃ C,S % 28=C:=⟨_,rfl⟩
   have f0:wrap64 (x-44032)=S:=by rw[hS];unfold wrap64;omega
   have f1:wrap64 (S.tdiv 588)=A:=by rw[Int.tdiv_eq_ediv_of_nonneg (by omega),hA];unfold wrap64;omega
   have f2:wrap64 (4352+A)=4352+A:=by unfold wrap64;omega
   have f3:S.tmod 588=M:=by rw[Int.tmod_eq_emod_of_nonneg (by omega),hM]
   have f4:wrap64 (M.tdiv 28)=B:=by rw[Int.tdiv_eq_ediv_of_nonneg (by omega),hB];unfold wrap64;omega
   have f5:wrap64 (4449+B)=4449+B:=by unfold wrap64;omega
   have f6:S.tmod 28=C:=by rw[Int.tmod_eq_emod_of_nonneg (by omega),hC]
   have f7:wrap64 (4519+C)=4519+C:=by unfold wrap64;omega
   by_cases hc0:C=0
   · have f8:(C != 0)=false:=by simpa using hc0
     have HL:=zh (show sylL x=[4352+A,4449+B] by unfold sylL;rw[hS,hA,hM,hB,hC,if_pos hc0];rfl)
     clear hS hA hM hB hC hb2 hfu hc0 hf
     go_enter func243,ntmps243
     go_wp2_with fail
     refine(syllable_any x w).mono ?_
     rintro e w1 ⟨rfl,rfl⟩
     rw[hs]
     go_wp2_with fail
     have hown:=OwnN.two w1 w1.heap.size (4352+A) (4449+B) lr
     have hb1:=(Below.refl w1.heap.size w1).alloc lr (.cells #[.int .i64 (4352+A),.int .i64 (4449+B)] 3)
     refine(ends_any (.pointer (some ⟨pd,0,none⟩)) D (partsF D f) [4352+A,4449+B] _ _ ((HD.out.later hb1 lr).wide lr hb1.size) (hown.reads.wide (Nat.zero_le _) lr) (by simp) (fun q hq=>(HX.out q (by rw[HL.out];exact hq)).2.2)
      (zh fun q hq w' hd'=>IH.out q w' (HX.out q (by rw[HL.out];exact hq)).1 (HX.out q (by rw[HL.out];exact hq)).2.1 hd')).mono ?_
     rintro e w3 ⟨u,rfl,hu,hb3⟩
     rw[← HL.out,← HR.out] at hu
     have hub:=hu.low hb1.size
     have hB3:=hb1.trans (hb3.mono hb1.size)
     clear hu hb3
     go_wp2_with fail
     go_ret
     exact⟨_,rfl,hub,hB3⟩
   · have f8:(C != 0)=true:=by simpa using hc0
     have HL:=zh (show sylL x=[4352+A,4449+B]++[4519+C] by unfold sylL;rw[hS,hA,hM,hB,hC,if_neg hc0])
     clear hS hA hM hB hC hb2 hfu hc0 hf
     go_enter func243,ntmps243
     go_wp2_with fail
     refine(syllable_any x w).mono ?_
     rintro e w1 ⟨rfl,rfl⟩
     rw[hs]
     have hown:=OwnN.two w1 w1.heap.size (4352+A) (4449+B) lr
     have hb1:=(Below.refl w1.heap.size w1).alloc lr (.cells #[.int .i64 (4352+A),.int .i64 (4449+B)] 3)
     have hone:=(OwnN.one (w1.alloc (.cells #[.int .i64 (4352+A),.int .i64 (4449+B)] 3)) w1.heap.size (4519+C) hb1.size).reads
     have hb2:=hb1.alloc hb1.size (.cells #[.int .i64 (4519+C)] 3)
     simp only [World.size_alloc] at hone
     go_wp2_with (at_builtin;refine wpList_append_ints rfl (.tmp 25) (.tmp 29) rfl rfl (hown.alloc _) rfl hone (by simp) hb2 hb2.size ?_;intro c3 cap3 w3 hO3 hB3 _ _)
     refine(ends_any (.pointer (some ⟨pd,0,none⟩)) D (partsF D f) ([4352+A,4449+B]++[4519+C]) _ _ ((HD.out.later hB3 lr).wide lr hB3.size) (hO3.reads.wide (Nat.zero_le _) lr) (by simp) (fun q hq=>(HX.out q (by rw[HL.out];exact hq)).2.2)
      (zh fun q hq w' hd'=>IH.out q w' (HX.out q (by rw[HL.out];exact hq)).1 (HX.out q (by rw[HL.out];exact hq)).2.1 hd')).mono ?_
     rintro e w4 ⟨u,rfl,hu,hb4⟩
     rw[← HL.out,← HR.out] at hu
     have hub:=hu.low hB3.size
     have hB4:=hB3.trans (hb4.mono hB3.size)
     clear hu hb4
     go_wp2_with fail
     go_ret
     exact⟨_,rfl,hub,hB4⟩
  | false =>
   have hfu:r x<f+1:=by
    rcases hf with ⟨_,h⟩ | ⟨h,_⟩
    · exact h
    · rw[hs] at h;cases h
   by_cases hp:partsOf D x=[]
   · have HR:=zh (show partsF D (f+1) x=[x] by rw[partsF,hs];simp[hp])
     rw[hp] at hcap HS
     have f1:(((([]:List Int).length:Nat):Int)==0)=true:=rfl
     rw[hp] at h3
     clear hf hfu hp
     go_enter func243,ntmps243
     go_wp2_with fail
     refine(syllable_any x w).mono ?_
     rintro e w1 ⟨rfl,rfl⟩
     rw[hs]
     go_wp2_with fail
     go_ret
     have hb1:=(Below.refl w1.heap.size w1).alloc lr (.cells #[.int .i64 y,.int .i64 (classM D x),.slice a 0 cap] 162)
     have hone:=OwnN.one (w1.alloc (.cells #[.int .i64 y,.int .i64 (classM D x),.slice a 0 cap] 162)) w1.heap.size x hb1.size
     rw[World.size_alloc] at hone
     exact⟨_,rfl,by rw[HR.out];exact hone,hb1.alloc hb1.size _⟩
   · obtain⟨c,hc⟩:=parts_mem hp
     have HR:=zh (show partsF D (f+1) x=(partsOf D x).flatMap (partsF D f) by rw[partsF,hs];simp[hp])
     have HX:=zh (show ∀ q∈partsOf D x,Fuel r f q∧isI64 q∧(partsF D f q).length≤18 from fun q hq=>by
      have h1:=(wf.plain x c _ hc).2 q hq
      have h2:=hr x c _ hc q hq
      exact⟨.inl ⟨h1.1,by omega⟩,by unfold isI64;omega,partsF_le wf hr (hb q) h1.1 (by omega)⟩)
     have hlen:(partsOf D x).length≤18:=by
      have h1:=partsF_le wf hr (hb x) hs hfu
      rw[HR.out] at h1
      exact Nat.le_trans (flat_ge _ _ fun q hq=>partsF_ne wf hr f q ((wf.plain x c _ hc).2 q hq).1 (by have:=hr x c _ hc q hq;omega)) h1
     have f1:(((partsOf D x).length:Int)==0)=false:=by
      have:0<(partsOf D x).length:=List.length_pos_iff.2 hp
      simp;exact hp
     clear hf hfu hp hc
     go_enter func243,ntmps243
     go_wp2_with fail
     refine(syllable_any x w).mono ?_
     rintro e w1 ⟨rfl,rfl⟩
     rw[hs]
     go_wp2_with fail
     have hb1:=(Below.refl w1.heap.size w1).alloc lr (.cells #[.int .i64 y,.int .i64 (classM D x),.slice a (partsOf D x).length cap] 162)
     refine(ends_any (.pointer (some ⟨pd,0,none⟩)) D (partsF D f) (partsOf D x) _ _ ((HD.out.later hb1 lr).wide lr hb1.size) ((HS.out.later hb1).wide lr hb1.size) hlen (fun q hq=>(HX.out q hq).2.2)
      (zh fun q hq w' hd'=>IH.out q w' (HX.out q hq).1 (HX.out q hq).2.1 hd')).mono ?_
     rintro e w3 ⟨u,rfl,hu,hb3⟩
     rw[← HR.out] at hu
     have hub:=hu.low hb1.size
     have hB3:=hb1.trans (hb3.mono hb1.size)
     clear hu hb3
     go_wp2_with fail
     go_ret
     exact⟨_,rfl,hub,hB3⟩
theorem Parts_any {D:Dm} (wf:Wf D) (v:Value) (x:Int) (w:World) (hx:isI64 x) (hd:DataAt w 0 w.heap.size v D) :
 Calls prog 243 #[v,.int .i64 x] w fun e w'=>∃ u,e=.returned u∧OwnN w' w.heap.size u (partsM D x)∧Below w.heap.size w w':=by
 obtain⟨r,hb,hr⟩:=wf.rank
 refine Parts_f wf hr hb v 5000 x w ?_ hx hd
 cases hs:sylB x with
 | true=>exact .inr ⟨hs,fun q _=>by have:=hb q;omega⟩
 | false=>exact .inl ⟨hs,by have:=hb x;omega⟩
theorem partsM_len {D:Dm} (wf:Wf D) (x:Int):(partsM D x).length≤54:=by
 cases hs:sylB x with
 | false=>have:=wf.size x hs;omega
 | true =>
  obtain⟨r,hb,hr⟩:=wf.rank
  rw[show partsM D x=(sylL x).flatMap (partsF D 4999) by unfold partsM;rw[show 5000=4999+1 from rfl,partsF,hs];rfl]
  refine Nat.le_trans (flat_len _ _ 18 fun q hq=>partsF_le wf hr (hb q) (sylB_low (by have:=sylL_in hs hq;omega)) (by have:=hb q;omega)) ?_
  have:(sylL x).length≤3:=by unfold sylL;split<;>simp
  omega
