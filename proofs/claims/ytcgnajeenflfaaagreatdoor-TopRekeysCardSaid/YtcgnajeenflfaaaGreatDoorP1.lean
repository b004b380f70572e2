import Derived.Lib.BufferWrite
import Derived.Test.YtcgnajeenflfaaaGreatDoorP0
set_option maxRecDepth 100000
set_option maxHeartbeats 4000000
set_option linter.all false
open Go.RowKit
namespace Go.Proofs.YtcgnajeenflfaaaGreatDoor
namespace V
inductive Pt where
 | mk (kind:Nat) (yes below:Bool) (mag raw:ByteArray) (items:List Pt)
namespace Pt
def kind:Pt→Nat | mk k _ _ _ _ _=>k
def yes:Pt→Bool | mk _ y _ _ _ _=>y
def neg:Pt→Bool | mk _ _ b _ _ _=>b
def mag:Pt→ByteArray | mk _ _ _ m _ _=>m
def raw:Pt→ByteArray | mk _ _ _ _ r _=>r
def items:Pt→List Pt | mk _ _ _ _ _ l=>l
end Pt
theorem Pt.eta (p:Pt):p=.mk p.kind p.yes p.neg p.mag p.raw p.items:=by cases p;rfl
theorem Pt.ind {C:Pt→Prop} (h:∀ p:Pt,(∀ q∈p.items,C q)→C p) (p:Pt):C p :=
 Pt.rec (motive_1:=C) (motive_2:=fun l=>∀ q∈l,C q) (fun k y b m r l ih=>h (.mk k y b m r l) ih) (fun q hq=>by cases hq)
  (fun hd tl h1 h2 q hq=>by
   rcases List.mem_cons.1 hq with e | e
   · exact e▸h1
   · exact h2 q e) p
def dH:Nat→Pt→Bool
 | 0,p=>p.kind==7
 | n+1,p=>p.kind==7&&p.items.any (dH n)
mutual
def aW:Pt→Nat
 | .mk k _ _ _ _ l=>if k=7 then cZ l+1 else 0
def cZ:List Pt→Nat
 | []=>0
 | p::r=>max (aW p) (cZ r)
end
theorem fO (p:Pt):aW p=if p.kind=7 then cZ p.items+1 else 0:=by cases p;rw[aW];rfl
theorem uU:cZ []=0:=by simp only [cZ]
theorem nH (p:Pt) (r:List Pt):cZ (p::r)=max (aW p) (cZ r):=by simp only [cZ]
theorem aIo (l:List Pt) (p:Pt):cZ (l++[p])=max (cZ l) (aW p):=by
 induction l with
 | nil=>simp[uU,nH]
 | cons q r ih=>rw[List.cons_append,nH,nH,ih];omega
theorem kC (l:List Pt) (n:Nat):cZ l≤n↔∀ p∈l,aW p≤n:=by
 induction l with
 | nil=>simp[uU]
 | cons q r ih=>rw[nH];simp only [List.mem_cons,forall_eq_or_imp,← ih];omega
theorem sV (n:Nat) (p:Pt):dH n p=true↔n<aW p:=by
 induction n generalizing p with
 | zero =>
  rw[fO];by_cases h:p.kind=7<;>simp[dH,h]
 | succ n ih =>
  rw[fO];by_cases h:p.kind=7
  · simp only [dH,h,beq_self_eq_true,Bool.true_and,List.any_eq_true,ih,if_true];have:=kC p.items n;constructor
    · rintro ⟨q,hq,hd⟩;by_cases h2:cZ p.items≤n
      · have:=this.1 h2 q hq;omega
      · omega
    · intro h2;have h3:¬ ∀ q∈p.items,aW q≤n:=fun h4=>by have:=this.2 h4;omega
      simp only [Classical.not_forall,Nat.not_le] at h3;obtain⟨q,hq,hd⟩:=h3;exact⟨q,hq,hd⟩
  · simp[dH,h]
def iJ (b:Bool) (m:List UInt8):Int :=
 if 255<m.length then 21 else if (m=[]∧b=true)∨m.head?=some 0 then 20 else 0
def fB (p:Pt):Bool :=
 decide (p.kind≤7)&&(p.kind==1 || !p.yes)&&(p.kind==2 || (!p.neg&&p.mag.toList.isEmpty))&&(p.kind==7 || p.items.isEmpty) &&
  (if p.kind=2 then p.raw.toList.isEmpty&&iJ p.neg p.mag.toList==0 else if p.kind=4 then p.raw.size==16 else if p.kind=3∨p.kind=5∨p.kind=6 then decide (p.raw.size≤65536)
   else if p.kind=7 then p.raw.toList.isEmpty&&decide (p.items.length≤1024) else p.raw.toList.isEmpty)
mutual
def aL:Pt→Bool
 | .mk k y b m r l=>fB (.mk k y b m r l)&&(!(k==7) || aWg l)
def aWg:List Pt→Bool
 | []=>true
 | p::r=>aL p&&aWg r
end
theorem aWh (l:List Pt):aWg l=l.all aL:=by
 induction l with
 | nil=>simp only [aWg,List.all_nil]
 | cons p r ih=>simp only [aWg,List.all_cons,ih]
theorem nI (p:Pt):aL p=(fB p&&(!(p.kind==7) || p.items.all aL)):=by
 cases p with | mk k y b m r l=>simp only [aL,aWh,Pt.kind,Pt.items]
theorem dW {p q:Pt} (h:aL p=true) (hq:q∈p.items):aL q=true:=by
 rw[nI] at h;simp only [Bool.and_eq_true,Bool.or_eq_true,Bool.not_eq_true',beq_eq_false_iff_ne,List.all_eq_true] at h;rcases h.2 with h2 | h2
 · have h1:=h.1;have h7:(p.kind==7 || p.items.isEmpty)=true:=by
    simp only [fB,Bool.and_eq_true] at h1;exact h1.1.2
   rw[show (p.kind==7)=false by simpa using h2,Bool.false_or,List.isEmpty_iff] at h7;rw[h7] at hq;cases hq
 · exact h2 q hq
theorem bE {p:Pt} (h:aL p=true):fB p=true:=by
 rw[nI] at h;simp only [Bool.and_eq_true] at h;exact h.1
def bW (p:Pt):Int:=if dH 16 p then 91 else if aL p then 0 else 90
def aIp (p q:Pt):Bool:=p.kind==q.kind&&p.yes==q.yes&&p.neg==q.neg&&p.mag.toList==q.mag.toList&&p.raw.toList==q.raw.toList
mutual
def gK:Pt→Pt→Bool
 | .mk k y b m r l,.mk k' y' b' m' r' l'=>aIp (.mk k y b m r l) (.mk k' y' b' m' r' l')&&jP l l'
def jP:List Pt→List Pt→Bool
 | [],[]=>true
 | p::r,q::t=>gK p q&&jP r t
 | _,_=>false
end
theorem oF (p q:Pt):gK p q=(aIp p q&&jP p.items q.items):=by cases p;cases q;simp only [gK,Pt.items]
theorem oG:jP [] []=true:=by simp only [jP]
theorem aBd (p q:Pt) (r t:List Pt):jP (p::r) (q::t)=(gK p q&&jP r t):=by simp only [jP]
theorem aGd {l m:List Pt} (h:jP l m=true):l.length=m.length:=by
 induction l generalizing m with
 | nil=>cases m with
  | nil=>rfl
  | cons q t=>simp[jP] at h
 | cons p r ih=>cases m with
  | nil=>simp[jP] at h
  | cons q t =>
   rw[aBd,Bool.and_eq_true] at h;simp[ih h.2]
theorem aIq {l m:List Pt} (h:l.length≠m.length):jP l m=false:=by
 cases e:jP l m with
 | false=>rfl
 | true=>exact absurd (aGd e) h
theorem bBu {a b:ByteArray} (h:a.toList=b.toList):a=b:=by
 cases a with | mk x=>cases b with | mk y =>
  rw[ByteArray.toList_mk,ByteArray.toList_mk] at h;exact congrArg ByteArray.mk (Array.toList_inj.1 h)
end V
section
def aC (w:World) (g:Nat) (t:TypeId) (cs:Array Value):Prop:=w.heap[g]?=some (.cells cs t (0,0))
section
variable {w w':World} {g:Nat} {t:TypeId} {cs:Array Value}
theorem aC.lt (h:aC w g t cs):g<w.heap.size:=by
 rcases Nat.lt_or_ge g w.heap.size with hlt | hge
 · exact hlt
 · unfold aC at h;rw[Array.getElem?_eq_none hge] at h;cases h
theorem aC.cell (h:aC w g t cs) (i:Nat):w.cell? ⟨g,i,none⟩=cs[i]?:=cell_of_row w g i cs t (0,0) h
theorem aC.frozen (h:aC w g t cs) (i:Nat):w.frozen? ⟨g,i,none⟩=false:=by
 unfold aC at h;simp[World.frozen?,h]
theorem aC.new (w:World) (t:TypeId) (cs:Array Value):aC (w.alloc (.cells cs t)) w.heap.size t cs:=heap_alloc_new w _
theorem aC.aU (h:aC w g t cs) (i:Nat) (u:Value):aC (w.setCell ⟨g,i,none⟩ u) g t (cs.setIfInBounds i u):=by
 unfold aC at h ⊢;simp[World.setCell,Array.getElem?_modify,h]
theorem aC.below {B:Nat} (h:aC w g t cs) (hb:Below B w w') (hg:g<B):aC w' g t cs:=(hb.block g hg).trans h
end
end
section
def bv (l:List UInt8):List Value:=l.map fun c=>.int .u8 (c.toNat:Int)
theorem aEl (l:List UInt8):(bv l).length=l.length:=by simp[bv]
theorem xP (l m:List UInt8):bv l++bv m=bv (l++m):=by simp[bv]
theorem aWi (l:List UInt8):∀ u∈bv l,u.oneCell'=true:=by
 intro u hu;simp only [bv,List.mem_map] at hu;obtain⟨c,_,rfl⟩:=hu;rfl
def cO (w:World) (base:Nat) (v:Value) (l:List UInt8):Prop:=w.ownsRow base 5 1 v l.length (bv l)
theorem cO.nil (w:World) (base:Nat):cO w base (.slice none 0 0) []:=World.ownsRow_nil w base 5 1
theorem cO.below {w w':World} {base:Nat} {v:Value} {l:List UInt8} (h:cO w base v l) (hb:Below w.heap.size w w'):cO w' base v l:=by
 refine⟨h.1,?_⟩;rcases h.2 with hn | ⟨g,cap,cur,rfl,hg,hgg,rest⟩
 · exact .inl hn
 · exact .inr ⟨g,cap,cur,rfl,hg,(hb.block g (Array.getElem?_eq_some_iff.1 hgg).1).trans hgg,rest⟩
theorem cO.conv {P:Program} {w:World} {base:Nat} {v:Value} {l:List UInt8} (h:cO w base v l) (src dst:TypeId)
 (hs:P.underlying src=some (.slice 5)) (he:P.underlying 5=some (.int .u8)) (hd:P.underlying dst=some .string) :
 (convert src dst v).run P w=.ok (.string ⟨l.toArray⟩) w:=by
 rcases h.2 with ⟨rfl,hn⟩ | ⟨g,cap,cur,rfl,hg,hgg,rest⟩
 · have:l=[]:=List.eq_nil_of_length_eq_zero (by simpa using hn);subst this;have:=run_convert_bytes_nil (P:=P) w src 5 hs he 0 0 dst hd;rw[this];rfl
 · refine run_convert_bytes_back w src dst 5 ⟨g,0,none⟩ cap l hs he hd (fun j hj=>?_);exact World.ownsRow.cells h (g:=g) rfl j _ (by simp[bv,List.getElem?_eq_getElem hj])
theorem one_cell (w:World) (x:Value) (T:TypeId):∀ j u,[x][j]?=some u→(w.alloc (.cells #[x] T)).cell? ((⟨w.heap.size,0,none⟩:Addr).add j)=some u:=by
 intro j u hj;match j,hj with
 | 0,hj=>simp at hj;subst hj;simp[Addr.add]
theorem xQ (w:World) (x y:Value) (T:TypeId):∀ j u,[x,y][j]?=some u→(w.alloc (.cells #[x,y] T)).cell? ((⟨w.heap.size,0,none⟩:Addr).add j)=some u:=by
 intro j u hj;match j,hj with
 | 0,hj=>simp at hj;subst hj;simp[Addr.add]
 | 1,hj=>simp at hj;subst hj;simp[Addr.add]
theorem jQ (w:World) (c:UInt8) (T:TypeId):∀ j u,(bv [c])[j]?=some u→(w.alloc (.cells #[.int .u8 (c.toNat:Int)] T)).cell? ((⟨w.heap.size,0,none⟩:Addr).add j)=some u:=one_cell w _ T
theorem pW (w:World) (c d:UInt8) (T:TypeId):∀ j u,(bv [c,d])[j]?=some u→(w.alloc (.cells #[.int .u8 (c.toNat:Int),.int .u8 (d.toNat:Int)] T)).cell? ((⟨w.heap.size,0,none⟩:Addr).add j)=some u:=xQ w _ _ T
theorem bD {P:Program} {ops:Array Oper} {rest:List Oper} {o:Oper} {a:Act} {Q:Exit→Act→World→Prop} {W w:World} (hgd:o.guard=none) (s x:Operand) (t:TypeId)
 (ho:o.op=.call { callee:=.builtin .append,args:=#[s,x],argTypes:=#[t,t] })
 (ht:P.underlying t=some (.slice 5)) (hinfo:(P.info? 5).map (fun i=>(i.zero,i.size,i.bytes))=some (some (.int .u8 0),1,1))
 {base:Nat} {v:Value} {l:List UInt8} (hs:a.eval s=v) (hown:cO w base v l)
 (ad:Addr) (m:List UInt8) (k c:Nat) (hk:m.length=k) (hx:a.eval x=.slice (some ad) k c) (hnews:∀ j u,(bv m)[j]?=some u→w.cell? (ad.add j)=some u)
 (hlen:l.length+k≤140737488355328) (hB:Below base W w) (hbase:base≤w.heap.size)
 (h:∀ v' w',cO w' base v' (l++m)→Below base W w'→base≤w'.heap.size→wpList P ops Q rest (a.put o.dst v') w'):wpList P ops Q (o::rest) a w:=by
 subst hk;obtain⟨i0,hi,hz0,hz1,hz2⟩:=info_parts hinfo;refine wpList_append_own w hgd s x t ho base 5 i0 (.int .u8 0) 1 1 ht hi hz0 hz1 hz2 rfl (by decide) v l.length (bv l) hs hown ad m.length c (bv m) hx (by simp[aEl]) hnews (aWi m) (by unfold maxLen;omega) (by omega) hbase ?_;intro v' w' ho' hg _;refine h v' w' ?_ (hB.grown hg hbase fun k hk=>(World.ownsRow.lt hown k hk).1) (Nat.le_trans hbase hg.size);unfold cO;rw[xP] at ho';simpa using ho'
theorem aAm {P:Program} {ops:Array Oper} {rest:List Oper} {o:Oper} {a:Act} {Q:Exit→Act→World→Prop} {W w:World} (hgd:o.guard=none) (d x:Operand) (t t2:TypeId)
 (ho:o.op=.call { callee:=.builtin .copy,args:=#[d,x],argTypes:=#[t,t2] })
 (ht:P.underlying t=some (.slice 5)) (hinfo:(P.info? 5).map (fun i=>(i.zero,i.size,i.bytes))=some (some (.int .u8 0),1,1))
 {base g:Nat} {l:List UInt8} (s:ByteArray) (hd:a.eval d=.slice (some ⟨g,0,none⟩) s.size s.size) (hx:a.eval x=.string s) (hown:cO w base (.slice (some ⟨g,0,none⟩) s.size s.size) l)
 (hB:Below base W w) (hbase:base≤w.heap.size)
 (h:∀ w',cO w' base (.slice (some ⟨g,0,none⟩) s.size s.size) s.data.toList→Below base W w'→base≤w'.heap.size→wpList P ops Q rest (a.put o.dst (.int .i64 s.size)) w'):wpList P ops Q (o::rest) a w:=by
 obtain⟨i0,hi,hz0,hz1,hz2⟩:=info_parts hinfo;rcases hown.2 with ⟨hv,_⟩ | ⟨g',cap,cur,hv,hg,hgg,hnc,hcm,hcs,htake⟩
 · cases hv
 · injection hv with e1 e2 e3
   injection e1 with e1
   injection e1 with e1 _ _
   subst e1 e3;refine wpList_plain hgd fun K hK=>?_
   have hrun:=Lib.run_copy_row_string (P:=P) w t t2 o.type 5 g 0 s.size s.size s cur 5 ht (by simp[hi,hz1]) hgg (by omega) (by omega);unfold Oper.wp;simp[execOp,ho,resolve,invoke,builtin,hd,hx,hrun,Result.andThen];refine hK _ _ (h _ ?_ (hB.trans ⟨rfl,rfl,rfl,by simp[World.setRow],fun k hk=>setRow_other w g k _ (by omega)⟩) (by simpa[World.setRow] using hbase));have hlen:(Lib.byteCells s.data.toList).length=s.size:=by rw[Lib.byteCells_length,← Lib.size_eq]
   have hsz:s.size=s.data.toList.length:=by rw[Array.length_toList];rfl
   refine⟨by simp[bv],.inr ⟨g,s.size,_,rfl,hg,setRow_heap w g cur _ 5 _ hgg,by omega,hcm,?_,?_⟩⟩
   · simp[hlen];omega
   · show List.take (s.data.toList.length*1) (Lib.byteCells s.data.toList++List.drop s.size cur.toList)=_
     rw[Nat.mul_one,← hsz,List.take_append_of_le_length (by omega),List.take_of_length_le (by omega)];rfl
theorem cO.alloc {w:World} {base:Nat} {v:Value} {l:List UInt8} (h:cO w base v l) (o:Obj):cO (w.alloc o) base v l:=World.ownsRow.alloc h o
theorem cO.drew {w:World} {base:Nat} {v:Value} {l:List UInt8} (h:cO w base v l):cO w.drew base v l:=h
end
section
def iJ (b:Bool) (m:List UInt8):Int :=
 if 255<m.length then 21 else if (m=[]∧b=true)∨m.head?=some 0 then 20 else 0
theorem wC {b:Bool} {m:List UInt8} (h:255<m.length):iJ b m=21:=by simp[iJ,h]
theorem nR {m:List UInt8} (h:m=[]):iJ true m=20:=by simp[iJ,h]
theorem aGe {m:List UInt8} (h:m=[]):iJ false m=0:=by simp[iJ,h]
theorem aBe {b:Bool} {m:List UInt8} (h:¬ 255<m.length) (h0:m.head?=some 0):iJ b m=20:=by simp[iJ,h,h0]
theorem aMf {b:Bool} {m:List UInt8} (h:¬ 255<m.length) (hn:m≠[]) (h0:m.head?≠some 0):iJ b m=0:=by simp[iJ,h,h0,hn]
theorem dR {b:Bool} {m:List UInt8}:iJ b m=0↔m.length≤255∧(m=[]→b=false)∧m.head?≠some 0:=by
 unfold iJ;by_cases h:255<m.length
 · simp only [h,if_true];exact⟨fun e=>absurd e (by decide),fun e=>by omega⟩
 · by_cases h2:(m=[]∧b=true)∨m.head?=some 0
   · simp only [h,h2,if_false,if_true];rcases h2 with ⟨h2,h3⟩ | h2
     · simp[h2,h3]
     · simp[h2]
   · simp only [h,h2,if_false];simp only [not_or,not_and] at h2;simp only [true_iff];exact⟨by omega,fun e=>by simpa using h2.1 e,h2.2⟩
def fC (b:Bool) (k:Nat):List UInt8 :=
 if b then (if k≤126 then [UInt8.ofNat (128-k)] else [1,UInt8.ofNat (255-k)]) else (if k≤126 then [UInt8.ofNat (128+k)] else [255,UInt8.ofNat k])
def bM (b:Bool) (m:List UInt8):List UInt8:=fC b m.length++(if b then m.map (255-·) else m)
theorem ofNat_toNat (n:Nat) (h:n<256):((UInt8.ofNat n).toNat:Int)=n:=by simp;omega
theorem rC (c:UInt8):((255-c:UInt8).toNat:Int)=255-(c.toNat:Int):=by
 have:=c.toNat_lt;rw[UInt8.toNat_sub];have aDs:(255:UInt8).toNat=255:=rfl;rw[aDs];omega
theorem aEm (s:ByteArray) (k:Nat) (h:k<s.size):s.data.toList.take (k+1)=s.data.toList.take k++[s[k]]:=by
 rw[List.take_succ_eq_append_getElem (by simpa using h)];rfl
theorem wD (s:ByteArray) (k:Nat) (h:¬ k<s.size):s.data.toList.take k=s.data.toList :=
 List.take_of_length_le (by rw[Array.length_toList];exact Nat.le_of_not_lt h)
theorem drop_cons (s:ByteArray) (k:Nat) (h:k<s.size):s.data.toList.drop k=s[k]::s.data.toList.drop (k+1):=by
 rw[List.drop_eq_getElem_cons (by simpa using h)];rfl
theorem ba_eq {a b:ByteArray} (h:a.data.toList=b.data.toList):a=b:=by
 cases a with | mk x=>cases b with | mk y=>exact congrArg ByteArray.mk (Array.toList_inj.1 h)
end
section
def cmp:List UInt8→List UInt8→Int
 | [],[]=>0
 | [],_::_=>-1
 | _::_,[]=>1
 | c::r,d::q=>if c<d then -1 else if d<c then 1 else cmp r q
theorem aWj (a:List UInt8):cmp a a=0:=by
 induction a with
 | nil=>rfl
 | cons c r ih=>simp[cmp,ih]
theorem aWk {a b:List UInt8} (h:cmp a b=0):a=b:=by
 induction a generalizing b with
 | nil=>cases b<;>simp_all [cmp]
 | cons c r ih =>
  cases b with
  | nil=>simp[cmp] at h
  | cons d q =>
   simp only [cmp] at h;split at h
   · simp at h
   · split at h
     · simp at h
     · rename_i h1 h2
       rw[UInt8.le_antisymm (UInt8.not_lt.1 h2) (UInt8.not_lt.1 h1),ih h]
theorem aRw (a b:List UInt8):cmp a b=-1∨cmp a b=0∨cmp a b=1:=by
 induction a generalizing b with
 | nil=>cases b<;>simp[cmp]
 | cons c r ih =>
  cases b with
  | nil=>simp[cmp]
  | cons d q =>
   simp only [cmp];split
   · simp
   · split
     · simp
     · exact ih q
theorem aWl (a b:List UInt8):Op.bytesLess a b=decide (cmp a b=-1):=by
 induction a generalizing b with
 | nil=>cases b<;>simp[cmp,Op.bytesLess]
 | cons c r ih =>
  cases b with
  | nil=>simp[cmp,Op.bytesLess]
  | cons d q =>
   simp only [cmp,Op.bytesLess,ih];by_cases h1:c<d
   · simp[h1]
   · by_cases h2:d<c
     · have:¬ c=d:=fun e=>by subst e;exact absurd h2 (by simp)
       simp[h1,h2,this]
     · have:c=d:=UInt8.le_antisymm (UInt8.not_lt.1 h2) (UInt8.not_lt.1 h1);simp[this]
theorem eq_iff (a b:List UInt8):(a==b)=decide (cmp a b=0):=by
 rw[Bool.eq_iff_iff,beq_iff_eq,decide_eq_true_iff];exact⟨fun h=>by rw[h,aWj],aWk⟩
end
section
def aRx (a b:List UInt8):Int:=if a.length<b.length then -1 else if b.length<a.length then 1 else cmp a b
def wE (x:Bool) (a:List UInt8) (y:Bool) (b:List UInt8):Int :=
 if x then (if y then aRx b a else -1) else (if y then 1 else aRx a b)
end
section
def dL (l:List UInt8) (a:Nat):Except Nat (Nat×Bool×Nat) :=
 match l[a]? with
 | none=>.error l.length
 | some b =>
  if b.toNat=255 then
   match l[a+1]? with
   | none=>.error l.length
   | some n=>if 126<n.toNat then .ok (n.toNat,false,a+2) else .error (a+1)
  else if 128≤b.toNat then .ok (b.toNat-128,false,a+1)
  else if 2≤b.toNat then .ok (128-b.toNat,true,a+1)
  else if b.toNat=1 then
   match l[a+1]? with
   | none=>.error l.length
   | some n=>if 126<255-n.toNat then .ok (255-n.toNat,true,a+2) else .error (a+1)
  else .error a
def fl (below:Bool) (c:UInt8):UInt8:=if below then 255-c else c
def xR (l:List UInt8) (below:Bool) (f k:Nat):Except Nat (List UInt8) :=
 if k=0 then .ok []
 else
  match l[f]? with
  | none=>.error l.length
  | some b=>if fl below b=0 then .error f else if f+k≤l.length then .ok (((l.drop f).take k).map (fl below)) else .error l.length
def jZ (l:List UInt8) (a:Nat):Except Nat (Bool×List UInt8×Nat) :=
 match dL l a with
 | .error p=>.error p
 | .ok (k,below,f) =>
  match xR l below f k with
  | .error p=>.error p
  | .ok m=>.ok (below,m,f+k)
theorem aAu (c:UInt8):(255-c:UInt8).toNat=255-c.toNat:=by
 have:=rC c;have:=c.toNat_lt;omega
theorem bEp (b:Bool) (c:UInt8):fl b (fl b c)=c:=by
 cases b
 · rfl
 · apply UInt8.toNat_inj.1;simp only [fl,if_true];rw[aAu,aAu];have:=c.toNat_lt;omega
theorem xS (b:Bool) (l:List UInt8):(l.map (fl b)).map (fl b)=l:=by
 induction l with
 | nil=>rfl
 | cons c r ih=>rw[List.map_cons,List.map_cons,bEp,ih]
theorem bEq (b:Bool) (l:List UInt8):(if b then l.map (255-·) else l)=l.map (fl b):=by
 cases b
 · exact(List.map_id' l).symm
 · rfl
theorem aIr {l:List UInt8} {a k f:Nat} {below:Bool} (h:dL l a=.ok (k,below,f)):k≤255∧a<f∧f≤l.length:=by
 unfold dL at h;split at h
 · exact nomatch h
 · rename_i b hb
   have h1:=(List.getElem?_eq_some_iff.1 hb).1;have hb2:=b.toNat_lt;split at h
   · split at h
     · exact nomatch h
     · rename_i n hn
       have h2:=(List.getElem?_eq_some_iff.1 hn).1;have hn2:=n.toNat_lt;split at h
       · (simp only [Except.ok.injEq,Prod.mk.injEq] at h;obtain⟨h3,_,h4⟩:=h;omega)
       · exact nomatch h
   · split at h
     · (simp only [Except.ok.injEq,Prod.mk.injEq] at h;obtain⟨h3,_,h4⟩:=h;omega)
     · split at h
       · (simp only [Except.ok.injEq,Prod.mk.injEq] at h;obtain⟨h3,_,h4⟩:=h;omega)
       · split at h
         · split at h
           · exact nomatch h
           · rename_i n hn
             have h2:=(List.getElem?_eq_some_iff.1 hn).1;split at h
             · (simp only [Except.ok.injEq,Prod.mk.injEq] at h;obtain⟨h3,_,h4⟩:=h;omega)
             · exact nomatch h
         · exact nomatch h
def jC (l:List UInt8) (below:Bool) (f j:Nat):List UInt8:=((l.drop f).take j).map (fl below)
theorem uV (l:List UInt8) (below:Bool) (f:Nat):jC l below f 0=[]:=by simp[jC]
theorem aMg (l:List UInt8) (below:Bool) (f j:Nat) (c:UInt8) (h:l[f+j]?=some c):jC l below f (j+1)=jC l below f j++[fl below c]:=by
 unfold jC;rw[List.take_add_one,List.getElem?_drop,h];simp
theorem wF (l:List UInt8) (below:Bool) (f j:Nat) (h:f+j≤l.length):(jC l below f j).length=j:=by
 simp[jC];omega
def OnE (l:List UInt8) (below:Bool) (f k:Nat):Prop:=xR l below f k=if f+k≤l.length then .ok (jC l below f k) else .error l.length
theorem xU {l:List UInt8} {below:Bool} {f k:Nat} {c:UInt8} (hk:0<k) (h:l[f]?=some c) (hc:fl below c≠0):OnE l below f k:=by
 unfold OnE xR;rw[if_neg (by omega),h];simp[hc,jC]
theorem aEn {l:List UInt8} {below:Bool} {f k:Nat} {c:UInt8} (hk:0<k) (h:l[f]?=some c) (hc:fl below c=0):xR l below f k=.error f:=by
 unfold xR;rw[if_neg (by omega),h];simp[hc]
theorem aWm {l:List UInt8} {below:Bool} {f k j:Nat} (hj:j<k) (h:f+j=l.length) (hon:j=0∨OnE l below f k):xR l below f k=.error l.length:=by
 rcases hon with rfl | hon
 · unfold xR;rw[if_neg (by omega),List.getElem?_eq_none (by omega)]
 · rw[hon,if_neg (by omega)]
theorem aWn {l:List UInt8} {below:Bool} {f k:Nat} (h:f+k≤l.length) (hon:k=0∨OnE l below f k):xR l below f k=.ok (jC l below f k):=by
 rcases hon with rfl | hon
 · rw[uV];rfl
 · rw[hon,if_pos h]
end
namespace U
def dI (s:ByteArray) (i lo hi:Nat):Bool:=if h:i<s.size then decide (lo≤s[i].toNat)&&decide (s[i].toNat≤hi) else false
def dS (b:Nat):Nat:=if b≤127 then 1 else if 194≤b∧b≤223 then 2 else if 224≤b∧b≤239 then 3 else if 240≤b∧b≤244 then 4 else 0
def gD (b:Nat):Nat:=if b=224 then 160 else if b=240 then 144 else 128
def gF (b:Nat):Nat:=if b=237 then 159 else if b=244 then 143 else 191
def kQ (s:ByteArray) (k b:Nat):Nat :=
 if dS b=1 then 1
 else if dS b=0 then 0
 else if dI s (k+1) (gD b) (gF b) then
  (if dS b=2 then 2 else if dI s (k+2) 128 191 then (if dS b=3 then 3 else if dI s (k+3) 128 191 then 4 else 0) else 0)
 else 0
def mF (s:ByteArray) (k:Nat):Nat:=if h:k<s.size then s[k].toNat else 0
def aZ (s:ByteArray) (k:Nat):Nat:=if k<s.size then kQ s k (mF s k) else 0
theorem aWo (s:ByteArray) (k b:Nat):kQ s k b≤4:=by
 unfold kQ;repeat' split
 all_goals omega
theorem aIs (s:ByteArray) (k:Nat):aZ s k≤4:=by
 unfold aZ;split
 · exact aWo ..
 · omega
theorem aGf {s:ByteArray} {i lo hi:Nat} (h:dI s i lo hi=true):i<s.size:=by
 unfold dI at h;split at h
 · assumption
 · cases h
theorem aWp {s:ByteArray} {k b:Nat} (hk:k<s.size) (h:kQ s k b≠0):k+kQ s k b≤s.size:=by
 unfold kQ at *;repeat' split
 all_goals first | omega | (have:=aGf (by assumption:dI s (k+3) _ _=true);omega) | (have:=aGf (by assumption:dI s (k+2) _ _=true);omega) | (have:=aGf (by assumption:dI s (k+1) _ _=true);omega) | (simp_all)
theorem aWq {s:ByteArray} {k:Nat} (h:aZ s k≠0):k+aZ s k≤s.size:=by
 unfold aZ at *;split
 · rename_i hk;rw[if_pos hk] at h;exact aWp hk h
 · rename_i hk;rw[if_neg hk] at h;exact absurd rfl h
def pt0 (s:ByteArray) (k n:Nat):Nat:=if 1<n then mF s k &&& (127 / 2 ^ n) else mF s k
def ptF (s:ByteArray) (k n:Nat):Nat→Nat
 | 0=>pt0 s k n
 | i+1=>(ptF s k n i*64) ||| (mF s (k+1+i) &&& 63)
def rD (s:ByteArray) (k n:Nat):Nat:=ptF s k n (n-1)
theorem aEo (s:ByteArray) (k:Nat):mF s k<256:=by
 unfold mF;split
 · exact UInt8.toNat_lt _
 · omega
theorem aWr (s:ByteArray) (k n i:Nat):ptF s k n i<2 ^ (8+6*i):=by
 induction i with
 | zero =>
  show pt0 s k n<256
  unfold pt0;split
  · exact Nat.lt_of_le_of_lt Nat.and_le_left (aEo ..)
  · exact aEo ..
 | succ i ih =>
  show (ptF s k n i*64) ||| (mF s (k+1+i) &&& 63)<_
  apply Nat.or_lt_two_pow
  · rw[show 8+6*(i+1)=(8+6*i)+6 by omega,Nat.pow_add];omega
  · exact Nat.lt_of_le_of_lt Nat.and_le_right (Nat.lt_of_lt_of_le (by decide:63<2 ^ 8) (Nat.pow_le_pow_right (by decide) (by omega)))
def iH (s:ByteArray):Nat→Nat→List (Int×Int)
 | 0,_=>[]
 | f+1,k=>if k<s.size then (if aZ s k=0 then [((k:Int),-1)] else ((k:Int),(rD s k (aZ s k):Int))::iH s f (k+aZ s k)) else []
def items (s:ByteArray):List (Int×Int):=iH s s.size 0
end U
namespace Es
def esc:List UInt8→List UInt8
 | []=>[]
 | c::r=>(if c=0 then [0,255] else [c])++esc r
theorem aMh (l m:List UInt8):esc (l++m)=esc l++esc m:=by
 induction l with
 | nil=>rfl
 | cons c r ih=>simp[esc,ih]
theorem aGg (l:List UInt8):(esc l).length≤2*l.length:=by
 induction l with
 | nil=>simp[esc]
 | cons c r ih=>simp only [esc,List.length_append,List.length_cons];split<;>simp<;>omega
def un:List UInt8→List UInt8×Nat×Int
 | []=>([],0,10)
 | c::r =>
  if c≠0 then
   if (un r).2.2=0 then (c::(un r).1,(un r).2.1+1,0) else ([],(un r).2.1+1,10)
  else match r with
   | []=>([],1,10)
   | d::q =>
    if d=255 then
     if (un q).2.2=0 then (0::(un q).1,(un q).2.1+2,0) else ([],(un q).2.1+2,10)
    else if d=1 then ([],2,0) else ([],1,10)
theorem bBv (l:List UInt8):(un l).2.2=0∨(un l).2.2=10:=by
 fun_induction un l<;>simp_all
theorem bFd (l:List UInt8) (h:(un l).2.2≠0):(un l).1=[]∧(un l).2.2=10:=by
 fun_induction un l<;>simp_all
theorem bJg (l:List UInt8):(un l).2.1≤l.length:=by
 fun_induction un l<;>simp_all<;>omega
theorem aWs (c:UInt8) (r:List UInt8) (h:c≠0):un (c::r)=if (un r).2.2=0 then (c::(un r).1,(un r).2.1+1,0) else ([],(un r).2.1+1,10):=by
 cases r<;>simp[un,h]
theorem aGh (q:List UInt8):un (0::255::q)=if (un q).2.2=0 then (0::(un q).1,(un q).2.1+2,0) else ([],(un q).2.1+2,10):=by
 simp[un]
theorem aWt (a x:List UInt8):un (esc a++0::1::x)=(a,(esc a).length+2,0):=by
 induction a with
 | nil=>simp[esc,un]
 | cons c r ih =>
  by_cases h:c=0
  · subst h;simp only [esc,if_true,List.cons_append,List.nil_append];rw[aGh];simp[ih]
  · simp only [esc,if_neg h,List.cons_append,List.nil_append];rw[aWs c _ h];simp[ih]
theorem aWu (l:List UInt8) (h:(un l).2.2=0):l.take (un l).2.1=esc (un l).1++[0,1]:=by
 fun_induction un l<;>simp_all [esc]
end Es
section
theorem u8n (n:Nat) (h:n<256):(UInt8.ofNat n).toNat=n:=by rw[UInt8.toNat_ofNat'];omega
theorem at0 (pre r:List UInt8) (c:UInt8):(pre++(c::r))[pre.length]?=some c:=by simp
theorem at1 (pre r:List UInt8) (c d:UInt8):(pre++(c::d::r))[pre.length+1]?=some d:=by
 rw[List.getElem?_append_right (by omega)];simp
theorem aRy {b:Bool} {m:List UInt8} (h:iJ b m=0) (pre r:List UInt8):dL (pre++(fC b m.length++r)) pre.length=.ok (m.length,b,pre.length+(fC b m.length).length):=by
 obtain⟨h1,h2,_⟩:=dR.1 h;have bNz:(255:UInt8).toNat=255:=rfl;have e1:(1:UInt8).toNat=1:=rfl;unfold dL fC;cases b
 · by_cases hk:m.length≤126
   · have e:=u8n (128+m.length) (by omega);simp only [Bool.false_eq_true,if_false,if_pos hk,List.cons_append,List.nil_append,at0,e];rw[if_neg (by omega),if_pos (by omega)];simp
   · have e:=u8n m.length (by omega);simp only [Bool.false_eq_true,if_false,if_neg hk,List.cons_append,List.nil_append,at0,at1,e,bNz];rw[if_pos trivial,if_pos (by omega)];simp
 · have h3:0<m.length:=List.length_pos_iff.2 fun e=>by simpa using h2 e
   by_cases hk:m.length≤126
   · have e:=u8n (128-m.length) (by omega);simp only [if_true,if_pos hk,List.cons_append,List.nil_append,at0,e];rw[if_neg (by omega),if_neg (by omega),if_pos (by omega),show 128-(128-m.length)=m.length by omega];simp
   · have e:=u8n (255-m.length) (by omega);simp only [if_true,if_neg hk,List.cons_append,List.nil_append,at0,at1,e,e1];rw[if_neg (by omega),if_neg (by omega),if_neg (by omega),if_pos (by omega),show 255-(255-m.length)=m.length by omega];simp
theorem aWv {b:Bool} {m:List UInt8} (h:m.head?≠some 0) (pre post:List UInt8):xR (pre++(m.map (fl b)++post)) b pre.length m.length=.ok m:=by
 cases m with
 | nil=>rfl
 | cons c r =>
  have hc:c≠0:=fun e=>h (by simp[e])
  have h0:(pre++((c::r).map (fl b)++post))[pre.length]?=some (fl b c):=by
   rw[List.getElem?_append_right lr];simp
  have hon:=xU (l:=pre++((c::r).map (fl b)++post)) (below:=b) (f:=pre.length) (k:=(c::r).length) (by simp) h0 (by rw[bEp];exact hc);rw[hon,if_pos (by simp)];unfold jC;rw[List.drop_left,List.take_left' (by simp),xS]
theorem aRz {b:Bool} {m:List UInt8} (h:iJ b m=0) (pre post:List UInt8):jZ (pre++(bM b m++post)) pre.length=.ok (b,m,pre.length+(bM b m).length):=by
 have e1:=aRy h pre (m.map (fl b)++post);have e2:=aWv (b:=b) (dR.1 h).2.2 (pre++fC b m.length) post;have e3:bM b m=fC b m.length++m.map (fl b):=by unfold bM;rw[bEq]
 rw[List.length_append,List.append_assoc] at e2;rw[e3,List.append_assoc];unfold jZ;rw[e1];simp only [e2];simp;omega
theorem aIt {l:List UInt8} {a k f:Nat} {b:Bool} (h:dL l a=.ok (k,b,f)):(l.drop a).take (f-a)=fC b k∧(b=true→0<k):=by
 unfold dL at h;split at h
 · exact nomatch h
 · rename_i c hc
   obtain⟨hl,hc⟩:=List.getElem?_eq_some_iff.1 hc;have hc2:=c.toNat_lt;have one:(l.drop a).take 1=[c]:=by rw[List.drop_eq_getElem_cons hl,hc];rfl
   split at h
   · rename_i aDs
     split at h
     · exact nomatch h
     · rename_i n hn
       obtain⟨hl2,hn⟩:=List.getElem?_eq_some_iff.1 hn;split at h
       · rename_i bOa
         simp only [Except.ok.injEq,Prod.mk.injEq] at h;obtain⟨rfl,rfl,rfl⟩:=h;refine⟨?_,by simp⟩;have two:(l.drop a).take 2=[c,n]:=by rw[List.drop_eq_getElem_cons hl,List.drop_eq_getElem_cons hl2,hc,hn];rfl
         rw[show a+2-a=2 by omega,two];unfold fC;rw[if_neg (by simp),if_neg (by omega),show c=255 from UInt8.toNat_inj.1 aDs];exact congrArg (fun z=>[255,z]) (UInt8.toNat_inj.1 (u8n _ n.toNat_lt).symm)
       · exact nomatch h
   · rename_i aDs
     split at h
     · rename_i h128
       simp only [Except.ok.injEq,Prod.mk.injEq] at h;obtain⟨rfl,rfl,rfl⟩:=h;refine⟨?_,by simp⟩;rw[show a+1-a=1 by omega,one];unfold fC;rw[if_neg (by simp),if_pos (by omega)];exact congrArg (fun z=>[z]) (UInt8.toNat_inj.1 (by rw[u8n _ (by omega)];omega))
     · rename_i h128
       split at h
       · rename_i h2
         simp only [Except.ok.injEq,Prod.mk.injEq] at h;obtain⟨rfl,rfl,rfl⟩:=h;refine⟨?_,fun _=>by omega⟩;rw[show a+1-a=1 by omega,one];unfold fC;rw[if_pos rfl,if_pos (by omega)];exact congrArg (fun z=>[z]) (UInt8.toNat_inj.1 (by rw[u8n _ (by omega)];omega))
       · split at h
         · rename_i h1
           split at h
           · exact nomatch h
           · rename_i n hn
             obtain⟨hl2,hn⟩:=List.getElem?_eq_some_iff.1 hn;have hn2:=n.toNat_lt;split at h
             · rename_i bOa
               simp only [Except.ok.injEq,Prod.mk.injEq] at h;obtain⟨rfl,rfl,rfl⟩:=h;refine⟨?_,fun _=>by omega⟩;have two:(l.drop a).take 2=[c,n]:=by rw[List.drop_eq_getElem_cons hl,List.drop_eq_getElem_cons hl2,hc,hn];rfl
               rw[show a+2-a=2 by omega,two];unfold fC;rw[if_pos rfl,if_neg (by omega),show c=1 from UInt8.toNat_inj.1 h1];exact congrArg (fun z=>[1,z]) (UInt8.toNat_inj.1 (by rw[u8n _ (by omega)];omega))
             · exact nomatch h
         · exact nomatch h
theorem aMi {l m:List UInt8} {f k:Nat} {b:Bool} (h:xR l b f k=.ok m) (hf:f≤l.length):m=jC l b f k∧f+k≤l.length∧m.head?≠some 0:=by
 unfold xR at h;by_cases hk:k=0
 · rw[if_pos hk] at h;cases h;subst hk;exact⟨by rw[uV],by omega,by simp⟩
 · rw[if_neg hk] at h;split at h
   · exact nomatch h
   · rename_i c hc
     obtain⟨hl,hc⟩:=List.getElem?_eq_some_iff.1 hc;split at h
     · exact nomatch h
     · rename_i h0
       split at h
       · rename_i hle
         cases h;refine⟨rfl,hle,?_⟩;obtain⟨j,rfl⟩:∃ j,k=j+1:=⟨k-1,by omega⟩
         rw[List.drop_eq_getElem_cons hl,hc];simpa using h0
       · exact nomatch h
theorem zM {l m:List UInt8} {a f:Nat} {b:Bool} (h:jZ l a=.ok (b,m,f)):iJ b m=0∧a≤f∧f≤l.length∧bM b m=(l.drop a).take (f-a):=by
 unfold jZ at h;split at h
 · exact nomatch h
 · rename_i k below f0 hs
   split at h
   · exact nomatch h
   · rename_i m0 hm
     simp only [Except.ok.injEq,Prod.mk.injEq] at h;obtain⟨rfl,rfl,rfl⟩:=h;obtain⟨g1,g2,g3⟩:=aIr hs;obtain⟨g4,g5⟩:=aIt hs;obtain⟨g6,g7,g8⟩:=aMi hm g3;have hlen:m0.length=k:=by rw[g6,wF _ _ _ _ g7]
     refine⟨dR.2 ⟨by omega,fun e=>?_,g8⟩,by omega,g7,?_⟩
     · cases below
       · rfl
       · have:=g5 rfl;rw[e] at hlen;simp at hlen;omega
     · unfold bM;rw[bEq,hlen,g6];unfold jC;rw[xS,← g4,show f0+k-a=(f0-a)+k by omega,List.take_add,List.drop_drop,show a+(f0-a)=f0 by omega]
end
