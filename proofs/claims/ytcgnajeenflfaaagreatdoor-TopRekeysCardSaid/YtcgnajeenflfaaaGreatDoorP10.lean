import Derived.Test.YtcgnajeenflfaaaGreatDoorP5
import Derived.Test.YtcgnajeenflfaaaGreatDoorP9
set_option maxRecDepth 100000
set_option maxHeartbeats 4000000
set_option linter.all false
open Go.Proofs.Tryz Go.RowKit
namespace Go.Proofs.YtcgnajeenflfaaaGreatDoor
section
def Ends (R:World→Prop) (e:Exit) (a:Act) (w:World):Prop:=e=.normal∧a.defers=[]∧R w
theorem aMj (p q r:Addr) (w:World) :
 CallsD prog 168 #[.pointer (some p),.pointer (some q),.pointer (some r)] .returning w fun e u' w'=>e=.returned (.tuple #[])∧u'=.returning∧w'=w:=by
 refine callsD_of_wpS func168 rfl fun c₀ cs hu=>?_
 apply wpS_seq;apply wpS_region;simp[wpOpsS,go_sem,recoverD,hu,ntmps168,Exit.thenS];rw[show Array.replicate 17 undef=#[undef,undef,undef,undef,undef,undef,undef,undef,undef,undef,undef,undef,undef,undef,undef,undef,undef] from rfl];simp;refine wpS_of_wp (Code.wp_mono (fun e a' w' (h:Ends (fun w'=>w'=w) e a' w')=>?_) ?_)
 · obtain⟨rfl,hd,rfl⟩:=h;simp[bodyPostS,results,Tryz.results168,hd];cases c₀;simp_all
 have hneq:∀ w:World,(binOp BinOp.neq 20 .nilIface .nilIface).run prog w=.ok (.bool false) w:=fun _=>by kernel_rfl
 go_wp2_with fail;exact⟨rfl,rfl,rfl⟩
theorem aSa (g:Nat) (x:Int) (y:Bool) (t:ByteArray) (z u:Int) (w:World) (c0:w.cell? ⟨g,0,none⟩=some (.bool y)) (c1:w.cell? ⟨g,1,none⟩=some (.string t))
 (c2:w.cell? ⟨g+1,0,none⟩=some (.int .i64 z)) (c3:w.cell? ⟨g+2,0,none⟩=some (.int .i64 u))
 (z0:w.frozen? ⟨g,0,none⟩=false) (z1:w.frozen? ⟨g,1,none⟩=false) (z2:w.frozen? ⟨g+1,0,none⟩=false) (z3:w.frozen? ⟨g+2,0,none⟩=false) :
 CallsD prog 168 #[.pointer (some ⟨g,0,none⟩),.pointer (some ⟨g+1,0,none⟩),.pointer (some ⟨g+2,0,none⟩)] (.panicking [{ v:=.iface 290 (.agg #[.int .i64 x]),recovered:=false }]) w fun e u' w' =>
  e=.returned (.tuple #[])∧u'=.panicking [{ v:=.iface 290 (.agg #[.int .i64 x]),recovered:=true }] ∧
   w'.cell? ⟨g,0,none⟩=some (.bool false)∧w'.cell? ⟨g,1,none⟩=some (.string ⟨#[]⟩)∧w'.cell? ⟨g+1,0,none⟩=some (.int .i64 x)∧w'.cell? ⟨g+2,0,none⟩=some (.int .i64 20)∧Below g w w':=by
 have k2:g+2<w.heap.size:=World.block_lt_of_cell? w _ c3;have k1:g+1<w.heap.size:=by omega
 have k0:g<w.heap.size:=by omega
 refine callsD_of_wpS func168 rfl fun c₀ cs hu=>?_
 apply wpS_seq;apply wpS_region;simp[wpOpsS,go_sem,recoverD,hu,ntmps168,Exit.thenS];rw[show Array.replicate 17 undef=#[undef,undef,undef,undef,undef,undef,undef,undef,undef,undef,undef,undef,undef,undef,undef,undef,undef] from rfl];simp;refine wpS_of_wp (Code.wp_mono (fun e a' w' (h:Ends (fun w'=>w'.cell? ⟨g,0,none⟩=some (.bool false)∧w'.cell? ⟨g,1,none⟩=some (.string ⟨#[]⟩)∧w'.cell? ⟨g+1,0,none⟩=some (.int .i64 x)∧w'.cell? ⟨g+2,0,none⟩=some (.int .i64 20)∧Below g w w') e a' w')=>?_) ?_)
 · obtain⟨rfl,hd,h⟩:=h;simp[bodyPostS,results,Tryz.results168,hd,h]
 have hneq:∀ w:World,(binOp BinOp.neq 20 (.iface 290 (.agg #[.int .i64 x])) .nilIface).run prog w=.ok (.bool true) w:=fun _=>by kernel_rfl
 have hta:∀ (v:Value) (w:World),(Instr.typeAssert (.iface 290 v) 20 290 true).run prog w=.ok (.tuple #[v,.bool true]) w:=fun _ _=>by kernel_rfl
 have hnot:∀ (x:Bool) (w:World),(Op.unary .not (.bool x)).run prog w=.ok (.bool (!x)) w:=fun _ _=>rfl
 go_wp2_with fail;go_region;have hb:Below g w ((((w.setCell ⟨g,0,none⟩ (.bool false)).setCell ⟨g,1,none⟩ (.string ⟨#[]⟩)).setCell ⟨g+1,0,none⟩ (.int .i64 x)).setCell ⟨g+2,0,none⟩ (.int .i64 20)) :=
  ((((Below.refl g w).setCell (Nat.le_refl g) _).setCell (Nat.le_refl g) _).setCell (Nat.le_succ g) _).setCell (by simp) _
 exact⟨rfl,rfl,by simp[go_sem,c0,k0],by simp[go_sem,c1,k0],by simp[go_sem,c2,k1],by simp[go_sem,c3,k2],(hb.alloc (by simp[World.setCell];omega) _).drew⟩
end
section
def aH (w:World) (bad:Nat→Prop) (v:Value) (l:List Int):Prop :=
 ∃ (a:Option Addr) (cap:Nat),v=.slice a l.length cap∧l.length≤cap∧(a=none→cap=0) ∧
  ∀ j (h:j<l.length),∃ g off,a=some ⟨g,off,none⟩∧g<w.heap.size∧¬ bad g∧w.cell? ⟨g,off+j,none⟩=some (.int .i64 l[j])
theorem aH.form {w:World} {bad:Nat→Prop} {v:Value} {l:List Int} (h:aH w bad v l):∃ a cap,v=.slice a l.length cap∧l.length≤cap∧(a=none→cap=0) ∧
 ∀ j (h:j<l.length),∃ g off,a=some ⟨g,off,none⟩∧g<w.heap.size∧¬ bad g∧w.cell? ⟨g,off+j,none⟩=some (.int .i64 l[j]):=h
theorem aH.nil (w:World) (bad:Nat→Prop):aH w bad (.slice none 0 0) []:=⟨none,0,rfl,Nat.le_refl _,fun _=>rfl,fun j h=>by cases h⟩
theorem aH.reads {w:World} {bad:Nat→Prop} {v:Value} {l:List Int} (h:aH w bad v l):IntsIn w 0 w.heap.size v l:=by
 obtain⟨a,cap,rfl,hc,hn,hcells⟩:=h;exact⟨a,cap,rfl,hc,hn,fun j hj=>by obtain⟨g,off,ha,h3,_,h5⟩:=hcells j hj;exact⟨g,off,ha,Nat.zero_le _,h3,h5⟩⟩
theorem aH.of {w:World} {lo hi:Nat} {bad:Nat→Prop} {v:Value} {l:List Int} (h:IntsIn w lo hi v l) (hh:hi≤w.heap.size) (hb:∀ k,lo≤k→k<hi→¬ bad k):aH w bad v l:=by
 obtain⟨a,cap,rfl,hc,hn,hcells⟩:=h;exact⟨a,cap,rfl,hc,hn,fun j hj=>by obtain⟨g,off,ha,h3,h4,h5⟩:=hcells j hj;exact⟨g,off,ha,by omega,hb g h3 h4,h5⟩⟩
theorem aH.keep {w w':World} {bad bad':Nat→Prop} {v:Value} {l:List Int} (h:aH w bad v l) (hz:w.heap.size≤w'.heap.size) (hk:∀ k,k<w.heap.size→¬ bad k→w'.heap[k]?=w.heap[k]?) (hb:∀ k,k<w.heap.size→bad' k→bad k):aH w' bad' v l:=by
 obtain⟨a,cap,rfl,hc,hn,hcells⟩:=h;exact⟨a,cap,rfl,hc,hn,fun j hj=>by
  obtain⟨g,off,ha,h3,h4,h5⟩:=hcells j hj;exact⟨g,off,ha,by omega,fun e=>h4 (hb g h3 e),(World.cell?_of_block (hk g h3 h4)).trans h5⟩⟩
theorem aH.below {w w':World} {bad bad':Nat→Prop} {v:Value} {l:List Int} (h:aH w bad v l) (hb:Below w.heap.size w w') (hb2:∀ k,k<w.heap.size→bad' k→bad k):aH w' bad' v l :=
 h.keep hb.size (fun k hk _=>hb.block k hk) hb2
theorem aH.grown {w w':World} {row:Option Nat} {bad bad':Nat→Prop} {v:Value} {l:List Int} (h:aH w bad v l) (hg:w.grownBy w' row) (hr:∀ k,row=some k→bad k) (hb:∀ k,k<w.heap.size→bad' k→bad k):aH w' bad' v l :=
 h.keep hg.size (fun k hk hn=>hg.block k hk (fun e=>hn (hr k e.symm))) hb
theorem aH.mono {w:World} {bad bad':Nat→Prop} {v:Value} {l:List Int} (h:aH w bad v l) (hb:∀ k,k<w.heap.size→bad' k→bad k):aH w bad' v l:=h.keep lr (fun _ _ _=>rfl) hb
theorem aH.drop {w:World} {bad:Nat→Prop} {g off n cap:Nat} {l:List Int} (h:aH w bad (.slice (some ⟨g,off,none⟩) n cap) l) (k:Nat) (hk:k≤n):aH w bad (.slice (some ⟨g,off+k,none⟩) (n-k) (cap-k)) (l.drop k):=by
 obtain⟨a,c,he,hc,hn,hcells⟩:=h;injection he with e1 e2 e3
 subst e1 e2 e3;refine⟨_,_,by rw[List.length_drop],by rw[List.length_drop];omega,fun e=>by(cases e),fun j hj=>?_⟩;rw[List.length_drop] at hj;obtain⟨g',o',ha,h3,h4,h5⟩:=hcells (k+j) (by omega);cases ha;exact⟨g,off+k,rfl,h3,h4,by rw[Nat.add_assoc,List.getElem_drop];exact h5⟩
theorem aH.take {w:World} {bad:Nat→Prop} {g off n cap:Nat} {l:List Int} (h:aH w bad (.slice (some ⟨g,off,none⟩) n cap) l) (k:Nat) (hk:k≤n):aH w bad (.slice (some ⟨g,off,none⟩) k cap) (l.take k):=by
 obtain⟨a,c,he,hc,hn,hcells⟩:=h;injection he with e1 e2 e3
 subst e1 e2 e3;refine⟨_,_,by rw[List.length_take,Nat.min_eq_left hk],by rw[List.length_take];omega,fun e=>by(cases e),fun j hj=>?_⟩;rw[List.length_take] at hj;obtain⟨g',o',ha,h3,h4,h5⟩:=hcells j (by omega);cases ha;exact⟨g,off,rfl,h3,h4,by rw[List.getElem_take];exact h5⟩
theorem aH.pos {w:World} {bad:Nat→Prop} {v:Value} {l:List Int} (h:aH w bad v l) (hl:0<l.length):∃ g off cap,v=.slice (some ⟨g,off,none⟩) l.length cap∧l.length≤cap∧g<w.heap.size∧¬ bad g∧∀ j (h:j<l.length),w.cell? ⟨g,off+j,none⟩=some (.int .i64 l[j]):=by
 obtain⟨a,cap,rfl,hc,hn,hcells⟩:=h;obtain⟨g,off,rfl,h3,h4,h5⟩:=hcells 0 hl;refine⟨g,off,cap,rfl,hc,h3,h4,fun j hj=>?_⟩;obtain⟨g',off',ha,_,_,h6⟩:=hcells j hj;cases ha;exact h6
theorem aJ.place {w:World} {base:Nat} {v:Value} {l:List Int} {bad:Nat→Prop} (h:aJ w base v l) (hb:∀ k,v.ownBlock=some k→base≤k→k<w.heap.size→¬ bad k):aH w bad v l:=by
 obtain⟨a,cap,rfl,hc,hn,hcells⟩:=h.reads;exact⟨a,cap,rfl,hc,hn,fun j hj=>by obtain⟨g,off,ha,h3,h4,h5⟩:=hcells j hj;subst ha;exact⟨g,off,rfl,h4,hb g rfl h3 h4,h5⟩⟩
theorem aO {P:Program} {ops:Array Oper} {rest:List Oper} {o:Oper} {a:Act} {Q:Exit→Act→World→Prop} {w:World} (hgd:o.guard=none) (s x:Operand) (t:TypeId)
 (ho:o.op=.call { callee:=.builtin .append,args:=#[s,x],argTypes:=#[t,t] }) (e:TypeId) (z:Value) (size bytes:Nat) (ht:P.underlying t=some (.slice e))
 (hinfo:(P.info? e).map (fun i=>(i.zero,i.size,i.bytes))=some (some z,size,bytes)) (hzs:z.cells.size=size) (hsz:0<size)
 {base n:Nat} {v:Value} {xs:List Value} (hs:a.eval s=v) (hown:w.ownsRow base e size v n xs) {lo hi m:Nat} {u:Value} {news:List Value} (hx:a.eval x=u) (hu:aV size w lo hi u m news) (h1:∀ u∈news,u.oneCell'=true)
 (hlen:n+m≤1099511627776) (hby:bytes≤64) (hbase:base≤w.heap.size)
 (h:∀ c cap w',w'.ownsRow base e size (.slice c (n+m) cap) (n+m) (xs++news)→w.grownBy w' v.ownBlock→(Value.ownBlock (.slice c (n+m) cap)=v.ownBlock∨Value.ownBlock (.slice c (n+m) cap)=some w.heap.size)→wpList P ops Q rest (a.put o.dst (.slice c (n+m) cap)) w'):wpList P ops Q (o::rest) a w:=by
 obtain⟨i0,hi,hz0,hz1,hz2⟩:=info_parts hinfo;obtain⟨hl,ad,cap,rfl,hc,hn,hcells⟩:=hu;cases ad with
 | none =>
  obtain rfl:=hn rfl;obtain rfl:m=0:=by omega
  have hm:news=[]:=List.eq_nil_of_length_eq_zero (by omega);subst hm;refine wpList_append_own_none hgd s x t ho base e i0 size ht hi v n xs hs hown hx ?_;obtain⟨c,cap',rfl⟩:=aP hown;exact h c cap' w (by simpa using hown) ⟨rfl,rfl,rfl,Nat.le_refl _,fun _ _ _=>rfl⟩ (.inl rfl)
 | some ad =>
  have hnews:∀ j u,news[j]?=some u→w.cell? (ad.add j)=some u:=by
   intro j u hu;obtain⟨hj,rfl⟩:=List.getElem?_eq_some_iff.1 hu;obtain⟨g,off,ha,_,_,h3⟩:=hcells j hj;cases ha;by_cases h0:j=0
   · subst h0;simpa[Addr.add] using h3
   · simpa[Addr.add,h0] using h3
  refine wpList_append_own_at w hgd s x t ho base e i0 z size bytes ht hi hz0 hz1 hz2 hzs hsz v n xs hs hown ad m cap news hx hl hnews h1 (Nat.le_trans hlen (by decide)) (Nat.le_trans (Nat.mul_le_mul hlen hby) (by decide)) hbase (fun v' w' h1 h2 _ h4=>?_);obtain⟨c,cap',rfl⟩:=aP h1;exact h c cap' w' h1 h2 h4
end
namespace Ta
open Go.Maps Go.WideMaps
open D (aF jW)
def TabAt (w:World) (lo hi:Nat) (v:Value) (T:Tm):Prop :=
 ∃ pt be bl f n g m,v=.pointer (some ⟨pt,0,none⟩)∧(lo≤pt∧pt<hi)∧w.cell? ⟨pt,0,none⟩=some (.map (some be))∧w.cell? ⟨pt,1,none⟩=some (.map (some bl))∧(lo≤be∧be<hi)∧(lo≤bl∧bl<hi) ∧
  bQ prog 179 bX w be f n∧n≤4096∧bQ prog 3 (Value.int .i64) w bl g m∧m≤4096 ∧
  (∀ l,l.length≤8→T.ent l=none→f (fD l)=none)∧(∀ l es,T.ent l=some es→l.length≤8∧es.length≤16∧∃ s,f (fD l)=some s∧aV 4 w lo hi s es.length (ev es)) ∧
  (∀ x,g x=none→T.long x=0)∧(∀ x u,g x=some u→u=.int .i64 (T.long x))
theorem TabAt.later {w w':World} {lo hi B:Nat} {v:Value} {T:Tm} (h:TabAt w lo hi v T) (hb:Below B w w') (hB:hi≤B):TabAt w' lo hi v T:=by
 obtain⟨pt,be,bl,f,n,g,m,rfl,h1,h2,h3,h4,h5,h6,h7,h8,h9,h10,h11,h12,h13⟩:=h;refine⟨pt,be,bl,f,n,g,m,rfl,h1,(hb.cell (p:=⟨pt,0,none⟩) (by show pt<B;omega)).trans h2,(hb.cell (p:=⟨pt,1,none⟩) (by show pt<B;omega)).trans h3,h4,h5,h6.later hb (by omega),h7,h8.later hb (by omega),h9,h10,fun l es hl=>?_,h12,h13⟩;obtain⟨a1,a2,s,a3,a4⟩:=h11 l es hl;exact⟨a1,a2,s,a3,a4.later (hb.mono hB)⟩
theorem TabAt.wide {w:World} {lo hi lo' hi':Nat} {v:Value} {T:Tm} (h:TabAt w lo hi v T) (b1:lo'≤lo) (b2:hi≤hi'):TabAt w lo' hi' v T:=by
 obtain⟨pt,be,bl,f,n,g,m,rfl,h1,h2,h3,h4,h5,h6,h7,h8,h9,h10,h11,h12,h13⟩:=h;refine⟨pt,be,bl,f,n,g,m,rfl,by omega,h2,h3,by omega,by omega,h6,h7,h8,h9,h10,fun l es hl=>?_,h12,h13⟩;obtain⟨a1,a2,s,a3,a4⟩:=h11 l es hl;exact⟨a1,a2,s,a3,a4.wide b1 b2⟩
theorem TabAt.looks {w:World} {lo hi:Nat} {v:Value} {T:Tm} (h:TabAt w lo hi v T):∃ pt be bl,v=.pointer (some ⟨pt,0,none⟩)∧pt<hi∧w.cell? ⟨pt,0,none⟩=some (.map (some be))∧w.cell? ⟨pt,1,none⟩=some (.map (some bl))∧be<hi ∧
 (∀ x,aF x→(Instr.lookup 158 (.map (some bl)) (.int .i64 x) false).run prog w=.ok (.int .i64 (T.long x)) w) ∧
 (∀ l,l.length≤8→(∀ x∈l,aF x)→T.ent l=none→∀ w',w'.heap[be]?=w.heap[be]?→(Instr.lookup 167 (.map (some be)) (bX (fD l)) true).run prog w'=.ok (.tuple #[.slice none 0 0,.bool false]) w') ∧
 (∀ l es,(∀ x∈l,aF x)→T.ent l=some es→∃ s,aV 4 w lo hi s es.length (ev es)∧∀ w',w'.heap[be]?=w.heap[be]?→(Instr.lookup 167 (.map (some be)) (bX (fD l)) true).run prog w'=.ok (.tuple #[s,.bool true]) w'):=by
 obtain⟨pt,be,bl,f,n,g,m,rfl,h1,h2,h3,h4,h5,h6,h7,h8,h9,h10,h11,h12,h13⟩:=h;refine⟨pt,be,bl,rfl,h1.2,h2,h3,h4.2,fun x hx=>?_,fun l hl hw hn w' he=>?_,fun l es hw hes=>?_⟩
 · have hl:=h8.look (int_keyed underlying3) underlying158 (Tryz.zeroValue3 _) (keyOf_int_mk underlying3 (jW hx)) false;cases hg:g x with
   | none=>rw[hg] at hl;rw[h12 x hg];exact hl
   | some u=>rw[hg,h13 x u hg] at hl;exact hl
 · obtain⟨kl,hk⟩:=kD (fD l) (gX l) (lZ hw);have hl2:=(h6.of_block he).look oH underlying167 (Tryz.zeroValue170 _) hk true;rw[h10 l hl hn] at hl2;exact hl2
 · obtain⟨a1,a2,s,a3,a4⟩:=h11 l es hes;refine⟨s,a4,fun w' he=>?_⟩;obtain⟨kl,hk⟩:=kD (fD l) (gX l) (lZ hw);have hl2:=(h6.of_block he).look oH underlying167 (Tryz.zeroValue170 _) hk true;rw[a3] at hl2;exact hl2
theorem zN (v:Value) (T:Tm) (x:Int) (hx:aF x) (w:World) (hi:Nat) (h:TabAt w 0 hi v T) :
 Calls prog 238 #[v,.int .i64 x] w fun e w'=>e=.returned (.int .i64 (T.long x))∧w'=w:=by
 obtain⟨pt,be,bl,rfl,h1,h2,h3,_,h4,_⟩:=h.looks;have h5:=h4 x hx;clear h h4;go_enter func238,ntmps238;go_wp2_with fail;go_ret;exact⟨rfl,rfl⟩
def dD (T:Tm) (l:List Int):Option (List El):=if l.length≤8 then T.ent l else none
def wG (T:Tm) (l:List Int) (w:World) (e:Ending) (w':World):Prop:=∃ u,e=.returned (.tuple #[u,.bool (dD T l).isSome])∧w'.ownsRow w.heap.size 176 4 u ((dD T l).getD []).length (ev ((dD T l).getD []))∧Below w.heap.size w w'
theorem nine {xs:List Int} (h:xs.length=9):∃ a b c d e f g i j,xs=[a,b,c,d,e,f,g,i,j]:=by
 match xs,h with
 | [a,b,c,d,e,f,g,i,j],_=>exact⟨a,b,c,d,e,f,g,i,j,rfl⟩
theorem below_drewN {B:Nat} {a w:World} (h:Below B a w) (n:Nat):Below B a (w.drewN n):=⟨h.os,h.tape,h.output,h.size,h.block⟩
def aGi (w:World) (be:Nat) (l:List Int) (r:Option Value):Prop :=
 ∀ w',w'.heap[be]?=w.heap[be]?→(Instr.lookup 167 (.map (some be)) (bX (fD l)) true).run prog w'=.ok (nJ (.slice none 0 0) true r) w'
theorem aWw (pt be:Nat) (s:Value) (l:List Int) (w:World) (hs:IntsIn w 0 w.heap.size s l) (hpt:pt<w.heap.size) (hbe:be<w.heap.size) (hc:w.cell? ⟨pt,0,none⟩=some (.map (some be)))
 (hl:aGi w be l none) (h8:decide (l.length≤8)=true) :
 Calls prog 222 #[.pointer (some ⟨pt,0,none⟩),s] w fun e w'=>e=.returned (.tuple #[.slice none 0 0,.bool false])∧Below w.heap.size w w':=by
 obtain⟨a,cap,rfl,hcap,hn⟩:=hs.form;obtain⟨x0,x1,x2,x3,x4,x5,x6,x7,x8,hrow⟩:=nine (gX l);have HS:=zh hs;have HC:=zh hc;have H8:=zh h8;have e1:bX (fD l)=.agg #[.int .i64 x0,.int .i64 x1,.int .i64 x2,.int .i64 x3,.int .i64 x4,.int .i64 x5,.int .i64 x6,.int .i64 x7,.int .i64 x8]:=by rw[hrow];rfl
 have HE:=zh e1;have HK:=zh hl;clear hs hn hrow e1 hc hl h8;go_enter func222,ntmps222;go_wp2_with fail;refine(oI _ l w 0 w.heap.size HS.out lr).mono ?_;rintro e w1 ⟨rfl,hb1⟩;rw[HE.out,H8.out];obtain⟨B,hB⟩:∃ B,w1.heap.size=B:=⟨_,rfl⟩
 obtain⟨W,hW⟩:∃ W,w1.alloc (.cells #[.int .i64 x0,.int .i64 x1,.int .i64 x2,.int .i64 x3,.int .i64 x4,.int .i64 x5,.int .i64 x6,.int .i64 x7,.int .i64 x8] 179)=W:=⟨_,rfl⟩
 have hz:w.heap.size≤B:=by rw[← hB];exact hb1.size
 have hb2:Below w.heap.size w W:=by rw[← hW];exact hb1.alloc hb1.size _
 have hg:W.heap[B]?=some (.cells #[.int .i64 x0,.int .i64 x1,.int .i64 x2,.int .i64 x3,.int .i64 x4,.int .i64 x5,.int .i64 x6,.int .i64 x7,.int .i64 x8] 179 (0,0)):=by rw[← hW,← hB];exact heap_alloc_new w1 _
 have cp:W.cell? ⟨pt,0,none⟩=some (.map (some be)):=(hb2.cell (p:=⟨pt,0,none⟩) hpt).trans HC.out;have k0:W.cell? ⟨B,0,none⟩=some (.int .i64 x0):=cell_of_row W B 0 _ _ _ hg;have k1:W.cell? ⟨B,1,none⟩=some (.int .i64 x1):=cell_of_row W B 1 _ _ _ hg;have k2:W.cell? ⟨B,2,none⟩=some (.int .i64 x2):=cell_of_row W B 2 _ _ _ hg;have k3:W.cell? ⟨B,3,none⟩=some (.int .i64 x3):=cell_of_row W B 3 _ _ _ hg;have k4:W.cell? ⟨B,4,none⟩=some (.int .i64 x4):=cell_of_row W B 4 _ _ _ hg;have k5:W.cell? ⟨B,5,none⟩=some (.int .i64 x5):=cell_of_row W B 5 _ _ _ hg;have k6:W.cell? ⟨B,6,none⟩=some (.int .i64 x6):=cell_of_row W B 6 _ _ _ hg;have k7:W.cell? ⟨B,7,none⟩=some (.int .i64 x7):=cell_of_row W B 7 _ _ _ hg;have k8:W.cell? ⟨B,8,none⟩=some (.int .i64 x8):=cell_of_row W B 8 _ _ _ hg;have lk:=fun n=>HK.out (W.drewN n) (hb2.block be hbe)
 rw[HE.out] at lk;simp only [nJ,if_true] at lk;have HW:=zh hW;have HB2:=zh hb2;have vX:=zh hB;clear hg hW hb2 hb1 hB HC;go_wp2_with fail;rw[HW.out];simp only [vX.out];go_quiet (fail);go_wp2_with fail;exact bodyPost_ret (v:=.tuple #[.slice none 0 0,.bool false]) (by simp[results,Tryz.f222]) rfl ⟨rfl,below_drewN HB2.out nq⟩
theorem aWx (pt be:Nat) (s:Value) (l:List Int) (w:World) (hs:IntsIn w 0 w.heap.size s l) (hpt:pt<w.heap.size) (hbe:be<w.heap.size) (hc:w.cell? ⟨pt,0,none⟩=some (.map (some be)))
 (hl:aGi w be l none) (h8:decide (l.length≤8)=false) :
 Calls prog 222 #[.pointer (some ⟨pt,0,none⟩),s] w fun e w'=>e=.returned (.tuple #[.slice none 0 0,.bool false])∧Below w.heap.size w w':=by
 obtain⟨a,cap,rfl,hcap,hn⟩:=hs.form;obtain⟨x0,x1,x2,x3,x4,x5,x6,x7,x8,hrow⟩:=nine (gX l);have HS:=zh hs;have HC:=zh hc;have H8:=zh h8;have e1:bX (fD l)=.agg #[.int .i64 x0,.int .i64 x1,.int .i64 x2,.int .i64 x3,.int .i64 x4,.int .i64 x5,.int .i64 x6,.int .i64 x7,.int .i64 x8]:=by rw[hrow];rfl
 have HE:=zh e1;have HK:=zh hl;clear hs hn hrow e1 hc hl h8;go_enter func222,ntmps222;go_wp2_with fail;refine(oI _ l w 0 w.heap.size HS.out lr).mono ?_;rintro e w1 ⟨rfl,hb1⟩;rw[HE.out,H8.out];obtain⟨B,hB⟩:∃ B,w1.heap.size=B:=⟨_,rfl⟩
 obtain⟨W,hW⟩:∃ W,w1.alloc (.cells #[.int .i64 x0,.int .i64 x1,.int .i64 x2,.int .i64 x3,.int .i64 x4,.int .i64 x5,.int .i64 x6,.int .i64 x7,.int .i64 x8] 179)=W:=⟨_,rfl⟩
 have hz:w.heap.size≤B:=by rw[← hB];exact hb1.size
 have hb2:Below w.heap.size w W:=by rw[← hW];exact hb1.alloc hb1.size _
 have hg:W.heap[B]?=some (.cells #[.int .i64 x0,.int .i64 x1,.int .i64 x2,.int .i64 x3,.int .i64 x4,.int .i64 x5,.int .i64 x6,.int .i64 x7,.int .i64 x8] 179 (0,0)):=by rw[← hW,← hB];exact heap_alloc_new w1 _
 have cp:W.cell? ⟨pt,0,none⟩=some (.map (some be)):=(hb2.cell (p:=⟨pt,0,none⟩) hpt).trans HC.out;have k0:W.cell? ⟨B,0,none⟩=some (.int .i64 x0):=cell_of_row W B 0 _ _ _ hg;have k1:W.cell? ⟨B,1,none⟩=some (.int .i64 x1):=cell_of_row W B 1 _ _ _ hg;have k2:W.cell? ⟨B,2,none⟩=some (.int .i64 x2):=cell_of_row W B 2 _ _ _ hg;have k3:W.cell? ⟨B,3,none⟩=some (.int .i64 x3):=cell_of_row W B 3 _ _ _ hg;have k4:W.cell? ⟨B,4,none⟩=some (.int .i64 x4):=cell_of_row W B 4 _ _ _ hg;have k5:W.cell? ⟨B,5,none⟩=some (.int .i64 x5):=cell_of_row W B 5 _ _ _ hg;have k6:W.cell? ⟨B,6,none⟩=some (.int .i64 x6):=cell_of_row W B 6 _ _ _ hg;have k7:W.cell? ⟨B,7,none⟩=some (.int .i64 x7):=cell_of_row W B 7 _ _ _ hg;have k8:W.cell? ⟨B,8,none⟩=some (.int .i64 x8):=cell_of_row W B 8 _ _ _ hg;have lk:=fun n=>HK.out (W.drewN n) (hb2.block be hbe)
 rw[HE.out] at lk;simp only [nJ,if_true] at lk;have HW:=zh hW;have HB2:=zh hb2;have vX:=zh hB;clear hg hW hb2 hb1 hB HC;go_wp2_with fail;rw[HW.out];simp only [vX.out];go_quiet (fail);go_wp2_with fail;exact bodyPost_ret (v:=.tuple #[.slice none 0 0,.bool false]) (by simp[results,Tryz.f222]) rfl ⟨rfl,below_drewN HB2.out nq⟩
theorem aWy (pt be:Nat) (s:Value) (l:List Int) (w:World) (u:Value) (es:List El) (hu:aV 4 w 0 w.heap.size u es.length (ev es)) (hu2:es.length≤16) (hs:IntsIn w 0 w.heap.size s l) (hpt:pt<w.heap.size) (hbe:be<w.heap.size) (hc:w.cell? ⟨pt,0,none⟩=some (.map (some be)))
 (hl:aGi w be l (some u)) (h8:decide (l.length≤8)=true) :
 Calls prog 222 #[.pointer (some ⟨pt,0,none⟩),s] w fun e w'=>∃ v,e=.returned (.tuple #[v,.bool true])∧w'.ownsRow w.heap.size 176 4 v es.length (ev es)∧Below w.heap.size w w':=by
 obtain⟨a,cap,rfl,hcap,hn⟩:=hs.form;obtain⟨x0,x1,x2,x3,x4,x5,x6,x7,x8,hrow⟩:=nine (gX l);have HU:=zh hu;have HU2:=zh hu2;have HS:=zh hs;have HC:=zh hc;have H8:=zh h8;have e1:bX (fD l)=.agg #[.int .i64 x0,.int .i64 x1,.int .i64 x2,.int .i64 x3,.int .i64 x4,.int .i64 x5,.int .i64 x6,.int .i64 x7,.int .i64 x8]:=by rw[hrow];rfl
 have HE:=zh e1;have HK:=zh hl;clear hs hn hrow e1 hc hl h8 hu hu2;go_enter func222,ntmps222;go_wp2_with fail;refine(oI _ l w 0 w.heap.size HS.out lr).mono ?_;rintro e w1 ⟨rfl,hb1⟩;rw[HE.out,H8.out];obtain⟨B,hB⟩:∃ B,w1.heap.size=B:=⟨_,rfl⟩
 obtain⟨W,hW⟩:∃ W,w1.alloc (.cells #[.int .i64 x0,.int .i64 x1,.int .i64 x2,.int .i64 x3,.int .i64 x4,.int .i64 x5,.int .i64 x6,.int .i64 x7,.int .i64 x8] 179)=W:=⟨_,rfl⟩
 have hz:w.heap.size≤B:=by rw[← hB];exact hb1.size
 have hb2:Below w.heap.size w W:=by rw[← hW];exact hb1.alloc hb1.size _
 have hg:W.heap[B]?=some (.cells #[.int .i64 x0,.int .i64 x1,.int .i64 x2,.int .i64 x3,.int .i64 x4,.int .i64 x5,.int .i64 x6,.int .i64 x7,.int .i64 x8] 179 (0,0)):=by rw[← hW,← hB];exact heap_alloc_new w1 _
 have cp:W.cell? ⟨pt,0,none⟩=some (.map (some be)):=(hb2.cell (p:=⟨pt,0,none⟩) hpt).trans HC.out;have k0:W.cell? ⟨B,0,none⟩=some (.int .i64 x0):=cell_of_row W B 0 _ _ _ hg;have k1:W.cell? ⟨B,1,none⟩=some (.int .i64 x1):=cell_of_row W B 1 _ _ _ hg;have k2:W.cell? ⟨B,2,none⟩=some (.int .i64 x2):=cell_of_row W B 2 _ _ _ hg;have k3:W.cell? ⟨B,3,none⟩=some (.int .i64 x3):=cell_of_row W B 3 _ _ _ hg;have k4:W.cell? ⟨B,4,none⟩=some (.int .i64 x4):=cell_of_row W B 4 _ _ _ hg;have k5:W.cell? ⟨B,5,none⟩=some (.int .i64 x5):=cell_of_row W B 5 _ _ _ hg;have k6:W.cell? ⟨B,6,none⟩=some (.int .i64 x6):=cell_of_row W B 6 _ _ _ hg;have k7:W.cell? ⟨B,7,none⟩=some (.int .i64 x7):=cell_of_row W B 7 _ _ _ hg;have k8:W.cell? ⟨B,8,none⟩=some (.int .i64 x8):=cell_of_row W B 8 _ _ _ hg;have lk:=fun n=>HK.out (W.drewN n) (hb2.block be hbe)
 rw[HE.out] at lk;simp only [nJ,if_true] at lk;have HW:=zh hW;have HB2:=zh hb2;have vX:=zh hB;clear hg hW hb2 hb1 hB HC;go_wp2_with fail;rw[HW.out];simp only [vX.out];go_quiet (fail);have aB:=below_drewN HB2.out nq;have hu3:=(HU.out.later aB)
 go_wp2_with fail;refine(aMk u es.length (ev es) _ 0 w.heap.size hu3 (aGj es) aB.size (by have:=HU2.out;omega)).mono ?_;rintro e w3 ⟨v,rfl,ho,hb3⟩;have ho2:=aGk ho aB.size;have hb4:=aB.trans (hb3.mono aB.size);clear ho hb3;go_wp2_with fail;exact bodyPost_ret (v:=.tuple #[v,.bool true]) (by simp[results,Tryz.f222]) rfl ⟨v,rfl,ho2,hb4⟩
theorem oJ (v s:Value) (T:Tm) (l:List Int) (w:World) (h:TabAt w 0 w.heap.size v T) (hs:IntsIn w 0 w.heap.size s l) (hf:∀ x∈l,aF x) (h0:T.ent []=none) :
 Calls prog 222 #[v,s] w (wG T l w):=by
 obtain⟨pt,be,bl,rfl,h1,h2,h3,h4,_,h5,h6⟩:=h.looks;by_cases h8:l.length≤8
 · cases he:T.ent l with
   | none =>
    refine(aWw pt be s l w hs h1 h4 h2 (h5 l h8 hf he) (by simpa using h8)).mono ?_;rintro e w' ⟨rfl,hb⟩;have e1:dD T l=none:=by unfold dD;rw[if_pos h8,he]
    exact⟨.slice none 0 0,by rw[e1];rfl,by rw[e1];exact World.ownsRow_nil _ _ _ _,hb⟩
   | some es =>
    obtain⟨u,h7,h9⟩:=h6 l es hf he;obtain⟨_,_,_,_,_,_,_,_,_,_,_,_,_,_,_,_,_,_,h10,_,_⟩:=h;refine(aWy pt be s l w u es h7 (h10 l es he).2.1 hs h1 h4 h2 h9 (by simpa using h8)).mono ?_;rintro e w' ⟨v,rfl,ho,hb⟩;have e1:dD T l=some es:=by unfold dD;rw[if_pos h8,he]
    exact⟨v,by rw[e1];rfl,by rw[e1];exact ho,hb⟩
 · have e1:dD T l=none:=by unfold dD;rw[if_neg h8]
   have e2:fD l=fD []:=by unfold fD;rw[if_neg h8];rfl
   have h9:=h5 [] (Nat.zero_le _) (fun x hx=>by cases hx) h0;refine(aWx pt be s l w hs h1 h4 h2 (by unfold aGi;rw[e2];exact h9) (by simpa using h8)).mono ?_;rintro e w' ⟨rfl,hb⟩;exact⟨.slice none 0 0,by rw[e1];rfl,by rw[e1];exact World.ownsRow_nil _ _ _ _,hb⟩
end Ta
namespace So
open D (aF)
theorem aM.iE {l:List Int} (h:aM l) (c:Int→Int) (a j:Nat):aM (So.iE c a j l):=by
 induction j generalizing l with
 | zero=>exact h
 | succ j ih =>
  unfold So.iE;split
  · exact ih (h.sw _ _)
  · exact h
theorem aM.pX {l:List Int} (h:aM l) (c:Int→Int) (a k i:Nat):aM (So.pX c a k i l):=by
 induction k generalizing i l with
 | zero=>exact h
 | succ k ih=>exact ih (h.iE _ _ _) _
theorem aM.eU {l:List Int} (h:aM l) (c:Int→Int) (a b:Nat):aM (So.eU c l a b):=h.pX _ _ _ _
theorem zO (c:Int→Int) (g off bx cap n a b:Nat) (x y:Int) (hx:(a:Int)=x) (hy:(b:Int)=y) (pre post:List Value) (l:List Int) (w:World) (hn:l.length=n) (hr:aN w g off pre post l) (hf:aM l) (hab:a≤b) (hb:b≤n) (hlen:n≤4194304) (hc:nK w g bx c) :
 Calls prog 250 #[.slice (some ⟨g,off,none⟩) n cap,.int .i64 x,.int .i64 y,.func (.func 244) #[] #[.pointer (some ⟨bx,0,none⟩)]] w fun e w' =>
  e=.returned (.tuple #[])∧aN w' g off pre post (eU c l a b)∧fM g w w':=by
 subst hx hy hn;exact aDt c g off bx cap a b pre post l w hr hf hab hb hlen hc
theorem aSb {c:Int→Int} {n f a:Nat} {l:List Int} (h:a+20≤n):blocks c n (f+1) a l=blocks c n f (a+20) (eU c l a (a+20)):=by rw[blocks,if_pos h]
theorem aMl {c:Int→Int} {n f a:Nat} {l:List Int} (h:¬ a+20≤n):blocks c n (f+1) a l=eU c l a n:=by rw[blocks,if_neg h]
theorem aSc {c:Int→Int} {s n f a:Nat} {l:List Int} (h:a+2*s≤n):gG c s n (f+1) a l=gG c s n f (a+2*s) (gH c n a (a+s) (a+2*s) l):=by rw[gG,if_pos h]
theorem aMm {c:Int→Int} {s n f a:Nat} {l:List Int} (h:¬ a+2*s≤n) (hf:n≤a+f) (h2:a+s<n):gG c s n f a l=gH c n a (a+s) n l:=by
 obtain⟨f,rfl⟩:∃ k,f=k+1:=⟨f-1,by omega⟩
 rw[gG,if_neg h,if_pos h2]
theorem aSd {c:Int→Int} {s n f a:Nat} {l:List Int} (h:¬ a+2*s≤n) (h2:¬ a+s<n):gG c s n f a l=l:=by
 cases f with
 | zero=>rfl
 | succ f=>rw[gG,if_neg h,if_neg h2]
theorem aIu {c:Int→Int} {n f s:Nat} {l:List Int} (h:s<n):dZ c n (f+1) s l=dZ c n f (2*s) (gG c s n n 0 l):=by rw[dZ,if_pos h]
theorem aGl {c:Int→Int} {n f s:Nat} {l:List Int} (h:¬ s<n):dZ c n f s l=l:=by
 cases f with
 | zero=>rfl
 | succ f=>rw[dZ,if_neg h]
theorem uO (c:Int→Int) (n f a:Nat) (l:List Int):(blocks c n f a l).length=l.length:=by
 induction f generalizing a l with
 | zero=>rfl
 | succ f ih =>
  unfold blocks;split
  · rw[ih,mG]
  · rw[mG]
theorem aM.blocks {l:List Int} (h:aM l) (c:Int→Int) (n f a:Nat):aM (So.blocks c n f a l):=by
 induction f generalizing a l with
 | zero=>exact h
 | succ f ih =>
  unfold So.blocks;split
  · exact ih (h.eU _ _ _) _
  · exact h.eU _ _ _
theorem uP (c:Int→Int) (s n f a:Nat) (l:List Int):(gG c s n f a l).length=l.length:=by
 induction f generalizing a l with
 | zero=>rfl
 | succ f ih =>
  unfold gG;split
  · rw[ih,kR]
  · split
    · rw[kR]
    · rfl
theorem aM.gG {l:List Int} (h:aM l) (c:Int→Int) (s n f a:Nat):aM (So.gG c s n f a l):=by
 induction f generalizing a l with
 | zero=>exact h
 | succ f ih =>
  unfold So.gG;split
  · exact ih (h.gH _ _ _ _ _) _
  · split
    · exact h.gH _ _ _ _ _
    · exact h
theorem aAn (c:Int→Int) (n f s:Nat) (l:List Int):(dZ c n f s l).length=l.length:=by
 induction f generalizing s l with
 | zero=>rfl
 | succ f ih =>
  unfold dZ;split
  · rw[ih,uP]
  · rfl
theorem aM.dZ {l:List Int} (h:aM l) (c:Int→Int) (n f s:Nat):aM (So.dZ c n f s l):=by
 induction f generalizing s l with
 | zero=>exact h
 | succ f ih =>
  unfold So.dZ;split
  · exact ih (h.gG _ _ _ _ _) _
  · exact h
theorem aDu (c:Int→Int) (l:List Int):(stable c l).length=l.length:=by unfold stable;rw[aAn,uO]
theorem aM.stable {l:List Int} (h:aM l) (c:Int→Int):aM (So.stable c l):=(h.blocks _ _ _ _).dZ _ _ _ _
theorem aMn (c:Int→Int) (g off bx cap n:Nat) (pre post:List Value) (l:List Int) (w:World) (hn:l.length=n) (hr:aN w g off pre post l) (hf:aM l) (hlen:n≤4194304) (hc:nK w g bx c) :
 Calls prog 249 #[.slice (some ⟨g,off,none⟩) n cap,.int .i64 (n:Int),.func (.func 244) #[] #[.pointer (some ⟨bx,0,none⟩)]] w fun e w' =>
  e=.returned (.tuple #[])∧aN w' g off pre post (stable c l)∧fM g w w':=by
 have HC:=zh hc;obtain⟨L0,hL0⟩:∃ L0,blocks c n (n+1) 0 l=L0:=⟨_,rfl⟩
 have HL0:=zh hL0;have H0:=zh (show L0.length=n∧aM L0 from⟨by rw[← hL0,uO];exact hn,by rw[← hL0];exact hf.blocks _ _ _ _⟩);obtain⟨Z,hZ⟩:∃ Z,stable c l=Z:=⟨_,rfl⟩
 have HZ:=zh (show dZ c n (n+1) 20 L0=Z by rw[← hZ,← hL0,← hn];rfl);rw[hZ];have HN:=zh hn;have HF:=zh hf;clear hc hL0 hZ hn hf;go_enter func249,ntmps249;go_wp2_with fail;go_loopw [7,8] (fun va vb wr=>∃ (a f:Nat) (L:List Int),va=.int .i64 (a:Int)∧vb=.int .i64 ((a+20:Nat):Int)∧a≤n∧n+1≤a+f∧aN wr g off pre post L∧fM g w wr∧RowKit.Hid (L.length=n∧aM L)∧RowKit.Hid (blocks c n f a L=L0)) (fun va _ _=>n-(intOf va).toNat)
 case atStart=>exact⟨0,n+1,l,rfl,rfl,by omega,by omega,hr,fM.refl _ _,zh ⟨HN.out,HF.out⟩,HL0⟩
 case round =>
  obtain⟨a,f,L,rfl,rfl,ha,hf,hrow,ho,HL,HO⟩:=hrel;obtain⟨f,rfl⟩:∃ k,f=k+1:=⟨f-1,by omega⟩
  obtain⟨b,hb⟩:∃ b,a+20=b:=⟨_,rfl⟩
  rw[hb];by_cases hlt:b≤n
  · have q1:decide ((b:Int)≤(n:Int))=true:=by simp;omega
    rw[aSb (by omega),hb] at HO;have hab:a≤b:=by omega
    have hb1:b=a+20:=by omega
    have HB:=zh hb1;clear hb hb1;go_wp2_with fail;refine(zO c g off bx cap n a b _ _ rfl rfl pre post L wr HL.out.1 hrow HL.out.2 hab hlt hlen (HC.out.oth ho)).mono ?_;rintro e w1 ⟨rfl,hr1,ho1⟩;have jX:=ho.trans ho1;have HL1:=zh (show (eU c L a b).length=n∧aM (eU c L a b) from⟨by rw[mG];exact HL.out.1,HL.out.2.eU _ _ _⟩);clear hrow ho ho1;go_wp2_with fail;have hb1:=HB.out;exact⟨⟨b,f,eU c L a b,rfl,by simp,by omega,by omega,hr1,jX,HL1,HO⟩,by simp[intOf];omega⟩
  · have q1:decide ((b:Int)≤(n:Int))=false:=by simp;omega
    rw[aMl (by omega)] at HO;have HB:=zh hb;clear hb;go_wp2_with fail;refine(zO c g off bx cap n a n _ _ rfl rfl pre post L wr HL.out.1 hrow HL.out.2 ha lr hlen (HC.out.oth ho)).mono ?_;rintro e w1 ⟨rfl,hr1,ho1⟩;rw[HO.out] at hr1;have jX:=ho.trans ho1;clear hrow ho ho1;go_wp2_with fail;go_loopw [6] (fun vs wr=>∃ (s f:Nat) (L:List Int),vs=.int .i64 (s:Int)∧1≤s∧s≤2*n+20∧n≤s+f∧aN wr g off pre post L∧fM g w wr∧RowKit.Hid (L.length=n∧aM L)∧RowKit.Hid (dZ c n f s L=Z)) (fun vs _=>n-(intOf vs).toNat)
    case atStart=>exact⟨20,n+1,L0,rfl,by omega,by omega,by omega,hr1,jX,H0,HZ⟩
    case round =>
     clear hr1 jX HL HO;obtain⟨s,f,L,rfl,hs1,hs2,hf,hrow,ho,HL,HO⟩:=hrel;by_cases hlt2:s<n
     · obtain⟨f,rfl⟩:∃ k,f=k+1:=⟨f-1,by omega⟩
       have q2:decide ((s:Int)<(n:Int))=true:=by simp;omega
       rw[aIu hlt2] at HO;obtain⟨L1,hL1⟩:∃ L1,gG c s n n 0 L=L1:=⟨_,rfl⟩
       rw[hL1] at HO;have HL1:=zh hL1;have HG:=zh (show L1.length=n∧aM L1 from⟨by rw[← hL1,uP];exact HL.out.1,by rw[← hL1];exact HL.out.2.gG _ _ _ _ _⟩);clear hL1;go_wp2_with fail;go_loopw [7,8] (fun va vb wr=>∃ (a f:Nat) (M:List Int),va=.int .i64 (a:Int)∧vb=.int .i64 ((a+2*s:Nat):Int)∧a≤n∧n≤a+f∧aN wr g off pre post M∧fM g w wr∧RowKit.Hid (M.length=n∧aM M)∧RowKit.Hid (gG c s n f a M=L1)) (fun va _ _=>n-(intOf va).toNat)
       case atStart=>exact⟨0,n,L,rfl,by simp,by omega,by omega,hrow,ho,HL,HL1⟩
       case round =>
        clear hrow ho HL HL1;obtain⟨a,fa,M,rfl,rfl,ha,hfa,hrow,ho,HM,HR⟩:=hrel;by_cases hlt3:a+2*s≤n
        · obtain⟨fa,rfl⟩:∃ k,fa=k+1:=⟨fa-1,by omega⟩
          have q3:decide (((a+2*s:Nat):Int)≤(n:Int))=true:=by simp;omega
          have q3':decide ((a:Int)+2*(s:Int)≤(n:Int))=true:=by simp;omega
          rw[aSc hlt3] at HR;go_wp2_with fail;refine(aQj c g off bx cap n pre post hlen n a (a+s) (a+2*s) _ _ _ M wr rfl (by omega) (by omega) HM.out.1 hrow HM.out.2 (by omega) (by omega) hlt3 (by omega) (HC.out.oth ho)).mono ?_;rintro e w2 ⟨rfl,hr2,ho2⟩;have hO2:=ho.trans ho2;have HM1:=zh (show (gH c n a (a+s) (a+2*s) M).length=n∧aM (gH c n a (a+s) (a+2*s) M) from⟨by rw[kR];exact HM.out.1,HM.out.2.gH _ _ _ _ _⟩);clear hrow ho ho2;go_wp2_with fail;refine⟨⟨a+2*s,fa,_,by simp,?_,hlt3,by omega,hr2,hO2,HM1,HR⟩,by simp[intOf];omega⟩;simp
        · have q3:decide (((a+2*s:Nat):Int)≤(n:Int))=false:=by simp;omega
          have q3':decide ((a:Int)+2*(s:Int)≤(n:Int))=false:=by simp;omega
          by_cases bFe:a+s<n
          · have q4:decide ((a:Int)+(s:Int)<(n:Int))=true:=by simp;omega
            rw[aMm hlt3 hfa bFe] at HR;go_wp2_with fail;refine(aQj c g off bx cap n pre post hlen n a (a+s) n _ _ _ M wr rfl (by omega) rfl HM.out.1 hrow HM.out.2 (by omega) bFe lr (by omega) (HC.out.oth ho)).mono ?_;rintro e w2 ⟨rfl,hr2,ho2⟩;rw[HR.out] at hr2;have hO2:=ho.trans ho2;clear hrow ho ho2;go_wp2_with fail;refine⟨⟨2*s,f,L1,?_,by omega,by omega,by omega,hr2,hO2,HG,HO⟩,by simp[intOf];omega⟩;simp;omega
          · have q4:decide ((a:Int)+(s:Int)<(n:Int))=false:=by simp;omega
            rw[aSd hlt3 bFe] at HR;have hM:M=L1:=HR.out;subst hM;go_wp2_with fail;refine⟨⟨2*s,f,M,?_,by omega,by omega,by omega,hrow,ho,HG,HO⟩,by simp[intOf];omega⟩;simp;omega
     · have q2:decide ((s:Int)<(n:Int))=false:=by simp;omega
       rw[aGl hlt2] at HO;have hM:L=Z:=HO.out;subst hM;go_wp2_with fail;go_end0
       exact⟨rfl,hrow,ho⟩
theorem rE (c:Int→Int) (g off bx cap n:Nat) (pre post:List Value) (l:List Int) (w:World) (hn:l.length=n) (hr:aN w g off pre post l) (hf:aM l) (hlen:n≤4194304) (hc:nK w g bx c) :
 Calls prog 246 #[.slice (some ⟨g,off,none⟩) n cap,.func (.func 244) #[] #[.pointer (some ⟨bx,0,none⟩)]] w fun e w' =>
  e=.returned (.tuple #[])∧aN w' g off pre post (stable c l)∧fM g w w':=by
 have HC:=zh hc;have HN:=zh hn;have HF:=zh hf;clear hc hn hf;go_enter func246,ntmps246;go_wp2_with fail;refine(aMn c g off bx cap n pre post l w HN.out hr HF.out hlen HC.out).mono ?_;rintro e w1 ⟨rfl,hr1,ho1⟩;go_wp2_with fail;go_end0
 exact⟨rfl,hr1,ho1⟩
end So
section
open D (aF)
theorem aN.sub {w:World} {g:Nat} {post:List Value} {M:List Int} {a b:Nat} (h:aN w g 0 [] post M) (hab:a≤b) (hb:b≤M.length) :
 aN w g a (nv (M.take a)) (nv (M.drop b)++post) ((M.drop a).take (b-a)):=by
 obtain⟨_,cur,h2,h3⟩:=h;refine⟨by rw[dA,List.length_take];omega,cur,h2,?_⟩;rw[h3,List.nil_append,← List.append_assoc,fP,fP];congr 2
 have e:(M.drop a).take (b-a)++M.drop b=M.drop a:=by
  have:=List.take_append_drop (b-a) (M.drop a);rwa [List.drop_drop,show a+(b-a)=b by omega] at this
 rw[List.append_assoc,e,List.take_append_drop]
theorem aN.join {w:World} {g a:Nat} {post:List Value} {L M N:List Int} (h:aN w g a (nv L) (nv N++post) M):aN w g 0 [] post (L++M++N):=by
 obtain⟨_,cur,h2,h3⟩:=h;refine⟨rfl,cur,h2,?_⟩;rw[h3,List.nil_append,← List.append_assoc,fP,fP]
theorem aJ.row {w:World} {base:Nat} {v:Value} {l:List Int} (h:aJ w base v l):(v=.slice none 0 0∧l=[]) ∨
 ∃ g cap post,v=.slice (some ⟨g,0,none⟩) l.length cap∧base≤g∧l.length≤cap∧cap≤maxLen∧l.length+post.length=cap∧aN w g 0 [] post l:=by
 rcases h.2 with ⟨rfl,hn⟩ | ⟨g,cap,cur,rfl,hg,hgg,h1,h2,h3,h4⟩
 · exact .inl ⟨rfl,List.eq_nil_of_length_eq_zero hn⟩
 · refine .inr ⟨g,cap,cur.toList.drop l.length,rfl,hg,h1,h2,?_,rfl,cur,hgg,?_⟩
   · have e:cur.toList.length=cur.size:=Array.length_toList;rw[List.length_drop];omega
   · have:=List.take_append_drop l.length cur.toList;rw[Nat.mul_one] at h4;rw[h4] at this;exact this.symm
theorem aN.own {w:World} {base g cap:Nat} {post:List Value} {l:List Int} (h:aN w g 0 [] post l) (hg:base≤g) (h1:l.length≤cap) (h2:cap≤maxLen) (h3:l.length+post.length=cap) :
 aJ w base (.slice (some ⟨g,0,none⟩) l.length cap) l:=by
 obtain⟨_,cur,h4,h5⟩:=h;rw[List.nil_append] at h5;refine⟨by rw[dA,Nat.mul_one],.inr ⟨g,cap,cur,rfl,hg,h4,h1,h2,?_,?_⟩⟩
 · rw[← Array.length_toList,h5,List.length_append,dA];omega
 · rw[h5,Nat.mul_one,List.take_append_of_le_length (by rw[dA];omega),List.take_of_length_le (by rw[dA];omega)]
namespace So
def jD (c:Int→Int) (l:List Int):Nat→Nat→Nat
 | 0,i=>i
 | f+1,i=>if i<l.length∧c (l.getD i 0)≠0 then jD c l f (i+1) else i
def runs (c:Int→Int):Nat→Nat→List Int→List Int
 | 0,_,l=>l
 | f+1,i,l=>if i<l.length then runs c f (jD c l l.length i+1) (l.take i++stable c ((l.drop i).take (jD c l l.length i-i))++l.drop (jD c l l.length i)) else l
theorem aIv (c:Int→Int) (l:List Int) (f i:Nat) (h:i≤l.length):i≤jD c l f i∧jD c l f i≤l.length:=by
 induction f generalizing i with
 | zero=>exact⟨Nat.le_refl _,h⟩
 | succ f ih =>
  unfold jD;split
  · rename_i h2
    have:=ih (i+1) (by omega);omega
  · omega
theorem aWz {c:Int→Int} {l:List Int} {f i:Nat} (h:i<l.length) (hc:c l[i]≠0):jD c l (f+1) i=jD c l f (i+1):=by rw[jD,if_pos ⟨h,by rw[getD_at h];exact hc⟩]
theorem aMo {c:Int→Int} {l:List Int} {f i:Nat} (h:i<l.length) (hc:¬ c l[i]≠0):jD c l f i=i:=by
 cases f with
 | zero=>rfl
 | succ f=>rw[jD,if_neg (fun e=>hc (by have:=e.2;rwa [getD_at h] at this))]
theorem aSe {c:Int→Int} {l:List Int} {f i:Nat} (h:¬ i<l.length):jD c l f i=i:=by
 cases f with
 | zero=>rfl
 | succ f=>rw[jD,if_neg (fun e=>h e.1)]
theorem bBw {c:Int→Int} {l:List Int} {f i t:Nat} (h:i<l.length) (ht:jD c l l.length i=t):runs c (f+1) i l=runs c f (t+1) (l.take i++stable c ((l.drop i).take (t-i))++l.drop t):=by rw[runs,if_pos h,ht]
theorem aXa {c:Int→Int} {l:List Int} {f i:Nat} (h:¬ i<l.length):runs c f i l=l:=by
 cases f with
 | zero=>rfl
 | succ f=>rw[runs,if_neg h]
theorem aM.app {l m:List Int} (h:aM l) (k:aM m):aM (l++m):=fun x hx=>by
 rcases List.mem_append.1 hx with h1 | h1
 · exact h x h1
 · exact k x h1
theorem aM.tk {l:List Int} (h:aM l) (n:Nat):aM (l.take n):=fun x hx=>h x (List.mem_of_mem_take hx)
theorem aM.dp {l:List Int} (h:aM l) (n:Nat):aM (l.drop n):=fun x hx=>h x (List.mem_of_mem_drop hx)
theorem xW {c:Int→Int} {l:List Int} {i t:Nat} (hit:i≤t) (ht:t≤l.length) (hf:aM l) :
 (l.take i++stable c ((l.drop i).take (t-i))++l.drop t).length=l.length∧aM (l.take i++stable c ((l.drop i).take (t-i))++l.drop t):=by
 refine⟨?_,((hf.tk _).app (((hf.dp _).tk _).stable _)).app (hf.dp _)⟩;rw[List.length_append,List.length_append,aDu,List.length_take,List.length_take,List.length_drop,List.length_drop];omega
theorem bBx (c:Int→Int) (f i:Nat) (l:List Int) (hf:aM l):(runs c f i l).length=l.length∧aM (runs c f i l):=by
 induction f generalizing i l with
 | zero=>exact⟨rfl,hf⟩
 | succ f ih =>
  unfold runs;split
  · rename_i h
    have h1:=aIv c l l.length i (by omega);have h2:=xW (c:=c) h1.1 h1.2 hf;have h3:=ih (jD c l l.length i+1) _ h2.2;exact⟨h3.1.trans h2.1,h3.2⟩
  · exact⟨rfl,hf⟩
end So
namespace D
def dM (D:Dm) (l:List Int):List Int:=So.runs (aG D) (l.flatMap (fH D)).length 0 (l.flatMap (fH D))
theorem aGm (D:Dm) (wf:Wf D) (l:List Int):(l.flatMap (fH D)).length≤l.length*54:=aBf l _ 54 fun q _=>aBg wf q
theorem aIw {D:Dm} (wf:Wf D) (f:Nat) (x:Int) (hx:aF x):So.aM (bO D f x):=by
 induction f generalizing x with
 | zero=>intro y hy;simp only [bO,List.mem_singleton] at hy;exact hy▸hx
 | succ f ih =>
  unfold bO;cases hs:dU x with
  | true =>
   simp only [if_true];intro y hy;obtain⟨q,hq,h2⟩:=List.mem_flatMap.1 hy;have h3:=aGn hs hq;exact ih q (by unfold aF;omega) y h2
  | false =>
   simp only [Bool.false_eq_true,if_false];by_cases hp:partsOf D x=[]
   · simp only [hp,List.isEmpty_nil,if_true];intro y hy;simp only [List.mem_singleton] at hy;exact hy▸hx
   · rw[if_neg (by simpa using hp)];obtain⟨c,hc⟩:=oK hp;intro y hy;obtain⟨q,hq,h2⟩:=List.mem_flatMap.1 hy;have h3:=(wf.plain x c _ hc).2 q hq;exact ih q (by unfold aF;omega) y h2
theorem aEp {D:Dm} (wf:Wf D) {l:List Int} (hl:So.aM l):So.aM (l.flatMap (fH D)):=fun y hy=>by
 obtain⟨q,hq,h2⟩:=List.mem_flatMap.1 hy;exact aIw wf 5000 q (hl q hq) y h2
theorem rF {D:Dm} (wf:Wf D) {l:List Int} (hl:So.aM l):(dM D l).length≤l.length*54∧So.aM (dM D l):=by
 have h1:=aGm D wf l;have h2:=So.bBx (aG D) (l.flatMap (fH D)).length 0 _ (aEp wf hl);exact⟨by unfold dM;rw[h2.1];exact h1,h2.2⟩
end D
end
namespace Ma
open Ta (Tm El dD iB)
open So (aM)
def jK (c:Int→Int) (T:Tm):List Int→List Int→List Int→Int→List Int×List Int
 | [],row,stay,_=>(row,stay)
 | p::r,row,stay,hi=>if c p=0 then (row,stay++p::r) else if hi<c p∧(dD T (row++[p])).isSome=true then jK c T r (row++[p]) stay hi else jK c T r row (stay++[p]) (max hi (c p))
theorem aXb (c:Int→Int) (T:Tm) (row stay:List Int) (hi:Int):jK c T [] row stay hi=(row,stay):=rfl
theorem xX {c:Int→Int} {T:Tm} {p:Int} {r row stay:List Int} {hi:Int} (h:c p=0):jK c T (p::r) row stay hi=(row,stay++p::r):=by rw[jK,if_pos h]
theorem xY {c:Int→Int} {T:Tm} {p:Int} {r row stay:List Int} {hi:Int} (h:¬ c p=0) (h1:hi<c p) (h2:(dD T (row++[p])).isSome=true):jK c T (p::r) row stay hi=jK c T r (row++[p]) stay hi:=by rw[jK,if_neg h,if_pos ⟨h1,h2⟩]
theorem sW {c:Int→Int} {T:Tm} {p:Int} {r row stay:List Int} {hi:Int} (h:¬ c p=0) (h1:¬ (hi<c p∧(dD T (row++[p])).isSome=true)):jK c T (p::r) row stay hi=jK c T r row (stay++[p]) (max hi (c p)):=by rw[jK,if_neg h,if_neg h1]
theorem zP {T:Tm} {l:List Int} (h:(dD T l).isSome=true):l.length≤8:=by
 unfold dD at h;split at h
 · assumption
 · cases h
theorem aQk {c:Int→Int} {T:Tm} (l row stay:List Int) (hi:Int) (hl:aM l) (hr:aM row) (hs:aM stay) :
 aM (jK c T l row stay hi).1∧aM (jK c T l row stay hi).2∧(jK c T l row stay hi).2.length≤stay.length+l.length∧((jK c T l row stay hi).1=row∨(jK c T l row stay hi).1.length≤8):=by
 induction l generalizing row stay hi with
 | nil=>exact⟨hr,hs,by simp[jK],.inl rfl⟩
 | cons p r ih =>
  have hp:D.aF p:=hl p (List.mem_cons_self ..);have h1:aM [p]:=fun x hx=>by rw[List.mem_singleton.1 hx];exact hp
  have hr2:aM r:=fun x hx=>hl x (List.mem_cons_of_mem _ hx)
  by_cases h:c p=0
  · rw[xX h];exact⟨hr,hs.app hl,by simp,.inl rfl⟩
  by_cases h2:hi<c p∧(dD T (row++[p])).isSome=true
  · rw[xY h h2.1 h2.2];obtain⟨a,b,d,e⟩:=ih (row++[p]) stay hi hr2 (hr.app h1) hs;refine⟨a,b,by simp only [List.length_cons];omega,.inr ?_⟩;rcases e with e | e
    · rw[e];exact zP h2.2
    · exact e
  · rw[sW h h2];obtain⟨a,b,d,e⟩:=ih row (stay++[p]) (max hi (c p)) hr2 hr (hs.app h1);exact⟨a,b,by simp only [List.length_cons,List.length_append,List.length_nil] at d ⊢;omega,e⟩
def kS (T:Tm) (l:List Int):Nat→Nat
 | 0=>0
 | n+1=>if (dD T (l.take (n+1))).isSome then n+1 else kS T l n
theorem aXc {T:Tm} {l:List Int} {n:Nat} (h:(dD T (l.take (n+1))).isSome=true):kS T l (n+1)=n+1:=by rw[kS,if_pos h]
theorem bBy {T:Tm} {l:List Int} {n:Nat} (h:(dD T (l.take (n+1))).isSome=false):kS T l (n+1)=kS T l n:=by rw[kS,h];rfl
theorem bBz (T:Tm) (l:List Int) (n:Nat):kS T l n≤n:=by
 induction n with
 | zero=>exact Nat.le_refl _
 | succ n ih =>
  unfold kS;split
  · exact Nat.le_refl _
  · omega
def gT (T:Tm) (l:List Int):Nat:=min (T.long (l.getD 0 0)).toNat l.length
def eB (c:Int→Int) (T:Tm):Nat→List Int→List (List Int)
 | 0,_=>[]
 | f+1,l=>if l.length=0 then [] else if kS T l (gT T l)=0 then [l.getD 0 0]::eB c T f (l.drop 1)
  else (jK c T (l.drop (kS T l (gT T l))) (l.take (kS T l (gT T l))) [] 0).1::eB c T f (jK c T (l.drop (kS T l (gT T l))) (l.take (kS T l (gT T l))) [] 0).2
theorem aBh {c:Int→Int} {T:Tm} {f:Nat} {l:List Int} (h:l.length=0):eB c T f l=[]:=by
 cases f with
 | zero=>rfl
 | succ f=>rw[eB,if_pos h]
theorem uW {c:Int→Int} {T:Tm} {f:Nat} {l:List Int} (h:l.length≠0) (h2:kS T l (gT T l)=0):eB c T (f+1) l=[l.getD 0 0]::eB c T f (l.drop 1):=by rw[eB,if_neg h,if_pos h2]
theorem aBi {c:Int→Int} {T:Tm} {f n:Nat} {l row left:List Int} (h:l.length≠0) (hn:kS T l (gT T l)=n) (h2:n≠0) (hf:jK c T (l.drop n) (l.take n) [] 0=(row,left)):eB c T (f+1) l=row::eB c T f left:=by
 rw[eB,if_neg h,hn,if_neg h2,hf]
theorem uX (c:Int→Int) (T:Tm) (f:Nat) (l:List Int):(eB c T f l).length≤f:=by
 induction f generalizing l with
 | zero=>exact Nat.le_refl _
 | succ f ih =>
  unfold eB;split
  · simp
  · split
    · have:=ih (l.drop 1);simp only [List.length_cons];omega
    · simp only [List.length_cons];have:=ih (jK c T (l.drop (kS T l (gT T l))) (l.take (kS T l (gT T l))) [] 0).2;omega
def mH (c:Int→Int) (T:Tm) (l:List Int):List El:=(eB c T l.length l).flatMap fun row=>(dD T row).getD (iB (row.getD 0 0))
open Ta (Tm El dD iB TabAt oJ wG)
open D (Dm Wf bF aG oL mD aF)
def Beside (w:World) (bad:Nat→Prop) (sv:Value) (rv:Value) (R:List Int):Prop:=aH w (fun k=>bad k∨sv.ownBlock=some k) rv R
theorem Beside.below {w w':World} {bad:Nat→Prop} {sv rv:Value} {R:List Int} (h:Beside w bad sv rv R) (hb:Below w.heap.size w w'):Beside w' bad sv rv R:=aH.below h hb fun _ _ e=>e
theorem Beside.stay {w w':World} {o:Obj} {bad:Nat→Prop} {sv sv' rv:Value} {R:List Int} (h:Beside w bad sv rv R) (ha:sv'.ownBlock=sv.ownBlock∨sv'.ownBlock=some (w.alloc o).heap.size) (hg:(w.alloc o).grownBy w' sv.ownBlock):Beside w' bad sv' rv R:=by
 have h1:aH (w.alloc o) (fun k=>bad k∨sv.ownBlock=some k) rv R:=aH.below h (zr.alloc lr _) fun _ _ e=>e
 refine h1.keep hg.size (fun k hk hn=>hg.block k hk fun e=>hn (.inr e.symm)) fun k hk e=>?_
 rcases e with e | e
 · exact .inl e
 · rcases ha with h2 | h2
   · exact .inr (h2.symm.trans e)
   · rw[h2] at e;have:=Option.some.inj e;omega
theorem Below.aXd {W w w':World} {o:Obj} {base:Nat} {e:TypeId} {size n:Nat} {v:Value} {xs:List Value} (h:Below base W w) (hO:w.ownsRow base e size v n xs) (hz:base≤w.heap.size) (hg:(w.alloc o).grownBy w' v.ownBlock):Below base W w' :=
 (h.alloc hz o).grown hg (by simp;omega) fun k hk=>(World.ownsRow.lt hO k hk).1
theorem aQl {w:World} {base:Nat} {v:Value} {l:List Int} (h:aJ w base v l):∀ k,v.ownBlock=some k→base≤k∧k<w.heap.size:=World.ownsRow.lt h
theorem aGo {w:World} {base:Nat} {v:Value} {S m:List Int} {n:Nat} (hn:m.length=n) (h:w.ownsRow base 3 1 v (S.length+n) (nv S++nv m)):aJ w base v (S++m):=by
 unfold aJ;rw[← fP,List.length_append,hn];exact h
def aQm (bad:Nat→Prop) (r:List Int×List Int) (w:World) (e:Ending) (w':World):Prop:=∃ u1 u2,e=.returned (.tuple #[u1,u2])∧aH w' bad u1 r.1∧aH w' bad u2 r.2∧Below w.heap.size w w'
theorem zQ {D:Dm} (wf:Wf D) (T:Tm) (h0:T.ent []=none) (v t rv0 s:Value) (bad:Nat→Prop) (row L:List Int) (w:World) (hd:bF w 0 w.heap.size v D) (ht:TabAt w 0 w.heap.size t T) (hr:aH w bad rv0 row) (hs:aH w bad s L)
 (hbad:∀ k,bad k→k<w.heap.size) (hrf:aM row) (hlf:aM L) (hrl:row.length≤4194304) (hll:L.length≤4194304) :
 Calls prog 239 #[v,t,rv0,s] w (aQm bad (jK (aG D) T L row [] 0) w):=by
 obtain⟨pd,hpd⟩:∃ pd,v=.pointer (some pd):=by obtain⟨pd,_,_,_,h,_⟩:=hd;exact⟨_,h⟩
 subst hpd;obtain⟨pt,hpt⟩:∃ pt,t=.pointer (some pt):=by obtain⟨pt,_,_,_,_,_,_,h,_⟩:=ht;exact⟨_,h⟩
 subst hpt;obtain⟨a,cap,hsv,hcap,han,hcell⟩:=hs.form;subst hsv;have HS:=zh hs;have HD:=zh hd;have HT:=zh ht;have HW:=zh wf;have H0:=zh h0;have HBD:=zh hbad;have HLF:=zh hlf;have HRF:=zh hrf;obtain⟨Z,hZ⟩:∃ Z,jK (aG D) T L row [] 0=Z:=⟨_,rfl⟩
 have HZ:=zh hZ;rw[hZ];have HR0:=zh (show Beside w bad (.slice none 0 0) rv0 row from hr.mono fun k _ e=>by rcases e with e | e;exact e;cases e);have HCL:=zh hcell;have HP:=zh (show ∀ e w',(∃ u1 u2,e=.returned (.tuple #[u1,u2])∧aH w' bad u1 Z.1∧aH w' bad u2 Z.2∧Below w.heap.size w w')→aQm bad Z w e w' from fun _ _ h=>h);clear hd ht wf h0 hbad hlf hrf hZ hs hr hcell han;go_enter func239,ntmps239;go_wp2_with fail;go_loopw [2,10,11,20] (fun rv sv hv iv wr=>∃ (j:Nat) (R S:List Int) (hi:Int),j≤L.length∧iv=.int .i64 (j:Int)∧hv=.int .i64 hi∧Beside wr bad sv rv R∧aJ wr w.heap.size sv S∧Below w.heap.size w wr∧S.length≤j∧R.length≤4194304∧(0≤hi∧hi≤254)∧RowKit.Hid (aM R)∧RowKit.Hid (jK (aG D) T (L.drop j) R S hi=Z)) (fun _ _ _ iv _=>L.length-(intOf iv).toNat)
 case atStart=>exact⟨0,row,[],0,Nat.zero_le _,rfl,rfl,HR0.out,aJ.nil _ _,zr,Nat.zero_le _,hrl,by omega,HRF,HZ⟩
 case round =>
  obtain⟨j,R,S,hi,hj,rfl,rfl,xK,hO,hB,hSl,hRl,hhi,HRf,HO⟩:=hrel;obtain⟨a10,bEr,rfl⟩:=aP hO;have hsz:=hB.size;have HRP:=zh xK;have uY:=zh hO;have vY:=zh hB;by_cases hlt:j<L.length
  · have q1:decide ((j:Int)<(L.length:Int))=true:=by simp;omega
    obtain⟨g,off,rfl,hg,hgb,hc⟩:=HCL.out j hlt;have hc':=(hB.cell (p:=⟨g,off+j,none⟩) hg).trans hc;obtain⟨p,hp⟩:∃ p,L[j]=p:=⟨_,rfl⟩
    have hpi:aF p:=by rw[← hp];exact HLF.out _ (List.getElem_mem hlt)
    rw[hp] at hc' hc;have HPI:=zh hpi;have HDR:=zh (show L.drop j=p::L.drop (j+1) by rw[← hp];exact List.drop_eq_getElem_cons hlt);have hcl:=oL HW.out p;clear hp hpi hc xK hO;go_wp2_with fail;refine(mD _ D p HPI.out wr wr.heap.size ((HD.out.later hB lr).wide lr hsz)).mono ?_;rintro e wr ⟨rfl,rfl⟩;clear hB;by_cases hc0:aG D p=0
    · have q2:(aG D p==0)=true:=by simpa using hc0
      rw[HDR.out,xX hc0] at HO;have vZ:=zh (show R=Z.1∧S++L.drop j=Z.2 by rw[← HO.out,HDR.out];exact⟨rfl,rfl⟩);have hsd:=(HS.out.drop j hj)
      have hsd2:=aV.ints ((hsd.reads).later vY.out) (List.length_drop ..);have jL:(j:Int)≤(L.length:Int):=by omega
      have jc:j<cap:=by omega
      clear hc0 hsd HO;go_wp2_with (at_builtin;refine aO rfl (.tmp 31) (.tmp 34) 42 rfl 3 (.int .i64 0) 1 8 underlying42 lK rfl (by decide) rfl uY.out rfl hsd2 (rG _) (by omega) (by decide) hsz ?_;intro c9 nE w9 qY nD jM);have uJ:=vY.out.grown nD hsz fun k hk=>(aQl uY.out k hk).1
      have hR9:=HRP.out.grown nD (fun k hk=>.inr hk) (bad':=bad) (fun k _ e=>.inl e);have aSf:=aGo (List.length_drop ..) qY;rw[vZ.out.1] at hR9;rw[vZ.out.2] at aSf;exact bodyPost_ret (v:=.tuple #[u2,.slice c9 (S.length+(L.length-j)) nE]) (by simp[results,Tryz.f239]) rfl ⟨u2,_,rfl,hR9,aSf.place fun k _ hk _ e=>absurd (HBD.out k e) (by omega),uJ⟩
    · have q2:(aG D p==0)=false:=by simpa using hc0
      rw[HDR.out] at HO;by_cases hh:hi<aG D p
      · have q3:decide (hi<aG D p)=true:=by simpa using hh
        have HC0:=zh hc0;have HHH:=zh hh;clear hc0 hh;go_wp2_with fail;refine(mJ u2 R wr 0 wr.heap.size HRP.out.reads lr (by omega)).mono ?_;rintro e w2 ⟨u,rfl,hu,hb2⟩;have aXe:=(aJ.one w2 w2.heap.size p lr).reads;simp only [World.size_alloc] at aXe;have hz2:=hb2.size;have bJh:=hb2.alloc hz2 (.cells #[.int .i64 p] 3);have hsz2:wr.heap.size≤(w2.alloc (.cells #[.int .i64 p] 3)).heap.size:=by simp;omega
        go_wp2_with (at_builtin;refine bB rfl (.tmp 40) (.tmp 42) rfl rfl (hu.alloc _) rfl aXe (by simp;omega) bJh hsz2 ?_;intro c3 oM w3 hO3 hB3 aSg _);have zR:=zh hO3;have HB3:=zh hB3;have bJi:=zh (show aM (R++[p]) from HRf.out.app fun x hx=>by rw[List.mem_singleton.1 hx];exact HPI.out);clear hO3 hu hb2 bJh aXe hsz2;refine(oJ (.pointer (some pt)) _ T (R++[p]) w3 ((HT.out.later (vY.out.trans (hB3.mono hsz)) lr).wide lr (Nat.le_trans hsz aSg)) (zR.out.reads.wide (Nat.zero_le _) lr) bJi.out H0.out).mono ?_;rintro e w4 ⟨u',rfl,_,hb4⟩;have dJ:=zh (hB3.trans (hb4.mono aSg));have HO4:=zh (aJ.below zR.out hb4);have hz4:wr.heap.size≤w4.heap.size:=Nat.le_trans aSg hb4.size;clear hB3 hb4 zR HB3;cases hfm:(dD T (R++[p])).isSome with
        | true =>
         have HZ1:=zh (show jK (aG D) T (L.drop (j+1)) (R++[p]) S hi=Z by rw[← HO.out];exact(xY HC0.out HHH.out hfm).symm);have bVe:=zP hfm;have lJ:=zh (vY.out.trans (dJ.out.mono hsz));have HOs:=zh (aJ.below uY.out dJ.out);have HRn:=zh (show Beside w4 bad (.slice a10 S.length bEr) (.slice c3 (R.length+[p].length) oM) (R++[p]) from HO4.out.place fun k _ hk _ e=>by
          rcases e with e | e
          · have:=HBD.out k e;omega
          · have:=(aQl uY.out k e).2;omega)
         clear hfm;go_wp2_with fail;exact⟨⟨j+1,R++[p],S,hi,by omega,by simp,rfl,HRn.out,HOs.out,lJ.out,by omega,by omega,hhi,bJi,HZ1⟩,by simp[intOf];omega⟩
        | false =>
         have aXf:=zh (show jK (aG D) T (L.drop (j+1)) R (S++[p]) (max hi (aG D p))=Z by rw[← HO.out];exact(sW HC0.out (fun e=>by rw[hfm] at e;cases e.2)).symm);have HRs:=zh (HRP.out.below dJ.out);have HBs:=zh (vY.out.trans (dJ.out.mono hsz));have HOs:=zh (aJ.below uY.out dJ.out);clear hfm;have hone:=(aJ.one w4 w4.heap.size p lr).reads;simp only [World.size_alloc] at hone;have bFf:w.heap.size≤w4.heap.size:=HBs.out.size;go_wp2_with (at_builtin;refine aO rfl (.tmp 52) (.tmp 54) 42 rfl 3 (.int .i64 0) 1 8 underlying42 lK rfl (by decide) rfl (HOs.out.alloc (.cells #[.int .i64 p] 3)) rfl (aV.ints hone rfl) (rG _) (by simp;omega) (by decide) (by simp;omega) ?_;intro c9 nE w9 qY nD jM);have hR9:=HRs.out.stay jM nD;have uJ:=Below.aXd HBs.out HOs.out bFf nD;have aSf:=aGo rfl qY;clear qY jM nD hone;refine⟨⟨j+1,R,S++[p],max hi (aG D p),by omega,by simp,?_,hR9,by simpa using aSf,uJ,by simp;omega,by omega,by omega,HRf,aXf⟩,by simp[intOf];omega⟩;congr 1<;>first | omega | (split<;>omega)
      · have q3:decide (hi<aG D p)=false:=by simpa using hh
        have aXf:=zh (show jK (aG D) T (L.drop (j+1)) R (S++[p]) (max hi (aG D p))=Z by rw[← HO.out];exact(sW hc0 (fun e=>hh e.1)).symm);have HRs:=HRP;have HBs:=vY;have HOs:=uY;clear hc0 hh;have hone:=(aJ.one wr wr.heap.size p lr).reads;simp only [World.size_alloc] at hone;have bFf:w.heap.size≤wr.heap.size:=HBs.out.size;go_wp2_with (at_builtin;refine aO rfl (.tmp 52) (.tmp 54) 42 rfl 3 (.int .i64 0) 1 8 underlying42 lK rfl (by decide) rfl (HOs.out.alloc (.cells #[.int .i64 p] 3)) rfl (aV.ints hone rfl) (rG _) (by simp;omega) (by decide) (by simp;omega) ?_;intro c9 nE w9 qY nD jM);have hR9:=HRs.out.stay jM nD;have uJ:=Below.aXd HBs.out HOs.out bFf nD;have aSf:=aGo rfl qY;clear qY jM nD hone;refine⟨⟨j+1,R,S++[p],max hi (aG D p),by omega,by simp,?_,hR9,by simpa using aSf,uJ,by simp;omega,by omega,by omega,HRf,aXf⟩,by simp[intOf];omega⟩;congr 1<;>first | omega | (split<;>omega)
  · obtain rfl:j=L.length:=by omega
    have q1:decide ((L.length:Int)<(L.length:Int))=false:=by simp
    rw[List.drop_length,aXb] at HO;have hR9:=aH.mono HRP.out (bad':=bad) (fun k _ e=>.inl e);have h1:R=Z.1:=by rw[← HO.out]
    have h2:S=Z.2:=by rw[← HO.out]
    rw[h1] at hR9;have qY:=hO.place (bad:=bad) fun k _ hk _ e=>absurd (HBD.out k e) (by omega)
    rw[h2] at qY;have HE:=zh h2;clear h1 h2 hO xK;go_wp2_with fail;rw[HE.out];exact bodyPost_ret (v:=.tuple #[u2,.slice a10 Z.2.length bEr]) (by simp[results,Tryz.f239]) rfl ⟨u2,_,rfl,hR9,qY,hB⟩
end Ma
namespace D
open Go.Maps
open So (aM stable runs jD nK)
theorem aIx {D:Dm} (wf:Wf D) {v:Value} {w:World} {B g:Nat} (hc:w.cell? ⟨B,0,none⟩=some v) (hd:bF w 0 B v D) (hg:B<g):nK w g B (aG D):=fun x y w' hx hy ho =>
 bCa wf v x y hx hy B w' B (ho.cell (by omega) hc) (hd.later (ho.below (by omega)) lr)
theorem aIy {D:Dm} (wf:Wf D) (v s:Value) (l:List Int) (w:World) (hd:bF w 0 w.heap.size v D) (hs:IntsIn w 0 w.heap.size s l) (hf:aM l) (hlen:l.length≤65536) :
 Calls prog 237 #[v,s] w fun e w'=>∃ u,e=.returned u∧aJ w' w.heap.size u (dM D l)∧Below w.heap.size w w':=by
 obtain⟨pd,hpd⟩:∃ pd,v=.pointer (some pd):=by obtain⟨pd,_,_,_,h,_⟩:=hd;exact⟨_,h⟩
 subst hpd;obtain⟨a,cap,rfl,hcap,hcell⟩:=IntsIn.get hs;have HC:=zh hcell;have HF:=zh hf;have HW:=zh wf;obtain⟨B,hB⟩:∃ B,w.heap.size=B:=⟨_,rfl⟩
 have hb0:Below B w (w.alloc (.cells #[.pointer (some pd)] 100)):=(Below.refl B w).alloc (by omega) _;have hc0:(w.alloc (.cells #[.pointer (some pd)] 100)).cell? ⟨B,0,none⟩=some (.pointer (some pd)):=by rw[← hB];simp
 have hz0:(w.alloc (.cells #[.pointer (some pd)] 100)).heap.size=B+1:=by simp[hB]
 rw[hB] at hd;have HD:=zh (hd.later hb0 lr);have HB:=zh hB;have HC0:=zh (show ∀ j (h:j<l.length),∃ g off,a=some ⟨g,off,none⟩∧g<B∧(w.alloc (.cells #[.pointer (some pd)] 100)).cell? ⟨g,off+j,none⟩=some (.int .i64 l[j]) from fun j h=>by
  obtain⟨g,off,ha,_,hg,hc⟩:=HC.out j h;rw[hB] at hg;exact⟨g,off,ha,hg,(hb0.cell (p:=⟨g,off+j,none⟩) hg).trans hc⟩)
 have bFg:=zh hb0;have hc0':=zh hc0;have hz0':=zh hz0;clear hd hs hcell hf wf hb0 hc0 hz0 HC;go_enter func237,ntmps237;go_wp2_with fail;generalize w.alloc (.cells #[.pointer (some pd)] 100)=W0 at HD HC0 bFg hc0' hz0' ⊢;have HBe:=zh hB;clear hB;go_loopw [5,15] (fun o i wr=>∃ (j:Nat) (M:List Int),j≤l.length∧i=.int .i64 j∧aJ wr (B+1) o M∧Below (B+1) W0 wr∧RowKit.Hid (M=(l.take j).flatMap (fH D))) (fun _ i _=>l.length-(intOf i).toNat)
 case atStart=>exact⟨0,[],Nat.zero_le _,rfl,aJ.nil _ _,zr,zh rfl⟩
 case round =>
  obtain⟨j,M,hj,rfl,hO,hB,HM⟩:=hrel;obtain⟨a5,cap5,rfl⟩:=aP hO;have hcb:wr.cell? ⟨B,0,none⟩=some (.pointer (some pd)):=(hB.cell (p:=⟨B,0,none⟩) (Nat.lt_succ_self _)).trans hc0'.out;have hsz:B+1≤wr.heap.size:=by have:=hB.size;rw[hz0'.out] at this;exact this
  by_cases hlt:j<l.length
  · obtain⟨g,off,rfl,hg,hc⟩:=HC0.out j hlt;have hc':=(hB.cell (p:=⟨g,off+j,none⟩) (by show g<B+1;omega)).trans hc;obtain⟨N,hN⟩:∃ N,fH D l[j]=N:=⟨_,rfl⟩
    have HN:=zh hN;have bJj:M.length+N.length≤1099511627776:=by
     have h1:=aGm D HW.out (l.take j);have h2:=aBg HW.out l[j];have h3:(l.take j).length≤l.length:=by rw[List.length_take];omega
     rw[HM.out,← hN];omega
    clear hN hc;go_wp2_with fail;refine(aSh HW.out (.pointer (some pd)) l[j] wr (HF.out _ (List.getElem_mem hlt)) ((HD.out.later (hB.mono (Nat.le_succ _)) lr).wide lr (by omega))).mono ?_;rintro e w2 ⟨u,rfl,hu,hb2⟩;rw[HN.out] at hu;have hO2:=hO.below hb2;have hB2:=hB.trans (hb2.mono hsz);have hur:=hu.reads;have hsz2:B+1≤w2.heap.size:=Nat.le_trans hsz hb2.size;go_wp2_with (at_builtin;refine bB rfl (.tmp 19) (.tmp 22) rfl rfl hO2 rfl hur bJj hB2 hsz2 ?_;intro c3 oM w3 hO3 hB3 _ _);refine⟨⟨j+1,M++N,by omega,by simp,?_,hB3,zh (by rw[aEq l _ j hlt,HM.out,HN.out])⟩,by simp[intOf];omega⟩;simpa using hO3
  · obtain rfl:j=l.length:=by omega
    have hM:=HM.out;rw[List.take_length] at hM;obtain⟨n,hn⟩:∃ n,M.length=n:=⟨_,rfl⟩
    have hn2:n≤4194304:=by
     have h1:=aGm D HW.out l;rw[← hn,hM];omega
    have HMf:=zh (show aM M by rw[hM];exact aEp HW.out HF.out);have HZ:=zh (show runs (aG D) M.length 0 M=dM D l by rw[hM];rfl);rw[hn] at HZ;rcases hO.row with ⟨he,hnil⟩ | ⟨g,cap6,post,he,hg,h1,h2,h3,hrow⟩
    · subst hnil;simp only [List.length_nil,Value.slice.injEq,true_and] at he;obtain⟨rfl,rfl⟩:=he;have HZ2:=zh (show ([]:List Int)=dM D l by rw[← HZ.out,← hn];rfl);have hfin:=bFg.out.trans (hB.mono (Nat.le_succ _));clear hM hn;simp only [List.length_nil];rename World=>W1
      go_wp2_with fail;go_loopw [9,10] (fun vf _ w2=>vf=.int .i64 0∧w2=W1) (fun _ _ _=>0)
      case atStart=>exact⟨rfl,rfl⟩
      case round =>
       obtain⟨rfl,rfl⟩:=hrel;go_wp2_with fail;go_ret;rw[HBe.out];exact⟨_,rfl,by rw[← HZ2.out];exact aJ.nil _ _,hfin⟩
    · cases he;have hcap:n≤cap5:=by omega
      have HE:=zh (show cap5≤maxLen∧n+post.length=cap5 by rw[← hn];exact⟨h2,h3⟩);have HNn:=zh hn;rw[hn];have HB1:=zh hB;clear hM hn hO h1 h2 h3 hB HM;rename World=>W1
      go_wp2_with fail;go_loopw [9,10] (fun vf _ w2=>∃ (i f:Nat) (L:List Int),vf=.int .i64 (i:Int)∧i≤n+1∧n≤i+f∧aN w2 g 0 [] post L∧fM g W1 w2∧RowKit.Hid (L.length=n∧aM L)∧RowKit.Hid (runs (aG D) f i L=dM D l)) (fun vf _ _=>n+1-(intOf vf).toNat)
      case atStart=>exact⟨0,n,M,rfl,by omega,by omega,hrow,fM.refl _ _,zh ⟨HNn.out,HMf.out⟩,HZ⟩
      case round =>
       clear hrow HMf HZ;obtain⟨i,f,L,rfl,hi,hf,hrow,ho,HL,HR⟩:=hrel;by_cases hlt2:i<n
       · have q1:decide ((i:Int)<(n:Int))=true:=by simp;omega
         obtain⟨f,rfl⟩:∃ k,f=k+1:=⟨f-1,by omega⟩
         obtain⟨t,ht⟩:∃ t,jD (aG D) L n i=t:=⟨_,rfl⟩
         have hti:=So.aIv (aG D) L n i (by rw[HL.out.1];omega);rw[ht,HL.out.1] at hti;rw[So.bBw (t:=t) (by rw[HL.out.1];exact hlt2) (by rw[HL.out.1,ht])] at HR;have HT:=zh ht;clear ht;go_wp2_with fail;go_loopw [10] (fun vt w3=>∃ (k fk:Nat),vt=.int .i64 (k:Int)∧i≤k∧k≤n∧n≤k+fk∧aN w3 g 0 [] post L∧fM g W1 w3∧RowKit.Hid (jD (aG D) L fk k=t)) (fun vt _=>n-(intOf vt).toNat)
         case atStart=>exact⟨i,n,rfl,Nat.le_refl _,by omega,by omega,hrow,ho,HT⟩
         case round =>
          clear hrow ho HT;obtain⟨k,fk,rfl,hik,hkn,hfk,hrow,ho,HT⟩:=hrel;have bJk:wr.cell? ⟨B,0,none⟩=some (.pointer (some pd)):=ho.cell (by omega) hcb;have HD3:=zh (show bF wr 0 B (.pointer (some pd)) D from HD.out.later ((HB1.out.mono (Nat.le_succ _)).trans (ho.below (by omega))) lr);by_cases hlt3:k<n
          · have q2:decide ((k:Int)<(n:Int))=true:=by simp;omega
            obtain⟨fk,rfl⟩:∃ z,fk=z+1:=⟨fk-1,by omega⟩
            obtain⟨x,hx⟩:∃ x,L[k]'(by rw[HL.out.1];omega)=x:=⟨_,rfl⟩
            have cx:=hrow.cell k (by rw[HL.out.1];omega);have fx:=HL.out.2.at (i:=k) (by rw[HL.out.1];omega);rw[hx] at cx fx;rw[Nat.zero_add] at cx;have jk:(k:Int)<(n:Int):=by omega
            by_cases hcl:aG D x=0
            · have q3:(aG D x != 0)=false:=by simpa using hcl
              have HS:=zh (show k=t by rw[← HT.out];exact(So.aMo (by rw[HL.out.1];exact hlt3) (by rw[hx];simpa using hcl)).symm);clear hx hcl;go_wp2_with fail;go_quiet (exact Calls.quiet_of_same (mD _ D _ (by assumption) _ B HD3.out));go_wp2_with fail;refine(So.rE (aG D) g i B (cap5-i) (k-i) _ _ ((L.drop i).take (k-i)) (wr.drewN nq) (by rw[List.length_take,List.length_drop,HL.out.1];omega) (aN.sub (w:=wr.drewN nq) hrow hik (by rw[HL.out.1];omega)) ((HL.out.2.dp _).tk _) (by omega) (aIx (w:=wr.drewN nq) HW.out bJk HD3.out (by omega))).mono ?_;rintro e w4 ⟨rfl,hr4,ho4⟩;have hj:=hr4.join;have hO4:=(ho.trans (fM.drew nq)).trans ho4;have HL4:=So.xW (c:=aG D) hik (by rw[HL.out.1];exact hkn) HL.out.2;rw[HL.out.1] at HL4;have HL5:=zh HL4;clear hrow ho ho4 hr4 HL4;rw[← HS.out] at HR;go_wp2_with fail;exact⟨⟨k+1,f,_,by simp,by omega,by omega,hj,hO4,HL5,HR⟩,by simp[intOf];omega⟩
            · have q3:(aG D x != 0)=true:=by simpa using hcl
              have HS:=zh (show jD (aG D) L fk (k+1)=t by rw[← HT.out];exact(So.aWz (by rw[HL.out.1];exact hlt3) (by rw[hx];exact hcl)).symm);clear hx hcl;go_wp2_with fail;go_quiet (exact Calls.quiet_of_same (mD _ D _ (by assumption) _ B HD3.out));go_wp2_with fail;exact⟨⟨k+1,fk,by simp,by omega,by omega,by omega,hrow,ho.trans (fM.drew nq),HS⟩,by simp[intOf];omega⟩
          · have q2:decide ((k:Int)<(n:Int))=false:=by simp;omega
            have HS:=zh (show k=t by rw[← HT.out];exact(So.aSe (by rw[HL.out.1];exact hlt3)).symm);go_wp2_with fail;go_quiet (fail);go_wp2_with fail;refine(So.rE (aG D) g i B (cap5-i) (k-i) _ _ ((L.drop i).take (k-i)) (wr.drewN nq) (by rw[List.length_take,List.length_drop,HL.out.1];omega) (aN.sub (w:=wr.drewN nq) hrow hik (by rw[HL.out.1];omega)) ((HL.out.2.dp _).tk _) (by omega) (aIx (w:=wr.drewN nq) HW.out bJk HD3.out (by omega))).mono ?_;rintro e w4 ⟨rfl,hr4,ho4⟩;have hj:=hr4.join;have hO4:=(ho.trans (fM.drew nq)).trans ho4;have HL4:=So.xW (c:=aG D) hik (by rw[HL.out.1];exact hkn) HL.out.2;rw[HL.out.1] at HL4;have HL5:=zh HL4;clear hrow ho ho4 hr4 HL4;rw[← HS.out] at HR;go_wp2_with fail;exact⟨⟨k+1,f,_,by simp,by omega,by omega,hj,hO4,HL5,HR⟩,by simp[intOf];omega⟩
       · have q1:decide ((i:Int)<(n:Int))=false:=by simp;omega
         have hz:L=dM D l:=by rw[← HR.out];exact(So.aXa (by rw[HL.out.1];exact hlt2)).symm
         rw[hz] at hrow HL;have hown:=aN.own (base:=B) (cap:=cap5) hrow (by omega) (by rw[HL.out.1];exact hcap) HE.out.1 (by rw[HL.out.1];exact HE.out.2);rw[HL.out.1] at hown;have hfin:=(bFg.out.trans (HB1.out.mono (Nat.le_succ _))).trans (ho.below (by omega));clear hz;go_wp2_with fail;go_ret;rw[HBe.out];exact⟨_,rfl,hown,hfin⟩
end D
namespace So
def aAo:Nat→Nat→Nat→List Int→List Int
 | 0,_,_,l=>l
 | f+1,i,j,l=>if i<j then aAo f (i+1) (j-1) (swp l i j) else l
def rH (l:List Int):List Int:=aAo l.length 0 (l.length-1) l
theorem aIz {f i j:Nat} {l:List Int} (h:¬ i<j):aAo f i j l=l:=by
 cases f with
 | zero=>rfl
 | succ f=>rw[aAo,if_neg h]
theorem aQn {f i j:Nat} {l:List Int} (h:i<j):aAo (f+1) i j l=aAo f (i+1) (j-1) (swp l i j):=by rw[aAo,if_pos h]
theorem aJa (f i j:Nat) (l:List Int):(aAo f i j l).length=l.length:=by
 induction f generalizing i j l with
 | zero=>rfl
 | succ f ih =>
  unfold aAo;split
  · rw[ih,eD]
  · rfl
theorem rJ (l:List Int):(rH l).length=l.length:=aJa ..
theorem bCb {l:List Int} {C:Int→Prop} (h:∀ x∈l,C x) {i j:Nat} (hi:i<l.length) (hj:j<l.length):∀ x∈swp l i j,C x:=fun x hx=>h x (aQo hi hj hx)
theorem aXg {C:Int→Prop} (f i j:Nat) (l:List Int) (h:∀ x∈l,C x) (hj:j<l.length):∀ x∈aAo f i j l,C x:=by
 induction f generalizing i j l with
 | zero=>exact h
 | succ f ih =>
  by_cases hlt:i<j
  · rw[aQn hlt];exact ih (i+1) (j-1) (swp l i j) (bCb h (by omega) hj) (by rw[eD];omega)
  · rw[aIz hlt];exact h
theorem aXh {C:Int→Prop} {l:List Int} (h:∀ x∈l,C x):∀ x∈rH l,C x:=by
 by_cases h0:l.length=0
 · unfold rH;rw[h0];exact h
 · exact aXg _ _ _ l h (by omega)
theorem aJb (g off cap n:Nat) (pre post:List Value) (l:List Int) (w:World) (hn:l.length=n) (hn0:1≤n) (hr:aN w g off pre post l) (hlen:n≤67108864) :
 Calls prog 203 #[.slice (some ⟨g,off,none⟩) n cap] w fun e w'=>e=.returned (.tuple #[])∧aN w' g off pre post (rH l)∧fM g w w':=by
 obtain⟨m,rfl⟩:∃ m,n=m+1:=⟨n-1,by omega⟩
 have HZ:=zh (show aAo (m+1) 0 m l=rH l by unfold rH;rw[hn];rfl);have HN0:=zh hn;clear hn;go_enter func203,ntmps203;go_wp2_with fail;go_loopw [2,3] (fun vi vj wr=>∃ (i j f:Nat) (L:List Int),vi=.int .i64 (i:Int)∧vj=.int .i64 (j:Int)∧i+j=m∧j≤f+i∧L.length=m+1∧aN wr g off pre post L∧fM g w wr∧RowKit.Hid (aAo f i j L=rH l)) (fun vi _ _=>m+1-(intOf vi).toNat)
 case atStart=>exact⟨0,m,m+1,l,rfl,by simp,by omega,by omega,HN0.out,hr,fM.refl _ _,HZ⟩
 case round =>
  obtain⟨i,j,f,L,rfl,rfl,hij,hf,hL,hrow,ho,HO⟩:=hrel;by_cases hlt:i<j
  · have q1:decide ((i:Int)<(j:Int))=true:=decide_eq_true (by omega);obtain⟨f,rfl⟩:∃ k,f=k+1:=⟨f-1,by omega⟩
    obtain⟨jp,hjp⟩:∃ jp,j-1=jp:=⟨_,rfl⟩
    obtain⟨u,hu⟩:∃ u,L[i]'(by omega)=u:=⟨_,rfl⟩
    obtain⟨v,hv⟩:∃ v,L[j]'(by omega)=v:=⟨_,rfl⟩
    have cu:=hrow.cell i (by omega);have cv:=hrow.cell j (by omega);have zu:=hrow.frozen i;have zv:=hrow.frozen j;rw[hu] at cu;rw[hv] at cv;have n1:i≠j:=by omega
    have n2:j≠i:=by omega
    have ji:(i:Int)<(m:Int)+1:=by omega
    have jj:(j:Int)<(m:Int)+1:=by omega
    rw[aQn hlt,hjp] at HO;have HM:=zh (show aN ((wr.setCell ⟨g,off+i,none⟩ (.int .i64 v)).setCell ⟨g,off+j,none⟩ (.int .i64 u)) g off pre post (swp L i j) by rw[← hu,← hv];exact aN.swp hrow (by omega) (by omega));have HL:=zh (show (swp L i j).length=m+1 by rw[eD];exact hL);have zR:=zh ho;have HX:=zh (show (i+1)+jp=m∧jp≤f+(i+1)∧(j:Int)-1=(jp:Int) by omega);clear hu hv ho hrow hr hL hjp hij;go_wp2_with fail;have mixed:prog.follows Departure.mixedOrders=true:=by kernel_rfl
    go_big_region_o
    all_goals go_wp2
    have hx:=HX.out;refine⟨⟨i+1,jp,f,swp L i j,by simp,?_,hx.1,hx.2.1,HL.out,HM.out,(zR.out.trans ((fM.set _ _).trans (fM.set _ _))).trans ⟨rfl,rfl,rfl,rfl,fun _ _=>rfl⟩,HO⟩,by simp[intOf];omega⟩;simp[hx.2.2]
  · have q1:decide ((i:Int)<(j:Int))=false:=decide_eq_false (by omega);rw[aIz hlt] at HO;have hz:L=rH l:=HO.out;go_wp2_with fail;go_end0
    rw[hz] at hrow;exact⟨rfl,hrow,ho⟩
theorem reverse_nil (a:Option Addr) (cap:Nat) (w:World):Calls prog 203 #[.slice a 0 cap] w fun e w'=>e=.returned (.tuple #[])∧w'=w:=by
 go_enter func203,ntmps203;go_wp2_with fail;go_loopw [2,3] (fun vi vj wr=>vi=.int .i64 0∧vj=.int .i64 (-1)∧wr=w) (fun _ _ _=>0)
 case atStart=>exact⟨rfl,by simp,rfl⟩
 case round =>
  obtain⟨rfl,rfl,rfl⟩:=hrel;go_wp2_with fail;go_end0
  exact⟨rfl,rfl⟩
end So
section
theorem aJc (v:Value) (l:List Int) (w:World) (base:Nat) (h:aJ w base v l) (hlen:l.length≤67108864) :
 Calls prog 203 #[v] w fun e w'=>e=.returned (.tuple #[])∧aJ w' base v (So.rH l)∧(w'=w∨∃ g,v.ownBlock=some g∧fM g w w'):=by
 rcases h.row with ⟨rfl,rfl⟩ | ⟨g,cap,post,rfl,hg,h1,h2,h3,hrow⟩
 · refine(So.reverse_nil none 0 w).mono ?_;rintro e w' ⟨rfl,rfl⟩;exact⟨rfl,aJ.nil _ _,.inl rfl⟩
 · by_cases h0:l.length=0
   · obtain rfl:=List.eq_nil_of_length_eq_zero h0;refine(So.reverse_nil (some ⟨g,0,none⟩) cap w).mono ?_;rintro e w' ⟨rfl,rfl⟩;exact⟨rfl,h,.inl rfl⟩
   · refine(So.aJb g 0 cap l.length [] post l w rfl (by omega) hrow hlen).mono ?_;rintro e w' ⟨rfl,hr,ho⟩;have hl:=So.rJ l;have:=hr.own (cap:=cap) hg (by rw[hl];exact h1) h2 (by rw[hl];exact h3);rw[hl] at this;exact⟨rfl,this,.inr ⟨g,rfl,ho⟩⟩
end
namespace Es
theorem Tryz.info5:(prog.info? 5).map (fun i=>(i.zero,i.size,i.bytes))=some (some (.int .u8 0),1,1):=by kernel_rfl
theorem aQp {l m:List UInt8} (h:l=m):Ending.returned (.string ⟨l.toArray⟩)=Ending.returned (.string ⟨m.toArray⟩):=by rw[h]
theorem aMp (s:ByteArray) (w:World) (hs:s.size≤1099511627776) :
 Calls prog 173 #[.string s] w fun e w'=>e=.returned (.string ⟨(esc s.data.toList++[0,1]).toArray⟩)∧Below w.heap.size w w':=by
 obtain⟨i0,hi,hz0,hz1,hz2⟩:=info_parts Tryz.info5;go_enter func173,ntmps173;go_wp2_with (first | (at_make;refine wpList_make_own _ rfl _ _ 99 rfl w.heap.size 5 i0 (.int .u8 0) 1 underlying99 hi hz0 hz1 _ _ _ (s.size+2) rfl rfl (by omega) ?c1 ?c2 ?c3 ?_));case c1=>rw[hz2];omega
 case c2=>unfold maxLen;omega
 case c3=>exact Nat.le_refl _
 intro w1 hown hgrow;have hB:Below w.heap.size w w1:=zr.grown hgrow lr (by intro k hk;cases hk);have hO:cO w1 w.heap.size (.slice (some ⟨w.heap.size,0,none⟩) 0 (s.size+2)) []:=hown;have hsz1:=hB.size;clear hown hgrow;go_wp2
 go_loopw [3,4,11] (fun v _ i wr=>∃ k:Nat,k≤s.size∧i=.int .i64 k∧cO wr w.heap.size v (esc (s.data.toList.take k))∧Below w.heap.size w wr) (fun _ _ i _=>s.size-(intOf i).toNat)
 case atStart=>exact⟨0,Nat.zero_le _,rfl,by simpa[esc] using hO,hB⟩
 case round =>
  clear hO hB hsz1 hi hz0 hz1 hz2;obtain⟨k,hk,rfl,hO,hB⟩:=hrel;have hlen:=aGg (s.data.toList.take k);have hlk:(s.data.toList.take k).length≤k:=List.length_take_le _ _;by_cases hlt:k<s.size
  · have hst:=aEm s k hlt;have HE:=zh (show esc (s.data.toList.take (k+1))=esc (s.data.toList.take k)++(if s[k]=0 then [0,255] else [s[k]]) by rw[hst,aMh];simp[esc]);clear hst;go_wp2_with (first
     | (at_builtin;refine bD rfl (.tmp 14) (.tmp 18) 99 rfl underlying99 Tryz.info5 rfl (hO.alloc _) _ [s[k]] 1 _ rfl rfl (jQ _ _ _) (by omega) (hB.alloc hB.size _) (by simp;have:=hB.size;omega) ?_;intro v1 w1 jX hB1 hs1)
     | (at_builtin;refine bD rfl (.tmp 24) (.tmp 25) 99 rfl underlying99 Tryz.info5 rfl (jX.alloc _) _ [255] 1 _ rfl rfl (jQ _ 255 _) (by simp;omega) (hB1.alloc hs1 _) (by simp;omega) ?_;intro v2 w2 hO2 hB2 hs2))
    · have h0:s[k]=0:=UInt8.toNat_inj.1 (by have:((s[k].toNat:Int)==0)=true:=(by assumption);simp at this;simpa using this);go_roundw
      case rel=>exact⟨k+1,by omega,by go_num,by rw[HE.out,if_pos h0];simpa[h0] using hO2,hB2⟩
      case measure=>simp[intOf];omega
    · have h0:¬ s[k]=0:=fun h=>by
       have h1:((s[k].toNat:Int)==0)=false:=by assumption
       simp[h] at h1
      go_roundw
      case rel=>exact⟨k+1,by omega,by go_num,by rw[HE.out,if_neg h0];exact jX,hB1⟩
      case measure=>simp[intOf];omega
  · go_wp2_with (first
     | (at_builtin;refine bD rfl (.tmp 28) (.tmp 29) 99 rfl underlying99 Tryz.info5 rfl (hO.alloc _) _ [0,1] 2 _ rfl rfl (pW _ 0 1 _) (by omega) (hB.alloc hB.size _) (by simp;have:=hB.size;omega) ?_;intro v1 w1 jX hB1 hs1;have hcv:=jX.conv 99 9 underlying99 underlying5 underlying9))
    go_ret;exact⟨aQp (by rw[wD s k hlt]),hB1⟩
theorem aJd {w:World} {base g n cap:Nat} {l:List UInt8} (h:cO w base (.slice (some ⟨g,0,none⟩) n cap) l) (hn:n=l.length) (k:Nat) (hk:k<l.length) :
 w.cell? ⟨g,k,none⟩=some (.int .u8 (l[k].toNat:Int)):=by
 subst hn;have:=World.ownsRow.cellAt h k (by omega);rw[this];simp[bv,List.getElem?_eq_getElem hk]
theorem aDv {w:World} {base g n cap:Nat} {l:List UInt8} (h:cO w base (.slice (some ⟨g,0,none⟩) n cap) l) (hn:n=l.length) (k:Nat):w.frozen? ⟨g,k,none⟩=false:=by
 subst hn;exact World.ownsRow.frozenAt h k
theorem aJe {w:World} {base g n cap:Nat} {l:List UInt8} (h:cO w base (.slice (some ⟨g,0,none⟩) n cap) l) (hn:n=l.length) (k:Nat) (c:UInt8) :
 cO (w.setCell ⟨g,k,none⟩ (.int .u8 (c.toNat:Int))) base (.slice (some ⟨g,0,none⟩) n cap) (l.set k c):=by
 subst hn;have:=(World.ownsRow.stored h k (.int .u8 (c.toNat:Int))).1;unfold cO;rw[List.length_set];have e:bv (l.set k c)=(bv l).set k (.int .u8 (c.toNat:Int)):=by simp[bv,List.map_set]
 rw[e];exact this
def jR (l:List UInt8) (k:Nat):List UInt8:=(l.take k).map (255-·)++l.drop k
theorem aJf (l:List UInt8):jR l 0=l:=by simp[jR]
theorem aDw (l:List UInt8) (k:Nat) (h:k≤l.length):(jR l k).length=l.length:=by simp[jR];omega
theorem aMq (l:List UInt8) (k:Nat) (h:l.length≤k):jR l k=l.map (255-·):=by simp[jR,List.take_of_length_le h,List.drop_of_length_le h]
theorem aMr (l:List UInt8) (k:Nat) (h:k<l.length) (h2:k<(jR l k).length):(jR l k)[k]=l[k]:=by
 simp[jR,List.getElem_append_right,Nat.min_eq_left (Nat.le_of_lt h)]
theorem aMs (l:List UInt8) (k:Nat) (h:k<l.length):(jR l k).set k (255-l[k])=jR l (k+1):=by
 unfold jR;rw[List.set_append,if_neg (by simp;omega),List.length_map,List.length_take,Nat.min_eq_left (Nat.le_of_lt h),Nat.sub_self,List.drop_eq_getElem_cons h,List.set_cons_zero,List.take_succ_eq_append_getElem h,List.map_append,List.append_assoc];rfl
theorem rC (c:UInt8):((255-c:UInt8).toNat:Int)=255-(c.toNat:Int):=by
 have:=c.toNat_lt;rw[UInt8.toNat_sub];have aDs:(255:UInt8).toNat=255:=rfl;rw[aDs];omega
theorem aXi (s:ByteArray) (w:World) (hs:s.size≤1099511627776) :
 Calls prog 103 #[.string s] w fun e w'=>e=.returned (.string ⟨(s.data.toList.map (255-·)).toArray⟩)∧Below w.heap.size w w':=by
 obtain⟨i0,hi,hz0,hz1,hz2⟩:=info_parts Tryz.info5;go_enter func103,ntmps103;go_wp2_with (first 
  | (at_make;refine wpList_make_full _ rfl _ _ 99 rfl w.heap.size 5 i0 (.int .u8 0) 1 underlying99 hi hz0 hz1 _ _ _ _ s.size rfl rfl (by omega) (by omega) ?c1 ?c2 ?c3 ?_))
 case c1=>rw[hz2];omega
 case c2=>unfold maxLen;omega
 case c3=>exact Nat.le_refl _
 intro w1 hown hgrow;have hB:Below w.heap.size w w1:=zr.grown hgrow lr (by intro k hk;cases hk);have hO:cO w1 w.heap.size (.slice (some ⟨w.heap.size,0,none⟩) s.size s.size) (List.replicate s.size 0):=by
  unfold cO;rw[toList_madeCells_one] at hown;simpa[bv] using hown
 have hsz1:=hB.size;clear hown hgrow hi hz0 hz1 hz2;go_wp2_with (refine aAm (o:=⟨some 10,_,_,_,_,_⟩) rfl _ _ 99 9 rfl underlying99 Tryz.info5 s rfl rfl hO hB hsz1 ?_;intro w2 hO2 hB2 hs2;clear hO hB hsz1);go_loopw [4,13] (fun _ i wr=>∃ k:Nat,k≤s.size∧i=.int .i64 k∧cO wr w.heap.size (.slice (some ⟨w.heap.size,0,none⟩) s.size s.size) (jR s.data.toList k)∧Below w.heap.size w wr) (fun _ i _=>s.size-(intOf i).toNat)
 case atStart=>exact⟨0,Nat.zero_le _,rfl,by rw[aJf];exact hO2,hB2⟩
 case round =>
  clear hO2 hB2 hs2;obtain⟨k,hk,rfl,hO,hB⟩:=hrel;have hsl:s.size=s.data.toList.length:=by rw[Array.length_toList];rfl
  have hfl:=aDw s.data.toList k (by omega);have hl:s.size=(jR s.data.toList k).length:=by omega
  by_cases hlt:k<s.size
  · have hc:=aJd hO hl k (by omega);rw[aMr _ k (by omega)] at hc;have hf:=aDv hO hl k;have hst:=zh (aJe hO hl k (255-s.data.toList[k]));rw[aMs _ k (by omega)] at hst;obtain⟨c,hcc⟩:∃ c,c=s.data.toList[k]:=⟨_,rfl⟩
    rw[← hcc] at hc hst;have hbd:=c.toNat_lt;clear hsl hfl hl hcc;go_wp2
    go_roundw
    case rel=>exact⟨k+1,by omega,by go_num,by rw[← rC];exact hst.out,hB.setCell lr _⟩
    case measure=>simp[intOf];omega
  · have hcv:=hO.conv 99 9 underlying99 underlying5 underlying9;rw[aMq _ k (by omega)] at hcv;clear hsl hfl hl;go_wp2
    go_ret;exact⟨rfl,hB⟩
end Es
namespace D
open Go.Maps Go.ChangeMaps
theorem aJ.blocks {w w':World} {base:Nat} {v:Value} {l:List Int} (h:aJ w base v l) (hb:∀ k,base≤k→w'.heap[k]?=w.heap[k]?):aJ w' base v l:=by
 refine⟨h.1,?_⟩;rcases h.2 with hn | ⟨g,cap,cur,rfl,hg,hgg,rest⟩
 · exact .inl hn
 · exact .inr ⟨g,cap,cur,rfl,hg,(hb g hg).trans hgg,rest⟩
theorem aJ.pop {w:World} {base g cap m:Nat} {L:List Int} {p:Int} (h:aJ w base (.slice (some ⟨g,0,none⟩) (m+1) cap) (L++[p])) (hm:L.length=m):aJ w base (.slice (some ⟨g,0,none⟩) m cap) L:=by
 unfold aJ at h ⊢;rw[List.length_append,List.length_singleton,hm,← fP] at h;rw[hm];exact ownsRow_pop (by rw[dA,hm,Nat.mul_one]) h
theorem aJ.some_ {w:World} {base m:Nat} {v:Value} {L:List Int} {p:Int} (h:aJ w base v (L++[p])) (hm:L.length=m):∃ g cap,v=.slice (some ⟨g,0,none⟩) (m+1) cap:=by
 rcases h.2 with ⟨_,h0⟩ | ⟨g,cap,_,rfl,_⟩
 · simp at h0
 · exact⟨g,cap,by rw[List.length_append,List.length_singleton,hm]⟩
theorem aJ.last {w:World} {base g cap m:Nat} {L:List Int} {p:Int} (h:aJ w base (.slice (some ⟨g,0,none⟩) (m+1) cap) (L++[p])) (hm:L.length=m):g<w.heap.size∧w.cell? ⟨g,m,none⟩=some (.int .i64 p)∧m+1≤cap:=by
 obtain⟨a,cap',he,hc,_,hcells⟩:=h.reads;injection he with e1 e2 e3
 subst e3;obtain⟨g',off,ha,_,h4,h5⟩:=hcells m (by simp;omega);rw[← e1] at ha;injection ha with ha
 injection ha with h6 h7
 subst h6 h7;refine⟨h4,?_,by omega⟩;rw[Nat.zero_add] at h5;rw[h5];subst hm;simp
theorem bF.looks {w:World} {lo hi:Nat} {v:Value} {D:Dm} (h:bF w lo hi v D) :
 ∃ pd b,v=.pointer (some ⟨pd,0,none⟩)∧pd<hi∧b<hi∧w.cell? ⟨pd,0,none⟩=some (.map (some b)) ∧
  ∀ x,aF x→∃ (y:Int) (a:Option Addr) (cap:Nat),IntsIn w lo hi (.slice a (partsOf D x).length cap) (partsOf D x) ∧
   ∀ w',w'.heap[b]?=w.heap[b]?→(Instr.lookup 155 (.map (some b)) (.int .i64 x) false).run prog w'=.ok (.agg #[.int .i64 y,.int .i64 (aG D x),.slice a (partsOf D x).length cap]) w':=by
 obtain⟨pd,b,f,n,rfl,h1,h2,h3,h4,h5,h6,h7⟩:=h;refine⟨pd,b,rfl,h1.2,h3.2,h2,fun x hx=>?_⟩;cases hd:D x with
 | none =>
  refine⟨0,none,0,by simpa[partsOf,hd] using IntsIn.nil w lo hi,fun w' hw=>?_⟩;have hl:=(h4.of_block hw).look (int_keyed underlying3) underlying155 (Tryz.zeroValue162 _) (keyOf_int_mk underlying3 (jW hx)) false;rw[h6 x hd] at hl;simpa[nJ,aG,partsOf,hd] using hl
 | some cl =>
  obtain⟨c,l⟩:=cl;obtain⟨s,hs,hi⟩:=h7 x c l hd;obtain⟨a,cap,rfl,_⟩:=hi.form;refine⟨x,a,cap,by simpa[partsOf,hd] using hi,fun w' hw=>?_⟩;have hl:=(h4.of_block hw).look (int_keyed underlying3) underlying155 (Tryz.zeroValue162 _) (keyOf_int_mk underlying3 (jW hx)) false;rw[hs] at hl;simpa[nJ,aG,partsOf,hd] using hl
theorem aXj (w:World):(zeroValue 4).run prog w=.ok (.bool false) w:=Tryz.zeroValue4 _
theorem aSi {D:Dm} (wp:Wp D) (K:List Int) (hk:∀ y,partsOf D y≠[]→y∈K) (hn:∀ y,(partsOf D y).length≤65537) (hkl:K.length≤4096) (v:Value) (x:Int) (w:World) (hx:aF x) (hd:bF w 0 w.heap.size v D) :
 Calls prog 61 #[v,.int .i64 x] w fun e w'=>(∃ b:Bool,e=.returned (.bool b)∧(b=false→¬ rM D x x))∧Below w.heap.size w w':=by
 obtain⟨pd,b,rfl,h1,h2,h3,h4⟩:=hd.looks;have HL:=zh h4;obtain⟨y,a,cap,hi,hlk⟩:=h4 x hx;have HPI:=zh (show ∀ k,∀ q∈partsOf D k,aF q from fun k q hq=>by have:=wp.at hq;unfold aF;omega);have hR0:=bCc (n:=65537) K hn;obtain⟨N0,hN0⟩:∃ N0,(partsOf D x).length+rest D K (fun _=>false)=N0:=⟨_,rfl⟩
 have HN:=zh (show N0≤300000000 by have h1:=hn x;have h2:K.length*65537≤4096*65537:=Nat.mul_le_mul_right _ hkl;omega);have HK:=zh hk;have HNN:=zh hn;have HE:=zh hN0;have lk:=hlk (w.alloc (.map #[] 0)) ((Below.refl w.heap.size w).alloc lr (.map #[] 0) |>.block b h2);have fd:=aXk y (aG D x) a (partsOf D x).length cap;have HI:=zh hi;clear hi hlk h4 hR0 hN0 hk hn wp hd;have hmk:∀ w:World,(Instr.makeMap 226 none).run prog w=.ok (.map (some w.heap.size)) (w.alloc (.map #[] 0)):=fun _=>rfl
 go_enter func61,ntmps61;go_wp2_with fail;have hb1:Below w.heap.size w (w.alloc (.map #[] 0)):=zr.alloc lr _;have hm1:=bQ.made prog 3 (Value.int .i64) w;refine(mJ (.slice a (partsOf D x).length cap) (partsOf D x) (w.alloc (.map #[] 0)) 0 w.heap.size (HI.out.later hb1) hb1.size (by have:=HNN.out x;omega)).mono ?_;rintro e w1 ⟨u,rfl,hu,hb2⟩;have HB1:=zh (hb1.trans (hb2.mono hb1.size));have HM1:=zh (hm1.keep hb2);have HU:=zh (show aJ w1 (w.heap.size+1) u (partsOf D x) from hu.low (by simp));clear hb1 hm1 hu hb2 lk fd;go_wp2_with fail;go_loopg [6] N0 (fun k lv wr=>∃ (L:List Int) (M:Int→Bool) (f:Int→Option Value) (n:Nat),RowKit.Hid (aJ wr (w.heap.size+1) lv L)∧RowKit.Hid (bQ prog 3 (Value.int .i64) wr w.heap.size f n)∧Below w.heap.size w wr∧n+k≤N0 ∧
  RowKit.Hid ((∀ y,f y=if M y then some (.bool true) else none)∧Met D x M L∧L.length+rest D K M≤k∧∀ q∈L,aF q))
 case atStart=>exact⟨partsOf D x,fun _=>false,fun _=>none,0,HU,HM1,HB1.out,by omega,zh ⟨fun _=>rfl,Met.first D x,Nat.le_of_eq HE.out,HPI.out x⟩⟩
 case round =>
  obtain⟨L,M,f,n,HO,HM,hB,hnk,HX⟩:=hrel;by_cases hL:L=[]
  · subst hL;obtain⟨a7,kE,rfl⟩:=aP HO.out;go_wp2_with fail;go_ret;exact⟨⟨false,rfl,fun _=>HX.out.2.1.done⟩,hB⟩
  obtain⟨L1,p,rfl⟩:∃ L1 p,L=L1++[p]:=⟨L.dropLast,L.getLast hL,(List.dropLast_concat_getLast hL).symm⟩
  obtain⟨m,hm⟩:∃ m,L1.length=m:=⟨_,rfl⟩
  have HO':=HO.out;obtain⟨g,kE,rfl⟩:=aJ.some_ HO' hm;obtain⟨hg,hc,hcap⟩:=aJ.last HO' hm;have HP:=zh (aJ.pop HO' hm);have hmN:m+1≤300000000:=by
   have h1:=HX.out.2.2.1;have h2:=HN.out;rw[List.length_append,List.length_singleton] at h1;omega
  have hpI:aF p:=HX.out.2.2.2 p (by simp);have cpd:wr.cell? ⟨pd,0,none⟩=some (.map (some b)):=(hB.cell (p:=⟨pd,0,none⟩) h1).trans h3;have lkm:=HM.out.look (int_keyed underlying3) underlying226 (aXj wr) (keyOf_int_mk underlying3 (jW hpI)) false;rw[HX.out.1 p] at lkm;have q1:decide ((0:Int)<(m:Int)+1)=true:=decide_eq_true (by omega);clear HO' hL;by_cases hpx:p=x
  · subst hpx;go_wp2_with fail;go_ret;exact⟨⟨true,rfl,fun h=>by cases h⟩,hB⟩
  have q2:(p==x)=false:=by simpa using hpx
  have HPX:=zh hpx;clear hpx;cases hMp:M p with
  | true =>
   rw[hMp] at lkm;simp only [nJ,if_true] at lkm;have HMp:=zh hMp;clear hMp;go_wp2_with fail;go_roundg (gk-1)
   case rel=>exact⟨L1,M,f,n,HP,HM,hB,by omega,zh ⟨HX.out.1,HX.out.2.1.skip HMp.out,by have:=HX.out.2.2.1;rw[List.length_append,List.length_singleton] at this;omega,fun q hq=>HX.out.2.2.2 q (by simp[hq])⟩⟩
   case measure=>have:=HX.out.2.2.1;rw[List.length_append,List.length_singleton] at this;omega
  | false =>
   rw[hMp] at lkm;simp only [nJ,Bool.false_eq_true,if_false] at lkm;have HMp:=zh hMp;clear hMp;obtain⟨w2,hst,hm2,o,ho⟩:=HM.out.store (int_keyed underlying3) underlying226 (fun x y h=>by injection h) (by have:=HN.out;unfold maxLen;omega) (keyOf_int_mk underlying3 (jW hpI)) (.bool true);have pY:=zh hm2;have hsz2:w2.heap.size=wr.heap.size:=by rw[ho,cB]
   have hB2:Below w.heap.size wr w2:=by rw[ho];exact fQ o lr
   have xZ:=zh (aJ.blocks HP.out (w':=w2) (fun k hk=>by rw[ho];exact aQ o (by omega)));have bVo:w2.cell? ⟨pd,0,none⟩=some (.map (some b)):=(hB2.cell (p:=⟨pd,0,none⟩) (by show pd<w.heap.size;omega)).trans cpd;obtain⟨y2,a2,cap2,hi2,hlk2⟩:=HL.out p hpI;have hBw2:Below w.heap.size w w2:=hB.trans hB2;have lk2:=hlk2 w2 (hBw2.block b h2);have fd2:=aXk y2 (aG D p) a2 (partsOf D p).length cap2;have hi3:=hi2.later hBw2;have hrp:=aXl HMp.out (HK.out p);have HRP:=zh hrp;have hlen:L1.length+(partsOf D p).length≤1099511627776:=by
    have h1:=HX.out.2.2.1;have h2:=HN.out;rw[List.length_append,List.length_singleton] at h1;omega
   have HHM:=zh hm;have bOb:w.heap.size+1≤w2.heap.size:=by have:=HM.out.lt;omega
   have HP3:=xZ.out;rw[← hm] at HP3;clear hi2 hlk2 ho hm2 hrp;go_wp2_with (at_builtin;refine bB rfl (.tmp 40) (.tmp 47) rfl rfl xZ.out rfl hi3 hlen zr bOb ?_;intro c3 oM w3 hO3 hB3 _ _);have hf:f p=none:=by rw[HX.out.1 p,HMp.out];rfl
   have hlk:L1.length+rest D K M+1≤gk:=by have h1:=HX.out.2.2.1;rw[List.length_append,List.length_singleton] at h1;omega
   go_roundg (gk-1)
   case rel =>
    refine⟨L1++partsOf D p,fun y=>decide (y=p) || M y,_,_,zh (by rw[← HHM.out];exact hO3),zh (pY.out.later hB3 (Nat.lt_succ_self _)),hBw2.trans (hB3.mono (Nat.le_succ _)),?_,zh ⟨fun y=>?_,HX.out.2.1.take HPX.out,?_,?_⟩⟩
    · rw[if_pos hf];omega
    · by_cases hy:y=p
      · subst hy;simp[eZ]
      · rw[dB _ _ hy,HX.out.1 y];simp[hy]
    · have:=HRP.out;rw[List.length_append];omega
    · intro q hq;rcases List.mem_append.1 hq with hq | hq
      · exact HX.out.2.2.2 q (by simp[hq])
      · exact HPI.out p q hq
   case measure=>omega
def Known (D:Dm) (f:Int→Option Value):Prop:=∀ k u,f k=some u→u=.int .i64 (mM D k:Nat)
theorem Known.put {D:Dm} {f:Int→Option Value} (h:Known D f) (x:Int):Known D (aSj f x (.int .i64 (mM D x:Nat))):=by
 intro k u hk;by_cases hx:k=x
 · subst hx;rw[eZ] at hk;cases hk;rfl
 · rw[dB _ _ hx] at hk;exact h k u hk
def unk (f:Int→Option Value):Nat:=((List.range 1114112).map (fun k:Nat=>(k:Int))).countP fun k=>(f k).isNone
theorem bFh (f:Int→Option Value) (x:Int) (u:Value):unk (aSj f x u)≤unk f:=by
 unfold unk;refine List.countP_mono_left fun k _ h=>?_
 by_cases hx:k=x
 · subst hx;rw[eZ] at h;cases h
 · rwa [dB _ _ hx] at h
theorem bFi {f:Int→Option Value} {x:Int} {u:Value} (h0:0≤x) (h1:x≤1114111) (hf:f x=none):unk (aSj f x u)<unk f:=by
 unfold unk;refine aEr (a:=x) (fun k _ h=>?_) (List.mem_map.2 ⟨x.toNat,List.mem_range.2 (by omega),by omega⟩) (by rw[eZ];rfl) (by rw[hf];rfl);by_cases hx:k=x
 · subst hx;rw[eZ] at h;cases h
 · rwa [dB _ _ hx] at h
theorem bCd (f:Int→Option Value):unk f≤1114112:=by
 unfold unk;refine Nat.le_trans (List.countP_le_length) ?_;rw[List.length_map,List.length_range];exact Nat.le_refl _
def rO (D:Dm) (bk:Nat) (w:World):Prop:=∃ f m,bQ prog 3 (Value.int .i64) w bk f m∧Known D f∧m+unk f≤1114112
theorem rO.new (D:Dm) (w:World):rO D w.heap.size (w.alloc (.map #[] 0)):=⟨_,_,bQ.made ..,fun k u h=>by(cases h),by rw[Nat.zero_add];exact bCd _⟩
theorem rO.later {D:Dm} {bk:Nat} {w w':World} (h:rO D bk w) (hb:Below w.heap.size w w'):rO D bk w':=by
 obtain⟨f,m,h1,h2,h3⟩:=h;exact⟨f,m,h1.keep hb,h2,h3⟩
theorem rO.lt {D:Dm} {bk:Nat} {w:World} (h:rO D bk w):bk<w.heap.size:=by
 obtain⟨f,m,h1,h2,h3⟩:=h;exact h1.lt
theorem wH (w:World):(zeroValue 3).run prog w=.ok (.int .i64 0) w:=Tryz.zeroValue3 _
theorem rO.look {D:Dm} {bk:Nat} {w:World} (h:rO D bk w) (x:Int) (hx:aF x) :
 (Instr.lookup 158 (.map (some bk)) (.int .i64 x) true).run prog w=.ok (.tuple #[.int .i64 (mM D x:Nat),.bool true]) w ∨
 (Instr.lookup 158 (.map (some bk)) (.int .i64 x) true).run prog w=.ok (.tuple #[.int .i64 0,.bool false]) w:=by
 obtain⟨f,m,h1,h2,h3⟩:=h;have hl:=h1.look (int_keyed underlying3) underlying158 (wH w) (keyOf_int_mk underlying3 (jW hx)) true;cases hf:f x with
 | none=>rw[hf] at hl;exact .inr hl
 | some u=>rw[hf] at hl;rw[h2 x u hf] at hl;exact .inl hl
theorem rO.store {D:Dm} {bk:Nat} {w:World} (h:rO D bk w) (x:Int) (h0:0≤x) (h1:x≤1114111) :
 ∃ w',(Instr.mapUpdate 158 (.map (some bk)) (.int .i64 x) (.int .i64 (mM D x:Nat))).run prog w=.ok () w'∧rO D bk w'∧Below bk w w':=by
 obtain⟨f,m,g1,g2,g3⟩:=h;obtain⟨w',a1,a2,o,a3⟩:=g1.store (int_keyed underlying3) underlying158 (fun x y h=>by injection h) (by unfold maxLen;omega) (keyOf_int_mk underlying3 (jW (x:=x) (by unfold aF;omega))) (.int .i64 (mM D x:Nat));refine⟨w',a1,⟨_,_,a2,g2.put x,?_⟩,by rw[a3];exact fQ o lr⟩;by_cases hf:f x=none
 · rw[if_pos hf];have:=bFi (u:=.int .i64 (mM D x:Nat)) h0 h1 hf;omega
 · rw[if_neg hf];have:=bFh f x (.int .i64 (mM D x:Nat));omega
def kT (D:Dm) (bk:Nat) (x:Int) (w:World) (e:Ending) (w':World):Prop:=e=.returned (.int .i64 (mM D x:Nat))∧Below bk w w'∧rO D bk w'
theorem bFj {D:Dm} (wp:Wp D) {r:Int→Nat} (hr:∀ x,∀ q∈partsOf D x,r q<r x) (hb:∀ x,r x≤4500) (hn:∀ y,(partsOf D y).length≤65537) (v:Value) (bk:Nat):∀ (n:Nat) (x:Int) (w:World),r x<n→0≤x→x≤1114111→dU x=false→bF w 0 bk v D→rO D bk w →
 Calls prog 62 #[v,.int .i64 x,.map (some bk)] w (kT D bk x w):=by
 intro n;induction n with
 | zero=>intro x w h;omega
 | succ n ih =>
  intro x w hx h0 h1' hs hd hm;have IH:=zh ih;have HD:=zh hd;have HM:=zh hm;obtain⟨pd,b,rfl,hpd,hbb,hcp,hlk⟩:=hd.looks;obtain⟨y,a,cap,hi,hlk2⟩:=hlk x (by unfold aF;omega);have lk:=hlk2 w rfl;have hbk:=hm.lt;have fd:=aXk y (aG D x) a (partsOf D x).length cap;obtain⟨a',cap',e1,hcap,hcell⟩:=IntsIn.get hi;injection e1 with e1 e2 e3
  subst e1 e3;have HC:=zh hcell;have HQ:=zh (show ∀ q∈partsOf D x,r q<n∧0≤q∧q≤1114111∧dU q=false from fun q hq=>by have h2:=hr x q hq;have h3:=wp.at hq;exact⟨by omega,h3.2.2.1,h3.2.2.2,h3.2.1⟩);have HNX:=zh (hn x);rcases hm.look x (by unfold aF;omega) with lm | lm
  · clear ih hd hm hlk hlk2 hi hcell;go_enter func62,ntmps62;go_wp2_with fail;go_ret;exact⟨rfl,zr,HM.out⟩
  · clear ih hd hm hlk hlk2 hi hcell;go_enter func62,ntmps62;go_wp2_with fail;go_loopw [9,28] (fun o i wr=>∃ (j c:Nat),j≤(partsOf D x).length∧i=.int .i64 j∧o=.int .i64 c∧c≤19∧Below bk w wr∧rO D bk wr∧RowKit.Hid (c=aSk D ((partsOf D x).take j))) (fun _ i _=>(partsOf D x).length-(intOf i).toNat)
    case atStart=>exact⟨0,0,Nat.zero_le _,rfl,rfl,by omega,zr,HM.out,zh (by rw[List.take_zero];rfl)⟩
    case round =>
     obtain⟨j,c,hj,rfl,rfl,hc19,hB,hMe,HCL⟩:=hrel;by_cases hlt:j<(partsOf D x).length
     · obtain⟨g,off,rfl,_,hg,hc⟩:=HC.out j hlt;have hc':=(hB.cell (p:=⟨g,off+j,none⟩) hg).trans hc;have hq:=HQ.out _ (List.getElem_mem hlt);have HIQ:=zh (IH.out (partsOf D x)[j] wr hq.1 hq.2.1 hq.2.2.1 hq.2.2.2 (HD.out.later hB lr) hMe);obtain⟨cq,hcq⟩:∃ cq,mM D (partsOf D x)[j]=cq:=⟨_,rfl⟩
       have bVf:cq≤19:=by rw[← hcq];unfold mM;omega
       have HCQ:=zh hcq;obtain⟨c2,hc2⟩:∃ c2,min (c+cq) 19=c2:=⟨_,rfl⟩
       have HN:=zh (show c2=aSk D ((partsOf D x).take (j+1)) by rw[List.take_add_one,List.getElem?_eq_getElem hlt,Option.toList_some,aSl,← HCL.out,hcq,hc2]);clear hq hcq;go_wp2_with fail;refine HIQ.out.mono ?_;rintro e w2 ⟨rfl,hb2,hm2⟩;rw[HCQ.out];have HB2:=zh (hB.trans hb2);have pY:=zh hm2;clear hb2 hm2;have hjn:j+1≤65537:=by have:=HNX.out;omega
       go_wp2_with fail;refine⟨⟨j+1,c2,by omega,by simp,by rw[← hc2];congr 1<;>first | omega | (split<;>omega),by omega,HB2.out,pY.out,HN⟩,?_⟩;simp[intOf];omega
     · obtain rfl:j=(partsOf D x).length:=by omega
       have hcl:=HCL.out;rw[List.take_length] at hcl;by_cases hp:partsOf D x=[]
       · have h1:mM D x=1:=by unfold mM;rw[uZ hs hp];rfl
         have hc0:c=0:=by rw[hcl,hp];rfl
         have q1:((c:Int)==0)=true:=by simp[hc0]
         obtain⟨w3,a1,a2,a3⟩:=hMe.store x h0 h1';have a1':(Instr.mapUpdate 158 (.map (some bk)) (.int .i64 x) (.int .i64 1)).run prog wr=.ok () w3:=by rw[h1] at a1;exact a1
         have HX:=zh (And.intro a2 (hB.trans a3));have H1:=zh h1;clear a1 a2 a3 hcl hp hc0 h1;go_wp2_with fail;go_ret;exact⟨by rw[H1.out];rfl,HX.out.2,HX.out.1⟩
       · obtain⟨q0,hq0⟩:∃ q,q∈partsOf D x:=by
          cases hl:partsOf D x with
          | nil=>exact absurd hl hp
          | cons q t=>exact⟨q,List.mem_cons_self ..⟩
         have h1:mM D x=c:=by rw[hcl];unfold mM aSk;rw[zS wp hr hb hs hp]
         have hpos:0<mM D x:=by have:=aMt wp hr hb (r x+1) x (by omega) hs;unfold mM;omega
         have q1:((c:Int)==0)=false:=by simp;omega
         obtain⟨w3,a1,a2,a3⟩:=hMe.store x h0 h1';rw[h1] at a1;have H1:=zh h1;have HX:=zh (And.intro a2 (hB.trans a3));clear a2 a3 hcl hp hq0 h1 hpos;go_wp2_with fail;go_ret;exact⟨by rw[H1.out];rfl,HX.out.2,HX.out.1⟩
