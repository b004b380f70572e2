import Derived.Lib.AppendIntMem
import Derived.Test.YtcgnajeenflfaaaGreatDoorP27
set_option maxRecDepth 100000
set_option maxHeartbeats 4000000
set_option linter.all false
open Go.Proofs.Tryz Go.RowKit
namespace Go.Proofs.YtcgnajeenflfaaaGreatDoor
namespace Sc
open V (Pt depthP depthL mayB okOne depthP_eq depthL_le mayB_eq mayB_ok)
open We (Co)
def fitS (F:List Fd) (p:Pt):Bool:=p.kind==7&&p.items.length==F.length&&fitL F p.items
def encS (K:Co→ByteArray→List UInt8) (lim:Int) (F:List Fd) (p:Pt):Option (List UInt8) :=
 if okS lim F&&fitS F p&&decide (((encL K F p.items).length:Int)≤lim) then some (encL K F p.items) else none
def decS (K:Co→ByteArray→List UInt8) (lim:Int) (F:List Fd) (key:List UInt8):Option Pt :=
 if okS lim F&&decide ((key.length:Int)≤lim) then match rdL K F key with
  | none=>none
  | some (ps,r)=>if r=[] then some (.mk 7 false false .empty .empty ps) else none
 else none
theorem decS_enc {K:Co→ByteArray→List UInt8} {lim:Int} {F:List Fd} {key:List UInt8} {p:Pt} (h:decS K lim F key=some p):encS K lim F p=some key∧mayB p=true∧depthP p≤16:=by
 unfold decS at h
 split at h
 · next h1 =>
   simp only [Bool.and_eq_true,decide_eq_true_eq] at h1
   split at h
   · cases h
   · next ps r hr =>
     split at h
     · next h0 =>
       injection h with h
       subst h h0
       obtain⟨_,_,hne,hl,ho⟩:=okS_all h1.1
       obtain⟨b1,b2,b3,b4⟩:=rdL_sound 0 F (fun g _=>rdF_sound g) ho _ _ _ hr
       rw[List.append_nil] at b1
       refine⟨?_,?_,?_⟩
       · unfold encS fitS
         simp only [V.Pt.kind,V.Pt.items,← b1,b2,b3,h1.1,h1.2]
         simp
       · rw[mayB_eq]
         simp only [V.Pt.kind,V.Pt.items,Bool.and_eq_true,List.all_eq_true,beq_self_eq_true,Bool.not_true,Bool.false_or]
         refine⟨?_,fun p hp=>(b4 p hp).1⟩
         have:ps.length≤1024:=by omega
         simp[okOne,V.Pt.kind,V.Pt.yes,V.Pt.neg,V.Pt.mag,V.Pt.raw,V.Pt.items,toList_empty,this]
       · rw[depthP_eq]
         simp only [V.Pt.kind,V.Pt.items]
         rw[if_pos trivial]
         have:=(depthL_le ps 15).2 fun p hp=>by have:=(b4 p hp).2;omega
         omega
     · cases h
 · cases h
theorem encS_dec {K:Co→ByteArray→List UInt8} (hK:KeyOk K) {lim:Int} {F:List Fd} {key:List UInt8} {p:Pt} (hm:mayB p=true) (h:encS K lim F p=some key):decS K lim F key=some p:=by
 unfold encS at h
 split at h
 · next h1 =>
   simp only [Bool.and_eq_true,decide_eq_true_eq,fitS,beq_iff_eq] at h1
   injection h with h
   subst h
   obtain⟨_,_,hne,hl,ho⟩:=okS_all h1.1.1
   have hr:=rdL_put (K:=K) 0 F (fun g _=>rdF_put hK g) ho p.items [] h1.1.2.1.2 h1.1.2.2 (fun q hq=>V.mayB_item hm hq)
   rw[List.append_nil] at hr
   unfold decS
   simp only [h1.1.1,h1.2,decide_true,Bool.and_self,if_true,hr]
   congr 1
   obtain⟨_,c1,c2,c7,_,_,_,ce⟩:=canon (mayB_ok hm)
   have e7:=h1.1.2.1.1
   conv=>rhs;rw[V.Pt.eta p,e7,c1 (by omega),(c2 (by omega)).1,(c2 (by omega)).2,ce (by omega)]
 · cases h
open V (Pt mayB mayB_ok)
mutual
def cntF:Fd→Nat
 | .mk _ _ _ _ _ _ _ _ _ _ _ l=>1+cntL l
def cntL:List Fd→Nat
 | []=>0
 | f::r=>cntF f+cntL r
end
theorem cntF_eq (f:Fd):cntF f=1+cntL f.fields:=by cases f;rw[cntF];rfl
theorem cntL_nil:cntL []=0:=by rw[cntL]
theorem cntL_cons (f:Fd) (r:List Fd):cntL (f::r)=cntF f+cntL r:=by rw[cntL]
theorem cntL_mem {f:Fd}:∀ {l:List Fd},f∈l→cntF f≤cntL l:=by
 intro l
 induction l with
 | nil=>intro h;cases h
 | cons g r ih =>
  intro h
  rw[cntL_cons]
  rcases List.mem_cons.1 h with rfl | h
  · omega
  · have:=ih h;omega
mutual
theorem walkF_cnt (d:Nat):∀ (f:Fd) (n m:Nat) (a:List Fd),walkF n d a f=some m→m=n+cntF f
 | .mk an k e u b lb lm hb hm mo c l=>fun n m a h=>by
  rw[walkF_eq] at h
  split at h
  · have:=walkL_cnt (d+1) l (n+1) m [] h
    rw[cntF_eq]
    show m=n+(1+cntL l)
    omega
  · cases h
theorem walkL_cnt (d:Nat):∀ (l:List Fd) (n m:Nat) (a:List Fd),walkL n d a l=some m→m=n+cntL l
 | []=>fun n m a h=>by
  rw[walkL_nil] at h
  injection h with h
  rw[cntL_nil];omega
 | f::r=>fun n m a h=>by
  rw[walkL_cons] at h
  cases hf:walkF n d a f with
  | none=>rw[hf] at h;cases h
  | some k =>
   rw[hf] at h
   have h1:=walkF_cnt d f n k a hf
   have h2:=walkL_cnt d r k m (a++[f]) h
   rw[cntL_cons];omega
end
theorem okS_cnt {limit:Int} {l:List Fd} (h:okS limit l=true):cntL l≤64:=by
 simp only [okS,Bool.and_eq_true,Option.isSome_iff_exists,decide_eq_true_eq] at h
 obtain⟨_,m,hm⟩:=h
 have h1:=walkL_cnt 0 l 0 m [] hm
 have h2:=(walkL_ok 0 l 0 m [] (by omega) hm).2.1
 omega
def KeyLen (K:Co→ByteArray→List UInt8):Prop:=∀ c s,c.ok→s.size≤65536→(K c s).length≤600000000
theorem escB_len (s:ByteArray):(escB s.toList).length≤2*s.size+2:=by
 have h1:=Es.esc_len s.toList
 rw[V.size_of] at h1
 unfold escB
 simp only [List.length_append,List.length_cons,List.length_nil]
 omega
theorem payP_len {K:Co→ByteArray→List UInt8} (hK:KeyLen K) {f:Fd} {p:Pt} (ho:oddM f=false) (hk:p.kind=f.kind) (hm:mayB p=true):(payP K f p).length≤650000000:=by
 obtain⟨_,_,hc,_⟩:=odd_not ho
 obtain⟨c0,_,_,_,cn,c4,cr,ce⟩:=canon (mayB_ok hm)
 have hr:p.raw.size≤65536:=by
  by_cases h:p.kind=0∨p.kind=1∨p.kind=2∨p.kind=7
  · rw[ce h];decide
  · by_cases h4:p.kind=4
    · have:=c4 h4;omega
    · exact cr (by omega)
 have he:=escB_len p.raw
 unfold payP
 split
 · simp
 · split
   · next h2 =>
     have:=(chk_zero_iff.1 (cn h2)).1
     unfold putBytes putHead
     simp only [List.length_append]
     have h3:(if p.neg then p.mag.toList.map (255-·) else p.mag.toList).length=p.mag.toList.length:=by split<;>simp
     rw[h3]
     repeat' split
     all_goals simp only [List.length_cons,List.length_nil];omega
   · split
     · rw[V.size_of];omega
     · split
       · next h6 =>
         have:=hK f.co p.raw (hc h6) hr
         simp only [List.length_cons,List.length_append]
         omega
       · omega
theorem flips_len (d:Bool) (l:List UInt8):(flips d l).length=l.length:=List.length_map _
theorem encL_len {K:Co→ByteArray→List UInt8}:∀ (l:List Fd),(∀ g∈l,∀ p,fitF g p=true→mayB p=true→(encF K g p).length≤cntF g*700000000) →
 ∀ ps:List Pt,ps.length=l.length→fitL l ps=true→(∀ p∈ps,mayB p=true)→(encL K l ps).length≤cntL l*700000000:=by
 intro l
 induction l with
 | nil=>intro _ ps _ _ _;rw[encL_nil];simp
 | cons g r ih =>
  intro hC ps hl hf hm
  cases ps with
  | nil=>cases hl
  | cons p ps =>
   rw[fitL_cons] at hf
   simp only [List.head?_cons,Option.getD_some,List.tail_cons,Bool.and_eq_true] at hf
   have h1:=hC g List.mem_cons_self p hf.1 (hm p List.mem_cons_self)
   have h2:=ih (fun g hg=>hC g (List.mem_cons_of_mem _ hg)) ps (by simpa using hl) hf.2 (fun q hq=>hm q (List.mem_cons_of_mem _ hq))
   rw[encL_cons,cntL_cons,List.length_append]
   simp only [List.head?_cons,Option.getD_some,List.tail_cons]
   omega
theorem encF_len {K:Co→ByteArray→List UInt8} (hK:KeyLen K) (f:Fd):∀ d,OkF d f→∀ p,fitF f p=true→mayB p=true→(encF K f p).length≤cntF f*700000000:=by
 induction f using Fd.ind with
 | h f ih =>
  intro d hok p hf hm
  obtain⟨_,_,_,_,ho,_,_,hin⟩:=hok
  rw[fitF_eq] at hf
  rw[encF_eq,cntF_eq]
  by_cases h0:p.kind=0
  · rw[if_pos h0];simp only [List.length_cons,List.length_nil];omega
  · rw[if_neg h0] at hf ⊢
    simp only [Bool.and_eq_true,beq_iff_eq] at hf
    rw[List.length_cons,flips_len]
    by_cases h7:p.kind=7
    · rw[if_pos h7] at hf ⊢
      simp only [Bool.and_eq_true,beq_iff_eq] at hf
      have:=encL_len (K:=K) f.fields (fun g hg p h1 h2=>ih g hg (d+1) (hin g hg) p h1 h2) p.items hf.2.1 hf.2.2 (fun q hq=>V.mayB_item hm hq)
      simp only [List.length_append,List.length_cons,List.length_nil]
      omega
    · rw[if_neg h7]
      have:=payP_len hK ho hf.1 hm
      omega
end Sc
namespace Lo
open D (isI64)
open Ta (linesOf linesOf_len cutP cutE)
structure GLd (w:World):Prop where
 len:∃ m,w.cell? ⟨2,0,none⟩=some (.int .i64 m)
 errs:GErrs w
 bru:GBru w
 pow:Lib.TabIs prog w "internal/strconv.uint64pow10" .u64 Lib.pow10Tab
theorem pow_named:prog.globalNamed "internal/strconv.uint64pow10" = some 7:=by kernel_rfl
theorem GLd.later {w w':World} (h:GLd w) (hb:Below w.heap.size w w'):GLd w' where
 len:=by obtain⟨m,hm⟩:=h.len;exact⟨m,(hb.cell (p:=⟨2,0,none⟩) (World.block_lt_of_cell? _ _ hm)).trans hm⟩
 errs:=h.errs.later hb
 bru:=h.bru.later hb
 pow:=var?_below hb pow_named (by have:10<w.heap.size:=World.block_lt_of_cell? _ _ h.bru;omega) h.pow
theorem Split_any (c:UInt8) (s:ByteArray) (hs:s.size≤1048576) (w:World) (hg:GLd w):Calls prog 59 #[.string s,.string ⟨#[c]⟩] w fun e w' =>
 e=.returned (.slice (some ⟨w.heap.size,0,none⟩) (linesOf c s).length (linesOf c s).length)∧Blk w' w.heap.size 9 ((linesOf c s).map Value.string).toArray∧Below w.heap.size w w':=by
 obtain⟨m,hm⟩:=hg.len
 refine(Tryz.strings_Split s ⟨#[c]⟩ m w (by omega) hm (Nat.le_refl 1)).mono ?_
 rintro e w' ⟨rfl,rfl⟩
 rw[linesOf_len]
 exact⟨rfl,Blk.new _ _ _,zr.alloc lr _⟩
theorem Cut_any (s:ByteArray) (hs:s.size≤1048576) (w:World) (hg:GLd w):Calls prog 91 #[.string s,.string ⟨#[59]⟩] w fun e w' =>
 ∃ b,e=.returned (.tuple #[.string (cutP s),.string (cutE s),.bool b])∧Below w.heap.size w w':=by
 obtain⟨m,hm⟩:=hg.len
 refine(Tryz.strings_Cut s ⟨#[59]⟩ m w (by omega) hm).mono ?_
 rintro e w' ⟨rfl,n,rfl⟩
 exact⟨_,rfl,⟨rfl,by simp[World.drewN],rfl,Nat.le_refl _,fun _ _=>rfl⟩⟩
def AtoiPost (e:Ending):Prop:=∃ (a:Int) (v:Value),e=.returned (.tuple #[.int .i64 a,v])∧(v=.nilIface∨∃ T V,v=.iface T V)
theorem Atoi_any (s:ByteArray) (hs:s.size≤1048576) (w:World) (hg:GLd w):Calls prog 88 #[.string s] w fun e w'=>AtoiPost e∧Below w.heap.size w w':=by
 obtain⟨⟨e1,a1,b1⟩,e2,a2,b2⟩:=hg.errs
 cases h:Lib.atoiAll s.data.toList
 · rename_i v
   refine(Tryz.strconv_Atoi_ok s (by omega) v h w).mono ?_
   rintro e w' ⟨rfl,rfl | ⟨t,rfl⟩⟩
   · exact⟨⟨v,_,rfl,.inl rfl⟩,zr⟩
   · exact⟨⟨v,_,rfl,.inl rfl⟩,Lib.bytesWorld_below _ _ _⟩
 · refine(Any.strconv_Atoi_syntax Tryz.laysC172 s (by omega) h e1 w a1 b1).mono ?_
   rintro e w' ⟨N,rfl,_,_,hb⟩
   exact⟨⟨_,_,rfl,.inr ⟨_,_,rfl⟩⟩,hb⟩
 · refine(Tryz.strconv_Atoi_range s (by omega) h e2 w a2 b2).mono ?_
   rintro e w' ⟨N,rfl,_,_,hb⟩
   exact⟨⟨_,_,rfl,.inr ⟨_,_,rfl⟩⟩,hb⟩
theorem Itoa_any (n:Int) (h0:0≤n) (h1:n≤1000) (w:World) (hg:GLd w):Calls prog 89 #[.int .i64 n] w fun e w'=>∃ p:ByteArray,e=.returned (.string p)∧Below w.heap.size w w':=by
 refine(Tryz.strconv_Itoa n (by omega) (by omega) w hg.pow).mono ?_
 rintro e w' ⟨rfl,k,os,rfl⟩
 exact⟨_,rfl,Lib.below_grow _ w lr k os⟩
end Lo
namespace V
theorem VI.one {w:World} {lo hi:Nat} {p:Pt} {v:Value} (h:VI w lo hi p v):v.oneCell'=true:=by cases h<;>rfl
theorem eql_nil (w:World):(binOp .eql 74 (.slice none 0 0) (.slice none 0 0)).run prog w=.ok (.bool true) w:=by kernel_rfl
theorem eql_some (a:Addr) (n cap:Nat) (w:World):(binOp .eql 74 (.slice (some a) n cap) (.slice none 0 0)).run prog w=.ok (.bool false) w:=by kernel_rfl
theorem own_at {w:World} {B g n cap:Nat} {us:List Value} (h:w.ownsRow B 34 1 (.slice (some ⟨g,0,none⟩) n cap) n us) :
 n≤cap∧B≤g∧g<w.heap.size∧∀ j,j<n→∃ u,us[j]?=some u∧w.cell? ⟨g,j,none⟩=some u:=by
 have hlen:=h.1
 rcases h.2 with ⟨h',_⟩ | ⟨g',cap',cur,he,hg,hgg,hnc,_⟩
 · simp at h'
 · simp only [Value.slice.injEq,Option.some.injEq,Addr.mk.injEq,and_true,true_and] at he
   obtain⟨rfl,rfl⟩:=he
   refine⟨hnc,hg,(Array.getElem?_eq_some_iff.1 hgg).1,fun j hj=>⟨us[j]'(by omega),List.getElem?_eq_getElem _,?_⟩⟩
   rw[World.ownsRow.cellAt h j (by omega)]
   exact List.getElem?_eq_getElem _
theorem clone_nil (w:World):Calls prog 44 #[.slice none 0 0] w fun e w'=>e=.returned (.slice none 0 0)∧Below w.heap.size w w':=by
 have f1:=eql_nil
 go_enter func44,ntmps44
 go_wp2_with fail
 go_ret
 exact⟨rfl,zr⟩
theorem clone_row (g n cap:Nat) (us:List Value) (w:World) (B:Nat) (h0:0<n) (hn:n≤1024) (hO:w.ownsRow B 34 1 (.slice (some ⟨g,0,none⟩) n cap) n us) (h1:∀ u∈us,u.oneCell'=true) :
 Calls prog 44 #[.slice (some ⟨g,0,none⟩) n cap] w fun e w' =>
  ∃ g' cap',e=.returned (.slice (some ⟨g',0,none⟩) n cap')∧w'.ownsRow w.heap.size 34 1 (.slice (some ⟨g',0,none⟩) n cap') n us∧Below w.heap.size w w':=by
 have hlen:us.length=n:=by have:=hO.1;omega
 have HO:=zh hO
 have H1:=zh h1
 obtain⟨i0,hinf,hz0,hz1,hz2⟩:=info_parts infoV
 have f1:=eql_some
 clear hO h1
 go_enter func44,ntmps44
 go_wp2_with (at_builtin;refine wpList_append_lies _ rfl (.tmp 5) (.tmp 6) 74 rfl w.heap.size 34 i0 .nilIface 1 16 underlying74 hinf hz0 hz1 hz2 rfl (by decide) (.slice (some ⟨w.heap.size,0,none⟩) 0 0) 0 [] (by simp[Act.eval,Act.put]) (World.ownsRow_lit w #[] 0 lr (by decide) rfl) ⟨g,0,none⟩ n cap us (by simp[Act.eval,Act.put]) (by omega) (World.ownsRow.cells (HO.out.alloc _) rfl) H1.out h0 (by unfold maxLen;omega) (by omega) (by simp) _ rfl ?_;intro g3 cap3 w3 hO3 hg3 hlies hgl)
 have hB:Below w.heap.size w w3:=((Below.refl w.heap.size w).alloc lr _).grown hg3 (by simp) (fun k hk=>by have e:w.heap.size=k:=Option.some.inj hk;omega)
 go_ret
 exact⟨g3,cap3,by simp,by simpa using hO3,hB⟩
def OfPost (l:List Pt) (us:List Value) (w:World) (e:Ending) (w':World):Prop:=∃ t,e=.returned (.tuple #[t,.int .i64 (ofE l)])∧(ofE l≠0→t=.nilIface) ∧
 (ofE l=0→∃ (a:Option Addr) (cap:Nat),t=.iface 118 (.agg #[.slice a l.length cap])∧l.length≤cap∧∀ j,j<l.length→∃ g u,a=some ⟨g,0,none⟩∧w.heap.size≤g∧g<w'.heap.size∧us[j]?=some u∧w'.cell? ⟨g,j,none⟩=some u)∧Below w.heap.size w w'
theorem of_any (l:List Pt) (us:List Value) (s:Value) (w:World) (B:Nat) (hO:w.ownsRow B 34 1 s l.length us) (hl:l.length*72≤140737488351232) (hne:l=[]→s=.slice none 0 0)
 (hv:∀ j (h:j<l.length),∃ u,us[j]?=some u∧VI w 0 w.heap.size l[j] u∧mayB l[j]=true∧depthP l[j]≤16) :
 Calls prog 24 #[s] w (OfPost l us w):=by
 obtain⟨a,cap,rfl⟩:=own_form hO
 have HV:=zh hv
 have HO:=zh hO
 have hE3:=zh (ofE_three l)
 have HN:=zh hne
 clear hv hO hne
 by_cases hbig:1024<l.length
 · have q1:decide ((1024:Int)<(l.length:Int))=true:=decide_eq_true (by omega)
   have HE:=zh (show ofE l=2 by rcases hE3.out with ⟨_,h⟩ | ⟨h,_⟩ | ⟨h,_⟩<;>first | exact h | exact absurd hbig h)
   clear hbig
   go_enter func24,ntmps24
   go_wp2_with fail
   go_ret2
   exact⟨.nilIface,by rw[HE.out];rfl,fun _=>rfl,fun h=>by(rw[HE.out] at h;cases h),zr⟩
 have q1:decide ((1024:Int)<(l.length:Int))=false:=decide_eq_false (by omega)
 go_enter func24,ntmps24
 go_wp2_with fail
 go_loopw [11] (fun i wr=>∃ k:Nat,k≤l.length∧i=.int .i64 k∧RowKit.Hid (∀ j (h:j<l.length),j<k→depthP l[j]<16)∧Below w.heap.size w wr) (fun i _=>l.length-(intOf i).toNat)
 case atStart=>exact⟨0,Nat.zero_le _,rfl,zh fun j _ h=>by omega,zr⟩
 case round =>
  obtain⟨k,hkl,rfl,HK,hB⟩:=hrel
  by_cases hlt:k<l.length
  · have q3:decide (k<l.length)=true:=by simpa using hlt
    obtain⟨u,hu,hvi,hm,hd⟩:=HV.out k hlt
    rcases HO.out.2 with ⟨_,hn⟩ | ⟨g,cap',cur,he,_,_⟩
    · omega
    simp only [Value.slice.injEq,true_and] at he
    obtain⟨rfl,rfl⟩:=he
    have hcell:w.cell? ⟨g,k,none⟩=some u:=by
     have:=World.ownsRow.cells HO.out (g:=g) rfl k u hu
     have e:(⟨g,0,none⟩:Addr).add k=⟨g,k,none⟩:=by unfold Addr.add;split<;>simp_all
     rw[e] at this
     exact this
    have hcell2:=keeps hB hcell
    obtain⟨q,hq⟩:∃ q,l[k]=q:=⟨_,rfl⟩
    rw[hq] at hvi hm hd
    have HQ:=zh hq
    have HM:=zh hm
    have HVI:=zh (hvi.later hB)
    clear hq hvi hm hcell hu
    go_wp2_with fail
    refine(Depth_any q u _ HM.out (by omega) HVI.out).mono ?_
    rintro e w1 ⟨rfl,hb1⟩
    have hB1:=hB.trans (hb1.mono hB.size)
    by_cases hdp:16≤depthP q
    · have q4:decide ((16:Int)≤(depthP q:Int))=true:=decide_eq_true (by omega)
      have HE:=zh (show ofE l=91 by
       rcases hE3.out with ⟨h,_⟩ | ⟨_,_,h⟩ | ⟨_,h,_⟩
       · exact absurd h hbig
       · exact h
       · have:=deepT.2 ⟨l[k],List.getElem_mem hlt,by rw[HQ.out];exact hdp⟩
         rw[h] at this;cases this)
      clear hdp
      go_wp2_with fail
      go_ret2
      exact⟨.nilIface,by rw[HE.out];rfl,fun _=>rfl,fun h=>by(rw[HE.out] at h;cases h),hB1⟩
    · have q4:decide ((16:Int)≤(depthP q:Int))=false:=decide_eq_false (by omega)
      have hdq:depthP q<16:=by omega
      have HK2:RowKit.Hid (∀ j (h:j<l.length),j<k+1→depthP l[j]<16):=zh fun j hj hjk=>by
       by_cases e:j=k
       · subst e;rw[HQ.out];exact hdq
       · exact HK.out j hj (by omega)
      clear hdp hdq
      go_wp2_with fail
      refine⟨?_,by simp[intOf];omega⟩
      first
       | exact⟨k+1,by omega,rfl,HK2,hB1⟩
       | ((repeat apply Exists.intro);exact⟨⟨k+1,by omega,rfl,HK2,hB1⟩,rfl⟩)
  · have q3:decide (k<l.length)=false:=by simpa using hlt
    have HE:=zh (show ofE l=0 by
     rcases hE3.out with ⟨h,_⟩ | ⟨_,h,_⟩ | ⟨_,_,h⟩
     · exact absurd h hbig
     · obtain⟨q,hq,hd⟩:=deepT.1 h
       obtain⟨j,hj,rfl⟩:=List.getElem_of_mem hq
       have:=HK.out j hj (by omega)
       omega
     · exact h)
    rcases HO.out.2 with ⟨hs,hn⟩ | ⟨g,cap',cur,he,_,hgg,_⟩
    · obtain⟨rfl,_,rfl⟩:a=none∧l.length=0∧cap=0:=by simpa using hs
      obtain rfl:l=[]:=List.eq_nil_of_length_eq_zero hn
      clear hn hs
      go_wp2_with fail
      refine(clone_nil _).mono ?_
      rintro e w1 ⟨rfl,hb1⟩
      go_wp2_with fail
      go_ret2
      exact⟨_,by rw[HE.out];rfl,fun h=>absurd HE.out h,fun _=>⟨none,0,rfl,Nat.le_refl _,fun j hj=>by cases hj⟩,two hB hb1⟩
    · simp only [Value.slice.injEq,true_and] at he
      obtain⟨rfl,rfl⟩:=he
      have h1:∀ u∈us,u.oneCell'=true:=fun u hu=>by
       obtain⟨j,hj,rfl⟩:=List.getElem_of_mem hu
       have hl1:=HO.out.1
       obtain⟨u',hu',hvi,_,_⟩:=HV.out j (by omega)
       rw[List.getElem?_eq_getElem hj] at hu'
       rw[Option.some.inj hu']
       exact hvi.one
      by_cases h0:0<l.length
      · have hO1:=own_below HO.out hB
        clear hgg
        have q5:decide (k<l.length)=false:=q3
        go_wp2_with fail
        refine(clone_row g l.length cap us _ B h0 (by omega) hO1 h1).mono ?_
        rintro e w1 ⟨g2,cap2,rfl,hO2,hb1⟩
        obtain⟨k1,k2,k3,k4⟩:=own_at hO2
        have hsz:w.heap.size≤wr.heap.size:=hB.size
        have K4:=zh k4
        clear k4 hO2 hO1 h1
        go_wp2_with fail
        go_ret2
        exact⟨_,by rw[HE.out];rfl,fun h=>absurd HE.out h,fun _=>⟨some ⟨g2,0,none⟩,cap2,rfl,k1,fun j hj=>by
         obtain⟨u,hu,hc⟩:=K4.out j hj
         exact⟨g2,u,rfl,by omega,k3,hu,hc⟩⟩,hB.trans (hb1.mono hsz)⟩
      · obtain rfl:l=[]:=List.eq_nil_of_length_eq_zero (by omega)
        have:=HN.out rfl
        simp at this
