import Derived.Test.YtcgnajeenflfaaaGreatDoorP24
set_option maxRecDepth 100000
set_option maxHeartbeats 4000000
set_option linter.all false
open Go.Proofs.Tryz Go.RowKit
namespace Go.Proofs.YtcgnajeenflfaaaGreatDoor
namespace Sc
open V (Pt depthP depthL mayB okOne)
open We (Co)
open Es (esc un)
def flips (d:Bool) (l:List UInt8):List UInt8:=l.map (fl d)
theorem flips_flips (d:Bool) (l:List UInt8):flips d (flips d l)=l:=map_fl_fl d l
theorem flips_app (d:Bool) (l m:List UInt8):flips d (l++m)=flips d l++flips d m:=List.map_append
def nullB (f:Fd):UInt8:=if f.nulls=1 then 2 else 125
def tagB (f:Fd):UInt8:=UInt8.ofNat (16+f.kind+(if f.down then 16 else 0))
def modeB (c:Co):UInt8:=UInt8.ofNat (32+c.str.toNat+(if c.sh then 4 else 0)+(if c.back then 8 else 0))
def escB (l:List UInt8):List UInt8:=esc l++[0,1]
def pNull:Pt:=.mk 0 false false .empty .empty []
def payP (K:Co→ByteArray→List UInt8) (f:Fd) (p:Pt):List UInt8 :=
 if p.kind=1 then [if p.yes then 1 else 0]
 else if p.kind=2 then putBytes p.neg p.mag.toList
 else if f.kind=4 then p.raw.toList
 else if f.kind=6 then modeB f.co::(K f.co p.raw++escB p.raw.toList)
 else escB p.raw.toList
mutual
def encF (K:Co→ByteArray→List UInt8):Fd→Pt→List UInt8
 | .mk n k d u b lb lm hb hm m c l=>fun p =>
  let f:=Fd.mk n k d u b lb lm hb hm m c l
  if p.kind=0 then [nullB f]
  else tagB f::flips d (if p.kind=7 then encL K l p.items++[1] else payP K f p)
def encL (K:Co→ByteArray→List UInt8):List Fd→List Pt→List UInt8
 | []=>fun _=>[]
 | f::r=>fun ps=>encF K f (ps.head?.getD pNull)++encL K r ps.tail
end
theorem encF_eq (K:Co→ByteArray→List UInt8) (f:Fd) (p:Pt):encF K f p=if p.kind=0 then [nullB f] else tagB f::flips f.down (if p.kind=7 then encL K f.fields p.items++[1] else payP K f p):=by
 cases f;rw[encF];rfl
theorem encL_nil (K:Co→ByteArray→List UInt8) (ps:List Pt):encL K [] ps=[]:=by rw[encL]
theorem encL_cons (K:Co→ByteArray→List UInt8) (f:Fd) (r:List Fd) (ps:List Pt):encL K (f::r) ps=encF K f (ps.head?.getD pNull)++encL K r ps.tail:=by rw[encL]
def inBnd (f:Fd) (b:Bool) (m:List UInt8):Bool:=!f.bnd || (decide (0≤ncmp b m f.lob f.lom.toList)&&decide (ncmp b m f.hib f.him.toList≤0))
def fitP (f:Fd) (p:Pt):Bool :=
 if p.kind=2 then inBnd f p.neg p.mag.toList
 else (!(p.kind==3 || p.kind==5) || decide ((p.raw.size:Int)≤f.most))&&(!(p.kind==5 || p.kind==6) || decide (U.checkS p.raw<0))
mutual
def fitF:Fd→Pt→Bool
 | .mk n k d u b lb lm hb hm m c l=>fun p =>
  if p.kind=0 then !(u==0)
  else p.kind==k&&(if p.kind=7 then p.items.length==l.length&&fitL l p.items else fitP (.mk n k d u b lb lm hb hm m c l) p)
def fitL:List Fd→List Pt→Bool
 | []=>fun _=>true
 | f::r=>fun ps=>fitF f (ps.head?.getD pNull)&&fitL r ps.tail
end
theorem fitF_eq (f:Fd) (p:Pt):fitF f p=if p.kind=0 then !(f.nulls==0) else p.kind==f.kind&&(if p.kind=7 then p.items.length==f.fields.length&&fitL f.fields p.items else fitP f p):=by
 cases f;rw[fitF];rfl
theorem fitL_nil (ps:List Pt):fitL [] ps=true:=by rw[fitL]
theorem fitL_cons (f:Fd) (r:List Fd) (ps:List Pt):fitL (f::r) ps=(fitF f (ps.head?.getD pNull)&&fitL r ps.tail):=by rw[fitL]
def lenNum:List UInt8→Option Nat
 | []=>none
 | c::r =>
  if c=255∨c=1 then match r with
   | []=>none
   | n::_=>some (2+(if c=1 then 255-n.toNat else n.toNat))
  else some (1+(if 128≤c.toNat then c.toNat-128 else if 1<c.toNat then 128-c.toNat else 0))
def rdNum (f:Fd) (l:List UInt8):Option (Pt×List UInt8) :=
 match lenNum l with
 | none=>none
 | some n=>if l.length<n then none else match takeE (l.take n) 0 with
  | .error _=>none
  | .ok (b,m,k)=>if k=n∧inBnd f b m=true then some (.mk 2 false b ⟨m.toArray⟩ .empty [],l.drop n) else none
def rdEsc (l:List UInt8):Option (List UInt8×List UInt8):=if (un l).2.2=0 then some ((un l).1,l.drop (un l).2.1) else none
def rdKey:List UInt8→Nat→Option (List UInt8×List UInt8)
 | l,0=>some ([],l)
 | a::b::r,n+1=>if a=0∧b=0 then (rdKey r n).map fun x=>(a::b::x.1,x.2) else (rdKey r (n+1)).map fun x=>(a::b::x.1,x.2)
 | _,_+1=>none
def rdText (K:Co→ByteArray→List UInt8) (f:Fd):List UInt8→Option (Pt×List UInt8)
 | []=>none
 | c::r=>if c≠modeB f.co then none else match rdKey r f.co.str.toNat with
  | none=>none
  | some (k,r1)=>match rdEsc r1 with
   | none=>none
   | some (s,r2)=>if s.length≤65536∧U.checkS ⟨s.toArray⟩<0∧K f.co ⟨s.toArray⟩=k then some (.mk 6 false false .empty ⟨s.toArray⟩ [],r2) else none
def rdP (K:Co→ByteArray→List UInt8) (f:Fd) (l:List UInt8):Option (Pt×List UInt8) :=
 if f.kind=1 then match l with
  | []=>none
  | c::r=>if c≤1 then some (.mk 1 (c==1) false .empty .empty [],r) else none
 else if f.kind=2 then rdNum f l
 else if f.kind=4 then if 16≤l.length then some (.mk 4 false false .empty ⟨(l.take 16).toArray⟩ [],l.drop 16) else none
 else if f.kind=6 then rdText K f l
 else match rdEsc l with
  | none=>none
  | some (s,r)=>if (s.length:Int)≤f.most∧(f.kind=5→U.checkS ⟨s.toArray⟩<0) then some (.mk f.kind false false .empty ⟨s.toArray⟩ [],r) else none
def rdEnd (ps:List Pt):List UInt8→Option (Pt×List UInt8)
 | []=>none
 | c::r=>if c=1 then some (.mk 7 false false .empty .empty ps,r) else none
mutual
def rdF (K:Co→ByteArray→List UInt8):Fd→List UInt8→Option (Pt×List UInt8)
 | .mk n k d u b lb lm hb hm m c l=>fun s =>
  let f:=Fd.mk n k d u b lb lm hb hm m c l
  match s with
  | []=>none
  | t::r =>
   if t=nullB f∧u≠0 then some (pNull,r)
   else if t≠tagB f then none
   else (if k=7 then (rdL K l (flips d r)).bind fun x=>rdEnd x.1 x.2 else rdP K f (flips d r)).map fun x=>(x.1,flips d x.2)
def rdL (K:Co→ByteArray→List UInt8):List Fd→List UInt8→Option (List Pt×List UInt8)
 | []=>fun s=>some ([],s)
 | f::r=>fun s=>(rdF K f s).bind fun x=>(rdL K r x.2).map fun y=>(x.1::y.1,y.2)
end
def rdPay (K:Co→ByteArray→List UInt8) (f:Fd) (s:List UInt8):Option (Pt×List UInt8):=if f.kind=7 then (rdL K f.fields s).bind fun x=>rdEnd x.1 x.2 else rdP K f s
theorem rdF_nil (K:Co→ByteArray→List UInt8) (f:Fd):rdF K f []=none:=by cases f;rw[rdF]
theorem rdF_cons (K:Co→ByteArray→List UInt8) (f:Fd) (t:UInt8) (r:List UInt8):rdF K f (t::r) =
 if t=nullB f∧f.nulls≠0 then some (pNull,r) else if t≠tagB f then none else (rdPay K f (flips f.down r)).map fun x=>(x.1,flips f.down x.2):=by
 cases f;rw[rdF];rfl
theorem rdL_nil (K:Co→ByteArray→List UInt8) (s:List UInt8):rdL K [] s=some ([],s):=by rw[rdL]
theorem rdL_cons (K:Co→ByteArray→List UInt8) (f:Fd) (r:List Fd) (s:List UInt8):rdL K (f::r) s=(rdF K f s).bind fun x=>(rdL K r x.2).map fun y=>(x.1::y.1,y.2):=by rw[rdL]
open V (Pt depthP depthL mayB okOne depthP_eq depthL_le mayB_eq mayB_ok)
open Es (esc un un_esc esc_un un_le)
theorem toList_mk (m:List UInt8):(⟨m.toArray⟩:ByteArray).toList=m:=by rw[Lib.toList_data]
theorem mk_toList (s:ByteArray):(⟨s.toList.toArray⟩:ByteArray)=s:=ba_eq (by rw[Lib.toList_data])
theorem size_mk (m:List UInt8):(⟨m.toArray⟩:ByteArray).size=m.length:=by rw[← V.size_of,toList_mk]
theorem empty_of {s:ByteArray} (h:s.toList.isEmpty=true):s=.empty:=ba_eq (by rw[← Lib.toList_data,List.isEmpty_iff.1 h];rfl)
theorem toList_empty:(ByteArray.empty).toList=[]:=by rw[Lib.toList_data];rfl
theorem u8ne {n:Nat} {k:UInt8} (h:n<256) (hk:n≠k.toNat):UInt8.ofNat n≠k:=fun e=>hk (by rw[← e,u8n n h])
theorem lenNum_put {b:Bool} {m:List UInt8} (h:chk b m=0) (r:List UInt8):lenNum (putBytes b m++r)=some (putBytes b m).length:=by
 obtain⟨h1,h2,h3⟩:=chk_zero_iff.1 h
 unfold putBytes putHead
 cases b
 · by_cases hk:m.length≤126
   · simp only [hk,if_true,Bool.false_eq_true,if_false,List.cons_append,List.nil_append,lenNum]
     rw[if_neg (by
      rintro (e | e)
      · exact u8ne (by omega) (by have h255:(255:UInt8).toNat=255:=rfl;omega) e
      · exact u8ne (by omega) (by have h255:(1:UInt8).toNat=1:=rfl;omega) e),u8n (128+m.length) (by omega),if_pos (by omega)]
     simp only [List.length_cons]
     exact congrArg some (by omega)
   · simp only [hk,Bool.false_eq_true,if_false,List.cons_append,List.nil_append,lenNum,true_or,if_true]
     rw[if_neg (show ¬ (255:UInt8)=1 by decide),u8n m.length (by omega)]
     simp only [List.length_cons]
     exact congrArg some (by omega)
 · have hm:m.length≠0:=fun e=>by cases h2 (List.eq_nil_of_length_eq_zero e)
   by_cases hk:m.length≤126
   · simp only [hk,if_true,List.cons_append,List.nil_append,lenNum]
     rw[if_neg (by
      rintro (e | e)
      · exact u8ne (by omega) (by have h255:(255:UInt8).toNat=255:=rfl;omega) e
      · exact u8ne (by omega) (by have h255:(1:UInt8).toNat=1:=rfl;omega) e),u8n (128-m.length) (by omega),if_neg (by omega),if_pos (by omega)]
     simp only [List.length_cons,List.length_map]
     exact congrArg some (by omega)
   · simp only [hk,if_true,if_false,List.cons_append,List.nil_append,lenNum,or_true]
     rw[u8n (255-m.length) (by omega)]
     simp only [List.length_cons,List.length_map]
     exact congrArg some (by omega)
theorem rdNum_sound {f:Fd} {l r:List UInt8} {p:Pt} (h:rdNum f l=some (p,r)):∃ b m,p=.mk 2 false b ⟨m.toArray⟩ .empty []∧l=putBytes b m++r∧chk b m=0∧inBnd f b m=true:=by
 unfold rdNum at h
 split at h
 · cases h
 · next n hn =>
   split at h
   · cases h
   · next hl =>
     split at h
     · cases h
     · next b m k ht =>
       split at h
       · next hk =>
         injection h with h
         injection h with h1 h2
         subst h1 h2
         obtain⟨a1,a2,a3,a4⟩:=takeE_reads ht
         refine⟨b,m,rfl,?_,a1,hk.2⟩
         rw[a4,List.drop_zero,Nat.sub_zero,hk.1,List.take_take,Nat.min_self,List.take_append_drop]
       · cases h
theorem rdNum_put {f:Fd} {b:Bool} {m:List UInt8} (r:List UInt8) (h:chk b m=0) (hi:inBnd f b m=true):rdNum f (putBytes b m++r)=some (.mk 2 false b ⟨m.toArray⟩ .empty [],r):=by
 have ht:=takeE_put h [] []
 simp only [List.nil_append,List.append_nil,List.length_nil,Nat.zero_add] at ht
 unfold rdNum
 rw[lenNum_put h]
 simp only [List.take_left',List.drop_left',ht,hi,and_self,if_true]
 rw[if_neg (by rw[List.length_append];omega)]
theorem rdEsc_sound {l s r:List UInt8} (h:rdEsc l=some (s,r)):l=escB s++r:=by
 unfold rdEsc at h
 split at h
 · next hu =>
   injection h with h
   injection h with h1 h2
   subst h1 h2
   rw[escB,← esc_un l hu,List.take_append_drop]
 · cases h
theorem rdEsc_put (s r:List UInt8):rdEsc (escB s++r)=some (s,r):=by
 have h:=un_esc s r
 have he:escB s++r=esc s++0::1::r:=by simp[escB]
 unfold rdEsc
 rw[he,h]
 simp only [if_true]
 congr 2
 rw[show esc s++0::1::r=(esc s++[0,1])++r by simp,List.drop_left' (by simp)]
theorem rdKey_sound:∀ (l:List UInt8) (n:Nat) (k r:List UInt8),rdKey l n=some (k,r)→l=k++r:=by
 intro l n
 fun_induction rdKey l n with
 | case1 l=>intro k r h;injection h with h;injection h with h1 h2;subst h1 h2;rfl
 | case2 a b r' n hab ih =>
  intro k r h
  cases hx:rdKey r' n with
  | none=>rw[hx] at h;cases h
  | some x =>
   rw[hx] at h
   injection h with h
   injection h with h1 h2
   subst h1 h2
   rw[ih _ _ hx]
   rfl
 | case3 a b r' n hab ih =>
  intro k r h
  cases hx:rdKey r' (n+1) with
  | none=>rw[hx] at h;cases h
  | some x =>
   rw[hx] at h
   injection h with h
   injection h with h1 h2
   subst h1 h2
   rw[ih _ _ hx]
   rfl
 | case4=>intro k r h;cases h
def KeyOk (K:Co→ByteArray→List UInt8):Prop:=∀ c s r,c.ok→s.size≤65536→U.checkS s<0→rdKey (K c s++r) c.str.toNat=some (K c s,r)
theorem rdText_sound {K:Co→ByteArray→List UInt8} {f:Fd} {l r:List UInt8} {p:Pt} (h:rdText K f l=some (p,r)) :
 ∃ s,p=.mk 6 false false .empty s []∧l=(modeB f.co::(K f.co s++escB s.toList))++r∧s.size≤65536∧U.checkS s<0:=by
 unfold rdText at h
 split at h
 · cases h
 · next c t =>
   split at h
   · cases h
   · next hc =>
     have hc2:c=modeB f.co:=by simpa using hc
     split at h
     · cases h
     · next k r1 hk =>
       split at h
       · cases h
       · next s r2 hs =>
         split at h
         · next ho =>
           injection h with h
           injection h with h1 h2
           subst h1 h2
           refine⟨_,rfl,?_,by rw[size_mk];exact ho.1,ho.2.1⟩
           rw[rdKey_sound _ _ _ _ hk,rdEsc_sound hs,toList_mk,ho.2.2,hc2]
           simp
         · cases h
theorem rdText_put {K:Co→ByteArray→List UInt8} (hK:KeyOk K) {f:Fd} {s:ByteArray} (r:List UInt8) (hc:f.co.ok) (h1:s.size≤65536) (h2:U.checkS s<0) :
 rdText K f ((modeB f.co::(K f.co s++escB s.toList))++r)=some (.mk 6 false false .empty s [],r):=by
 rw[List.cons_append,List.append_assoc]
 unfold rdText
 simp only [ne_eq,not_true_eq_false,if_false]
 rw[hK f.co s _ hc h1 h2]
 simp only
 rw[rdEsc_put]
 simp only [mk_toList]
 rw[if_pos ⟨by rw[V.size_of];exact h1,h2,trivial⟩]
theorem odd_not {f:Fd} (h:oddM f=false):(1≤f.kind∧f.kind≤7∧f.nulls≤2)∧((f.kind=3∨f.kind=5)→0≤f.most∧f.most≤65536)∧(f.kind=6→f.co.ok)∧(f.kind≠7→f.fields=[]):=by
 unfold oddM at h
 split at h
 · cases h
 · next h1 =>
   split at h
   · cases h
   · next h2 =>
     simp only [not_or] at h1 h2
     refine⟨by omega,fun h35=>?_,fun h6=>?_,fun h7=>?_⟩
     · rw[if_neg (by omega),if_pos h35] at h
       simp only [decide_eq_false_iff_not] at h
       omega
     · rw[if_neg (by omega),if_neg (by omega),if_pos h6] at h
       simpa using h
     · exact Classical.not_not.1 fun hf=>h2.2.2.2 ⟨h7,hf⟩
theorem okOne_num {b:Bool} {m:List UInt8} (h:chk b m=0):okOne (.mk 2 false b ⟨m.toArray⟩ .empty [])=true:=by
 have hc:V.chk b m=0:=h
 simp[okOne,V.Pt.kind,V.Pt.yes,V.Pt.neg,V.Pt.mag,V.Pt.raw,V.Pt.items,toList_mk,hc,toList_empty]
theorem okOne_raw {k:Nat} {s:ByteArray} (hk:k=3∨k=5∨k=6) (h:s.size≤65536):okOne (.mk k false false .empty s [])=true:=by
 rcases hk with rfl | rfl | rfl<;>simp[okOne,V.Pt.kind,V.Pt.yes,V.Pt.neg,V.Pt.mag,V.Pt.raw,V.Pt.items,h,toList_empty]
theorem okOne_id {s:ByteArray} (h:s.size=16):okOne (.mk 4 false false .empty s [])=true:=by
 simp[okOne,V.Pt.kind,V.Pt.yes,V.Pt.neg,V.Pt.mag,V.Pt.raw,V.Pt.items,h,toList_empty]
theorem may_flat {p:Pt} (h:okOne p=true) (hi:p.items=[]):mayB p=true:=by rw[mayB_eq,h,hi];simp
theorem rdP_sound {K:Co→ByteArray→List UInt8} {f:Fd} {l r:List UInt8} {p:Pt} (ho:oddM f=false) (h7:f.kind≠7) (h:rdP K f l=some (p,r)) :
 p.kind=f.kind∧l=payP K f p++r∧fitP f p=true∧mayB p=true:=by
 obtain⟨hk,hm,hc,_⟩:=odd_not ho
 unfold rdP at h
 split at h
 · next h1 =>
   split at h
   · cases h
   · next c t =>
     split at h
     · next hc1 =>
       injection h with h
       injection h with e1 e2
       subst e1 e2
       have hcc:c=0∨c=1:=by
        have:c.toNat≤1:=hc1
        rcases (by omega:c.toNat=0∨c.toNat=1) with h | h
        · exact .inl (UInt8.toNat_inj.1 h)
        · exact .inr (UInt8.toNat_inj.1 h)
       refine⟨h1.symm,?_,by simp[fitP,V.Pt.kind],?_⟩
       · rcases hcc with rfl | rfl<;>rfl
       · exact may_flat (by simp[okOne,V.Pt.kind,V.Pt.yes,V.Pt.neg,V.Pt.mag,V.Pt.raw,V.Pt.items,toList_empty]) rfl
     · cases h
 · next h1 =>
   split at h
   · next h2 =>
     obtain⟨b,m,rfl,e1,e2,e3⟩:=rdNum_sound h
     refine⟨h2.symm,by rw[e1];simp only [payP,V.Pt.kind,V.Pt.neg,V.Pt.mag,toList_mk];rfl,?_,may_flat (okOne_num e2) rfl⟩
     simp only [fitP,V.Pt.kind,V.Pt.neg,V.Pt.mag,toList_mk,if_true]
     exact e3
   · next h2 =>
     split at h
     · next h4 =>
       split at h
       · next hl =>
         injection h with h
         injection h with e1 e2
         subst e1 e2
         refine⟨h4.symm,?_,by simp[fitP,V.Pt.kind],may_flat (okOne_id (by rw[size_mk,List.length_take];omega)) rfl⟩
         simp only [payP,V.Pt.kind,V.Pt.raw,toList_mk,h4]
         exact(List.take_append_drop 16 l).symm
       · cases h
     · next h4 =>
       split at h
       · next h6 =>
         obtain⟨s,rfl,e1,e2,e3⟩:=rdText_sound h
         refine⟨h6.symm,?_,?_,may_flat (okOne_raw (.inr (.inr rfl)) e2) rfl⟩
         · rw[e1];simp only [payP,V.Pt.kind,V.Pt.raw,h6];rfl
         · simp[fitP,V.Pt.kind,V.Pt.raw,e3]
       · next h6 =>
         split at h
         · cases h
         · next s t hs =>
           split at h
           · next hst =>
             injection h with h
             injection h with e1 e2
             subst e1 e2
             have hk35:f.kind=3∨f.kind=5:=by omega
             have hm2:=hm hk35
             refine⟨rfl,?_,?_,may_flat (okOne_raw (by omega) (by rw[size_mk];omega)) rfl⟩
             · rw[rdEsc_sound hs]
               simp only [payP,V.Pt.kind,V.Pt.raw,toList_mk,if_neg h1,if_neg h2,if_neg h4,if_neg h6]
             · simp only [fitP,V.Pt.kind,V.Pt.raw,size_mk,if_neg h2,hst.1,decide_true,Bool.or_true,Bool.true_and]
               rcases hk35 with e | e
               · rw[e];rfl
               · simp[hst.2 e]
           · cases h
theorem canon {p:Pt} (h:okOne p=true):p.kind≤7∧(p.kind≠1→p.yes=false)∧(p.kind≠2→p.neg=false∧p.mag=.empty)∧(p.kind≠7→p.items=[]) ∧
 (p.kind=2→chk p.neg p.mag.toList=0)∧(p.kind=4→p.raw.size=16)∧((p.kind=3∨p.kind=5∨p.kind=6)→p.raw.size≤65536)∧((p.kind=0∨p.kind=1∨p.kind=2∨p.kind=7)→p.raw=.empty):=by
 simp only [okOne,Bool.and_eq_true,Bool.or_eq_true,decide_eq_true_eq,beq_iff_eq,Bool.not_eq_true'] at h
 obtain⟨⟨⟨⟨h1,h2⟩,h3⟩,h4⟩,h5⟩:=h
 refine⟨h1,fun hk=>h2.resolve_left hk,fun hk=>?_,fun hk=>?_,fun hk=>?_,fun hk=>?_,fun hk=>?_,fun hk=>?_⟩
 · obtain⟨a,b⟩:=h3.resolve_left hk
   exact⟨a,empty_of b⟩
 · exact List.isEmpty_iff.1 (h4.resolve_left hk)
 · rw[if_pos hk] at h5
   simp only [Bool.and_eq_true,beq_iff_eq] at h5
   exact h5.2
 · rw[if_neg (by omega),if_pos hk] at h5
   simpa using h5
 · rw[if_neg (by omega),if_neg (by omega),if_pos hk] at h5
   simpa using h5
 · rcases hk with hk | hk | hk | hk
   · rw[if_neg (by omega),if_neg (by omega),if_neg (by omega),if_neg (by omega)] at h5
     exact empty_of h5
   · rw[if_neg (by omega),if_neg (by omega),if_neg (by omega),if_neg (by omega)] at h5
     exact empty_of h5
   · rw[if_pos hk] at h5
     simp only [Bool.and_eq_true] at h5
     exact empty_of h5.1
   · rw[if_neg (by omega),if_neg (by omega),if_neg (by omega),if_pos hk] at h5
     simp only [Bool.and_eq_true] at h5
     exact empty_of h5.1
theorem canon_flat {p:Pt} (h:okOne p=true) (h1:p.kind≠1) (h2:p.kind≠2) (h7:p.kind≠7):p=.mk p.kind false false .empty p.raw []:=by
 obtain⟨_,a,b,c,_⟩:=canon h
 conv=>lhs;rw[V.Pt.eta p,a h1,(b h2).1,(b h2).2,c h7]
theorem rdP_put {K:Co→ByteArray→List UInt8} (hK:KeyOk K) {f:Fd} {p:Pt} (r:List UInt8) (ho:oddM f=false) (h7:f.kind≠7) (hk:p.kind=f.kind) (hf:fitP f p=true) (hm:mayB p=true) :
 rdP K f (payP K f p++r)=some (p,r):=by
 obtain⟨hk1,hm1,hc1,_⟩:=odd_not ho
 have h1:=mayB_ok hm
 obtain⟨_,c1,c2,c7,cn,c4,cr,ce⟩:=canon h1
 by_cases e1:f.kind=1
 · have hp:p=.mk 1 p.yes false .empty .empty []:=by
    conv=>lhs;rw[V.Pt.eta p,hk,e1,(c2 (by omega)).1,(c2 (by omega)).2,c7 (by omega),ce (by omega)]
   have he:payP K f p=[if p.yes then 1 else 0]:=by unfold payP;rw[if_pos (hk.trans e1)]
   rw[he]
   unfold rdP
   rw[if_pos e1]
   conv=>rhs;rw[hp]
   cases p.yes<;>rfl
 by_cases e2:f.kind=2
 · have hb:inBnd f p.neg p.mag.toList=true:=by
    unfold fitP at hf
    rwa [if_pos (hk.trans e2)] at hf
   have he:payP K f p=putBytes p.neg p.mag.toList:=by unfold payP;rw[if_neg (by omega),if_pos (hk.trans e2)]
   rw[he]
   unfold rdP
   rw[if_neg e1,if_pos e2,rdNum_put r (cn (by omega)) hb,mk_toList]
   congr 2
   conv=>rhs;rw[V.Pt.eta p,hk,e2,c1 (by omega),c7 (by omega),ce (by omega)]
 have hp:=canon_flat h1 (by omega) (by omega) (by omega)
 by_cases e4:f.kind=4
 · have h16:=c4 (by omega)
   have hl:p.raw.toList.length=16:=by rw[V.size_of,h16]
   have he:payP K f p=p.raw.toList:=by unfold payP;rw[if_neg (by omega),if_neg (by omega),if_pos e4]
   rw[he]
   unfold rdP
   rw[if_neg e1,if_neg e2,if_pos e4,if_pos (by rw[List.length_append];omega),List.take_left' hl,List.drop_left' hl,mk_toList]
   conv=>rhs;rw[hp,hk,e4]
 by_cases e6:f.kind=6
 · have hu:U.checkS p.raw<0:=by
    unfold fitP at hf
    rw[if_neg (by omega),hk,e6] at hf
    simpa using hf
   have he:payP K f p=modeB f.co::(K f.co p.raw++escB p.raw.toList):=by unfold payP;rw[if_neg (by omega),if_neg (by omega),if_neg e4,if_pos e6]
   rw[he]
   unfold rdP
   rw[if_neg e1,if_neg e2,if_neg e4,if_pos e6,rdText_put hK r (hc1 e6) (cr (by omega)) hu]
   conv=>rhs;rw[hp,hk,e6]
 have he:payP K f p=escB p.raw.toList:=by unfold payP;rw[if_neg (by omega),if_neg (by omega),if_neg e4,if_neg e6]
 rw[he]
 unfold rdP
 rw[if_neg e1,if_neg e2,if_neg e4,if_neg e6,rdEsc_put]
 have hk35:f.kind=3∨f.kind=5:=by omega
 simp only [mk_toList]
 unfold fitP at hf
 rw[if_neg (by omega)] at hf
 simp only [Bool.and_eq_true,Bool.or_eq_true,decide_eq_true_eq,Bool.not_eq_true',Bool.or_eq_false_iff,beq_eq_false_iff_ne] at hf
 rw[if_pos ⟨by rw[V.size_of];exact hf.1.resolve_left (by omega),fun e5=>hf.2.resolve_left (by omega)⟩]
 conv=>rhs;rw[hp,hk]
theorem tag_null {f:Fd} (h:1≤f.kind∧f.kind≤7∧f.nulls≤2):tagB f≠nullB f:=by
 unfold tagB nullB
 refine u8ne (by split<;>omega) ?_
 have h125:(125:UInt8).toNat=125:=rfl
 have h2:(2:UInt8).toNat=2:=rfl
 split<;>split<;>omega
theorem OkF.lt {d:Nat} {f:Fd} (h:OkF d f):d<16:=by cases h;assumption
theorem rdL_sound {K:Co→ByteArray→List UInt8} (d:Nat):∀ (l:List Fd),(∀ g∈l,∀ d,OkF d g→∀ s p r,rdF K g s=some (p,r)→s=encF K g p++r∧fitF g p=true∧mayB p=true∧depthP p+d≤15)→(∀ g∈l,OkF d g) →
 ∀ s ps r,rdL K l s=some (ps,r)→s=encL K l ps++r∧ps.length=l.length∧fitL l ps=true∧(∀ p∈ps,mayB p=true∧depthP p+d≤15):=by
 intro l
 induction l with
 | nil =>
  intro _ _ s ps r h
  rw[rdL_nil] at h
  injection h with h
  injection h with h1 h2
  subst h1 h2
  exact⟨by rw[encL_nil];rfl,rfl,fitL_nil _,fun p hp=>by cases hp⟩
 | cons f l ih =>
  intro hC hok s ps r h
  rw[rdL_cons] at h
  cases hf:rdF K f s with
  | none=>rw[hf] at h;cases h
  | some x =>
   rw[hf,Option.bind_some] at h
   cases hl:rdL K l x.2 with
   | none=>rw[hl] at h;cases h
   | some y =>
    rw[hl] at h
    injection h with h
    injection h with h1 h2
    subst h1 h2
    obtain⟨a1,a2,a3,a4⟩:=hC f List.mem_cons_self d (hok f List.mem_cons_self) s x.1 x.2 hf
    obtain⟨b1,b2,b3,b4⟩:=ih (fun g hg=>hC g (List.mem_cons_of_mem _ hg)) (fun g hg=>hok g (List.mem_cons_of_mem _ hg)) x.2 y.1 y.2 hl
    refine⟨?_,by rw[List.length_cons,List.length_cons,b2],?_,fun p hp=>?_⟩
    · rw[encL_cons,a1,b1,List.append_assoc];rfl
    · rw[fitL_cons];simp only [List.head?_cons,Option.getD_some,List.tail_cons,a2,b3,Bool.and_self]
    · rcases List.mem_cons.1 hp with rfl | hp
      · exact⟨a3,a4⟩
      · exact b4 p hp
theorem rdF_sound {K:Co→ByteArray→List UInt8} (f:Fd):∀ d,OkF d f→∀ s p r,rdF K f s=some (p,r)→s=encF K f p++r∧fitF f p=true∧mayB p=true∧depthP p+d≤15:=by
 induction f using Fd.ind with
 | h f ih =>
  intro d hok s p r h
  obtain⟨_,_,hd,hn,ho,h7,hl,hin⟩:=hok
  cases s with
  | nil=>rw[rdF_nil] at h;cases h
  | cons t s =>
   rw[rdF_cons] at h
   split at h
   · next ht =>
     injection h with h
     injection h with h1 h2
     subst h1 h2
     refine⟨by rw[encF_eq,ht.1];rfl,?_,may_flat (by simp[pNull,okOne,V.Pt.kind,V.Pt.yes,V.Pt.neg,V.Pt.mag,V.Pt.raw,V.Pt.items,toList_empty]) rfl,by rw[depthP_eq];show 0+d≤15;omega⟩
     rw[fitF_eq]
     simp[pNull,V.Pt.kind,ht.2]
   · split at h
     · cases h
     · next _ ht =>
       have ht2:t=tagB f:=by simpa using ht
       subst ht2
       cases hp:rdPay K f (flips f.down s) with
       | none=>rw[hp] at h;cases h
       | some x =>
        rw[hp] at h
        injection h with h
        injection h with h1 h2
        subst h1 h2
        obtain⟨hk,_⟩:=odd_not ho
        unfold rdPay at hp
        split at hp
        · next e7 =>
          cases hr:rdL K f.fields (flips f.down s) with
          | none=>rw[hr] at hp;cases hp
          | some y =>
           rw[hr,Option.bind_some] at hp
           obtain⟨b1,b2,b3,b4⟩:=rdL_sound (d+1) f.fields ih hin _ y.1 y.2 hr
           unfold rdEnd at hp
           split at hp
           · cases hp
           · next c t hy =>
             split at hp
             · next hc =>
               injection hp with hp
               subst hp
               have hdd:depthL y.1+d+1≤15:=by
                have:=(depthL_le y.1 (15-(d+1))).2 fun p hp=>by have:=(b4 p hp).2;omega
                obtain⟨g,hg⟩:=List.exists_mem_of_ne_nil _ (h7 e7)
                have:=(hin g hg).lt
                omega
               refine⟨?_,?_,?_,?_⟩
               · rw[encF_eq]
                 simp only [V.Pt.kind,V.Pt.items]
                 rw[if_neg (by decide),if_pos trivial]
                 rw[hy,hc] at b1
                 have h3:=congrArg (flips f.down) b1
                 rw[flips_flips] at h3
                 rw[List.cons_append,← flips_app,List.append_assoc]
                 exact congrArg _ h3
               · rw[fitF_eq]
                 simp only [V.Pt.kind,V.Pt.items]
                 rw[if_neg (by decide),if_pos trivial,e7,b2,b3]
                 simp
               · rw[mayB_eq]
                 simp only [V.Pt.kind,V.Pt.items,Bool.and_eq_true,List.all_eq_true,beq_self_eq_true,Bool.not_true,Bool.false_or]
                 refine⟨?_,fun p hp=>(b4 p hp).1⟩
                 have:y.1.length≤1024:=by omega
                 simp[okOne,V.Pt.kind,V.Pt.yes,V.Pt.neg,V.Pt.mag,V.Pt.raw,V.Pt.items,toList_empty,this]
               · rw[depthP_eq]
                 simp only [V.Pt.kind,V.Pt.items]
                 rw[if_pos trivial]
                 omega
             · cases hp
        · next e7 =>
          obtain⟨a1,a2,a3,a4⟩:=rdP_sound ho e7 hp
          refine⟨?_,?_,a4,?_⟩
          · rw[encF_eq,if_neg (by omega),if_neg (by omega)]
            have h3:=congrArg (flips f.down) a2
            rw[flips_flips] at h3
            rw[List.cons_append,← flips_app]
            exact congrArg _ h3
          · rw[fitF_eq,if_neg (by omega),if_neg (by omega),a1,a3]
            simp
          · rw[depthP_eq,if_neg (by omega)]
            omega
theorem rdL_put {K:Co→ByteArray→List UInt8} (d:Nat):∀ (l:List Fd),(∀ g∈l,∀ d,OkF d g→∀ p r,fitF g p=true→mayB p=true→rdF K g (encF K g p++r)=some (p,r))→(∀ g∈l,OkF d g) →
 ∀ ps r,ps.length=l.length→fitL l ps=true→(∀ p∈ps,mayB p=true)→rdL K l (encL K l ps++r)=some (ps,r):=by
 intro l
 induction l with
 | nil =>
  intro _ _ ps r h _ _
  rw[rdL_nil,encL_nil,List.eq_nil_of_length_eq_zero h];rfl
 | cons f l ih =>
  intro hC hok ps r h hf hm
  cases ps with
  | nil=>cases h
  | cons p ps =>
   rw[fitL_cons] at hf
   simp only [List.head?_cons,Option.getD_some,List.tail_cons,Bool.and_eq_true] at hf
   rw[rdL_cons,encL_cons]
   simp only [List.head?_cons,Option.getD_some,List.tail_cons]
   rw[List.append_assoc,hC f List.mem_cons_self d (hok f List.mem_cons_self) p _ hf.1 (hm p List.mem_cons_self),Option.bind_some,
    ih (fun g hg=>hC g (List.mem_cons_of_mem _ hg)) (fun g hg=>hok g (List.mem_cons_of_mem _ hg)) ps r (by simpa using h) hf.2 (fun q hq=>hm q (List.mem_cons_of_mem _ hq))]
   rfl
theorem rdF_put {K:Co→ByteArray→List UInt8} (hK:KeyOk K) (f:Fd):∀ d,OkF d f→∀ p r,fitF f p=true→mayB p=true→rdF K f (encF K f p++r)=some (p,r):=by
 induction f using Fd.ind with
 | h f ih =>
  intro d hok p r hf hm
  obtain⟨_,_,hd,hn,ho,h7,hl,hin⟩:=hok
  obtain⟨hk,_⟩:=odd_not ho
  have h1:=mayB_ok hm
  rw[fitF_eq] at hf
  rw[encF_eq]
  by_cases h0:p.kind=0
  · rw[if_pos h0] at hf ⊢
    rw[List.cons_append,List.nil_append,rdF_cons,if_pos ⟨rfl,by simpa using hf⟩]
    obtain⟨_,c1,c2,c7,_,_,_,ce⟩:=canon h1
    have:=canon_flat h1 (by omega) (by omega) (by omega)
    rw[ce (by omega),h0] at this
    rw[this]
    rfl
  · rw[if_neg h0] at hf ⊢
    simp only [Bool.and_eq_true,beq_iff_eq] at hf
    rw[List.cons_append,rdF_cons,if_neg (fun e=>tag_null hk e.1),if_neg (by simp),flips_app,flips_flips]
    unfold rdPay
    by_cases e7:p.kind=7
    · rw[if_pos e7] at hf ⊢
      simp only [Bool.and_eq_true,beq_iff_eq] at hf
      rw[if_pos (by omega),List.append_assoc,rdL_put (d+1) f.fields ih hin p.items _ hf.2.1 hf.2.2 (fun q hq=>V.mayB_item hm hq),Option.bind_some]
      simp only [rdEnd,List.cons_append,if_true]
      rw[Option.map_some]
      obtain⟨_,c1,c2,c7,_,_,_,ce⟩:=canon h1
      congr 2
      · conv=>rhs;rw[V.Pt.eta p,e7,c1 (by omega),(c2 (by omega)).1,(c2 (by omega)).2,ce (by omega)]
      · exact flips_flips _ _
    · rw[if_neg e7] at hf ⊢
      rw[if_neg (by omega),rdP_put hK _ ho (by omega) hf.1 hf.2 hm,Option.map_some]
      congr 2
      exact flips_flips _ _
end Sc
section
def Ends (R:World→Prop) (e:Exit) (a:Act) (w:World):Prop:=e=.normal∧a.defers=[]∧R w
theorem catch_idle (p q r:Addr) (w:World) :
 CallsD prog 168 #[.pointer (some p),.pointer (some q),.pointer (some r)] .returning w fun e u' w'=>e=.returned (.tuple #[])∧u'=.returning∧w'=w:=by
 refine callsD_of_wpS func168 rfl fun c₀ cs hu=>?_
 apply wpS_seq
 apply wpS_region
 simp[wpOpsS,go_sem,recoverD,hu,ntmps168,Exit.thenS]
 rw[show Array.replicate 17 undef=#[undef,undef,undef,undef,undef,undef,undef,undef,undef,undef,undef,undef,undef,undef,undef,undef,undef] from rfl]
 simp
 refine wpS_of_wp (Code.wp_mono (fun e a' w' (h:Ends (fun w'=>w'=w) e a' w')=>?_) ?_)
 · obtain⟨rfl,hd,rfl⟩:=h
   simp[bodyPostS,results,Tryz.results168,hd]
   cases c₀
   simp_all
 have hneq:∀ w:World,(binOp BinOp.neq 20 .nilIface .nilIface).run prog w=.ok (.bool false) w:=fun _=>by kernel_rfl
 go_wp2_with fail
 exact⟨rfl,rfl,rfl⟩
theorem catch_bad (g:Nat) (x:Int) (y:Bool) (t:ByteArray) (z u:Int) (w:World) (c0:w.cell? ⟨g,0,none⟩=some (.bool y)) (c1:w.cell? ⟨g,1,none⟩=some (.string t))
 (c2:w.cell? ⟨g+1,0,none⟩=some (.int .i64 z)) (c3:w.cell? ⟨g+2,0,none⟩=some (.int .i64 u))
 (z0:w.frozen? ⟨g,0,none⟩=false) (z1:w.frozen? ⟨g,1,none⟩=false) (z2:w.frozen? ⟨g+1,0,none⟩=false) (z3:w.frozen? ⟨g+2,0,none⟩=false) :
 CallsD prog 168 #[.pointer (some ⟨g,0,none⟩),.pointer (some ⟨g+1,0,none⟩),.pointer (some ⟨g+2,0,none⟩)] (.panicking [{ v:=.iface 290 (.agg #[.int .i64 x]),recovered:=false }]) w fun e u' w' =>
  e=.returned (.tuple #[])∧u'=.panicking [{ v:=.iface 290 (.agg #[.int .i64 x]),recovered:=true }] ∧
   w'.cell? ⟨g,0,none⟩=some (.bool false)∧w'.cell? ⟨g,1,none⟩=some (.string ⟨#[]⟩)∧w'.cell? ⟨g+1,0,none⟩=some (.int .i64 x)∧w'.cell? ⟨g+2,0,none⟩=some (.int .i64 20)∧Below g w w':=by
 have k2:g+2<w.heap.size:=World.block_lt_of_cell? w _ c3
 have k1:g+1<w.heap.size:=by omega
 have k0:g<w.heap.size:=by omega
 refine callsD_of_wpS func168 rfl fun c₀ cs hu=>?_
 apply wpS_seq
 apply wpS_region
 simp[wpOpsS,go_sem,recoverD,hu,ntmps168,Exit.thenS]
 rw[show Array.replicate 17 undef=#[undef,undef,undef,undef,undef,undef,undef,undef,undef,undef,undef,undef,undef,undef,undef,undef,undef] from rfl]
 simp
 refine wpS_of_wp (Code.wp_mono (fun e a' w' (h:Ends (fun w'=>w'.cell? ⟨g,0,none⟩=some (.bool false)∧w'.cell? ⟨g,1,none⟩=some (.string ⟨#[]⟩)∧w'.cell? ⟨g+1,0,none⟩=some (.int .i64 x)∧w'.cell? ⟨g+2,0,none⟩=some (.int .i64 20)∧Below g w w') e a' w')=>?_) ?_)
 · obtain⟨rfl,hd,h⟩:=h
   simp[bodyPostS,results,Tryz.results168,hd,h]
 have hneq:∀ w:World,(binOp BinOp.neq 20 (.iface 290 (.agg #[.int .i64 x])) .nilIface).run prog w=.ok (.bool true) w:=fun _=>by kernel_rfl
 have hta:∀ (v:Value) (w:World),(Instr.typeAssert (.iface 290 v) 20 290 true).run prog w=.ok (.tuple #[v,.bool true]) w:=fun _ _=>by kernel_rfl
 have hnot:∀ (x:Bool) (w:World),(Op.unary .not (.bool x)).run prog w=.ok (.bool (!x)) w:=fun _ _=>rfl
 go_wp2_with fail
 go_region
 have hb:Below g w ((((w.setCell ⟨g,0,none⟩ (.bool false)).setCell ⟨g,1,none⟩ (.string ⟨#[]⟩)).setCell ⟨g+1,0,none⟩ (.int .i64 x)).setCell ⟨g+2,0,none⟩ (.int .i64 20)) :=
  ((((Below.refl g w).setCell (Nat.le_refl g) _).setCell (Nat.le_refl g) _).setCell (Nat.le_succ g) _).setCell (by simp) _
 exact⟨rfl,rfl,by simp[go_sem,c0,k0],by simp[go_sem,c1,k0],by simp[go_sem,c2,k1],by simp[go_sem,c3,k2],(hb.alloc (by simp[World.setCell];omega) _).drew⟩
end
namespace Ta
open Lo (hexV sgnV)
open We (WfT)
def El.inW (x:El):Prop:=(0≤x.p∧x.p≤65535)∧(0≤x.s∧x.s≤65535)∧(0≤x.t∧x.t≤65535)
def emptyT:Tm:=⟨fun _=>none,fun _=>0⟩
def putT (T:Tm) (ps:List Int) (es:List El):Tm:=⟨fun l=>if l=ps then some es else T.ent l,fun x=>if x=ps.getD 0 0 then max (T.long x) ps.length else T.long x⟩
theorem wfT_empty:WfT emptyT where
 none:=rfl
 long:=fun x=>⟨Int.le_refl 0,show (0:Int)≤8 by decide⟩
 few:=fun l es h=>by cases (show (none:Option (List El))=some es from h)
 fits:=fun l es h=>by cases (show (none:Option (List El))=some es from h)
theorem wfT_put {T:Tm} (h:WfT T) {ps:List Int} {es:List El} (h1:ps≠[]) (h2:ps.length≤8) (h3:es.length≤16) (h4:∀ x∈es,x.inW):WfT (putT T ps es) where
 none:=by
  show (if []=ps then some es else T.ent [])=none
  rw[if_neg (fun e=>h1 e.symm)]
  exact h.none
 long:=fun x=>by
  show 0≤(if x=ps.getD 0 0 then max (T.long x) ps.length else T.long x)∧(if x=ps.getD 0 0 then max (T.long x) ps.length else T.long x)≤8
  have:=h.long x
  split<;>omega
 few:=fun l e he=>by
  have he':(if l=ps then some es else T.ent l)=some e:=he
  split at he'
  · cases he';exact h3
  · exact h.few l e he'
 fits:=fun l e he=>by
  have he':(if l=ps then some es else T.ent l)=some e:=he
  split at he'
  · cases he';exact h4
  · exact h.fits l e he'
def chunkE (x:ByteArray):El:=⟨x.data.toList.getD 1 0==42,hexV (x.extract 2 6).data.toList,hexV (x.extract 7 11).data.toList,hexV (x.extract 12 16).data.toList⟩
def elemsV:Nat→ByteArray→List El
 | 0,_=>[]
 | n+1,s=>chunkE (s.extract 0 17)::elemsV n (s.extract 17 s.size)
theorem elemsV_len (n:Nat) (s:ByteArray):(elemsV n s).length=n:=by
 induction n generalizing s with
 | zero=>rfl
 | succ n ih=>rw[elemsV,List.length_cons,ih]
def cutP (s:ByteArray):ByteArray:=⟨(Lib.cut s.data.toList [59]).1.toArray⟩
def cutE (s:ByteArray):ByteArray:=⟨(Lib.cut s.data.toList [59]).2.1.toArray⟩
def linesOf (sep:UInt8) (s:ByteArray):List ByteArray:=Lib.splitB ⟨#[sep]⟩ 0 (Lib.countB s ⟨#[sep]⟩) s
def lineP (s:ByteArray):List Int:=(linesOf 32 (cutP s)).map fun p=>sgnV p.data.toList
def lineE (s:ByteArray):List El:=elemsV ((cutE s).size / 17) (cutE s)
def blank (s:ByteArray):Bool:=s.size==0 || s.data.toList.getD 0 0==35
def stepT (T:Tm) (s:ByteArray):Tm:=if blank s then T else putT T (lineP s) (lineE s)
def tabM (a:ByteArray):Tm:=(linesOf 10 a).foldl stepT emptyT
theorem linesOf_len (c:UInt8) (s:ByteArray):(linesOf c s).length=Lib.countB s ⟨#[c]⟩+1:=Lib.splitB_all ⟨#[c]⟩ (Nat.le_refl 1) 0 _ s rfl
theorem linesOf_le (c:UInt8) (s:ByteArray):(linesOf c s).length≤s.size+1:=by
 rw[linesOf_len]
 have:=Lib.countB_le ⟨#[c]⟩ (Nat.le_refl 1) s.size s lr
 omega
theorem linesOf_small (c:UInt8) (s:ByteArray):∀ p∈linesOf c s,p.size≤s.size:=by
 have key:∀ (k:Nat) (s:ByteArray),∀ p∈Lib.splitB ⟨#[c]⟩ 0 k s,p.size≤s.size:=by
  intro k
  induction k with
  | zero=>intro s p hp;rw[Lib.splitB_zero,List.mem_singleton] at hp;rw[hp];exact Nat.le_refl _
  | succ k ih =>
   intro s p hp
   rcases Lib.indexB_cases s ⟨#[c]⟩ with hix | ⟨i,hix,hroom⟩
   · rw[Lib.splitB_miss _ _ _ _ hix,List.mem_singleton] at hp;rw[hp];exact Nat.le_refl _
   · rw[Lib.splitB_hit _ _ _ _ i hix] at hp
     rcases List.mem_cons.1 hp with rfl | hp
     · rw[ByteArray.size_extract];omega
     · have:=ih _ p hp
       rw[ByteArray.size_extract] at this
       omega
 exact key _ s
def ownText:ByteArray:=⟨#[48,48,54,49,59,91,46,49,48,48,48,46,48,48,50,48,46,48,48,48,50,93,10,48,48,52,49,59,91,46,49,48,48,48,46,48,48,50,48,46,48,48,48,56,93]⟩
def ownT:Tm:=putT (putT emptyT [97] [⟨false,4096,32,2⟩]) [65] [⟨false,4096,32,8⟩]
theorem tabM_own:tabM ownText=ownT:=by
 have h:linesOf 10 ownText=[⟨#[48,48,54,49,59,91,46,49,48,48,48,46,48,48,50,48,46,48,48,48,50,93]⟩,⟨#[48,48,52,49,59,91,46,49,48,48,48,46,48,48,50,48,46,48,48,48,56,93]⟩]:=by decide +kernel
 have p1:lineP ⟨#[48,48,54,49,59,91,46,49,48,48,48,46,48,48,50,48,46,48,48,48,50,93]⟩=[97]:=by decide +kernel
 have p2:lineP ⟨#[48,48,52,49,59,91,46,49,48,48,48,46,48,48,50,48,46,48,48,48,56,93]⟩=[65]:=by decide +kernel
 have e1:lineE ⟨#[48,48,54,49,59,91,46,49,48,48,48,46,48,48,50,48,46,48,48,48,50,93]⟩=[⟨false,4096,32,2⟩]:=by decide +kernel
 have e2:lineE ⟨#[48,48,52,49,59,91,46,49,48,48,48,46,48,48,50,48,46,48,48,48,56,93]⟩=[⟨false,4096,32,8⟩]:=by decide +kernel
 have b1:blank ⟨#[48,48,54,49,59,91,46,49,48,48,48,46,48,48,50,48,46,48,48,48,50,93]⟩=false:=by decide +kernel
 have b2:blank ⟨#[48,48,52,49,59,91,46,49,48,48,48,46,48,48,50,48,46,48,48,48,56,93]⟩=false:=by decide +kernel
 unfold tabM
 rw[h]
 simp only [List.foldl_cons,List.foldl_nil,stepT,b1,b2,p1,p2,e1,e2,Bool.false_eq_true,if_false]
 rfl
theorem linesOf_none (c:UInt8):linesOf c ⟨#[]⟩=[⟨#[]⟩]:=by
 have h:Lib.countB ⟨#[]⟩ ⟨#[c]⟩=0:=Nat.eq_zero_of_le_zero (Lib.countB_le ⟨#[c]⟩ (Nat.le_refl 1) 0 ⟨#[]⟩ lr)
 unfold linesOf
 rw[h]
 rfl
theorem tabM_none:tabM ⟨#[]⟩=emptyT:=by
 unfold tabM
 rw[linesOf_none]
 rfl
end Ta
namespace Sc
open V (Same)
theorem blk_other {w:World} {g h:Nat} {t:TypeId} {cs:Array Value} (hb:Blk w g t cs) (hne:g≠h) (i:Nat) (v:Value):Blk (w.setCell ⟨h,i,none⟩ v) g t cs:=(Below.heap_setCell _ _ _ _ hne).trans hb
theorem tcatch_idle (p q r:Addr) (w:World) :
 CallsD prog 40 #[.pointer (some p),.pointer (some q),.pointer (some r)] .returning w fun e u' w'=>e=.returned (.tuple #[])∧u'=.returning∧w'=w:=by
 refine callsD_of_wpS func40 rfl fun c₀ cs hu=>?_
 apply wpS_seq
 apply wpS_region
 simp[wpOpsS,go_sem,recoverD,hu,ntmps40,Exit.thenS]
 rw[show Array.replicate 7 undef=#[undef,undef,undef,undef,undef,undef,undef] from rfl]
 simp
 refine wpS_of_wp (Code.wp_mono (fun e a' w' (h:Ends (fun w'=>w'=w) e a' w')=>?_) ?_)
 · obtain⟨rfl,hd,rfl⟩:=h
   simp[bodyPostS,results,Tryz.results40,hd]
   cases c₀
   simp_all
 have hneq:∀ w:World,(binOp BinOp.neq 20 .nilIface .nilIface).run prog w=.ok (.bool false) w:=fun _=>by kernel_rfl
 go_wp2_with fail
 exact⟨rfl,rfl,rfl⟩
theorem tcatch_bad (g0 g1 g2 fb:Nat) (v n er:Value) (w:World) (h0:Blk w g0 34 #[v]) (h1:Blk w g1 3 #[n]) (h2:Blk w g2 36 #[er]) (h01:g0<g1) (h12:g1<g2) :
 CallsD prog 40 #[.pointer (some ⟨g0,0,none⟩),.pointer (some ⟨g1,0,none⟩),.pointer (some ⟨g2,0,none⟩)] (.panicking [{ v:=.iface 39 (.pointer (some ⟨fb,0,none⟩)),recovered:=false }]) w fun e u' w' =>
  e=.returned (.tuple #[])∧u'=.panicking [{ v:=.iface 39 (.pointer (some ⟨fb,0,none⟩)),recovered:=true }] ∧
   (Blk w' g0 34 #[.nilIface]∧Blk w' g1 3 #[.int .i64 0]∧Blk w' g2 36 #[.iface 39 (.pointer (some ⟨fb,0,none⟩))])∧Xv (fun k=>k=g0∨k=g1∨k=g2) w w':=by
 have c0:=h0.cell 0
 have c1:=h1.cell 0
 have c2:=h2.cell 0
 have z0:=h0.frozen 0
 have z1:=h1.frozen 0
 have z2:=h2.frozen 0
 have H:=zh (And.intro h0 (And.intro h1 h2))
 have hg0:=h0.lt
 have hg1:=h1.lt
 have hg2:=h2.lt
 have n01:g0≠g1:=by omega
 have n02:g0≠g2:=by omega
 have n12:g1≠g2:=by omega
 have m01:g1≠g0:=by omega
 have m02:g2≠g0:=by omega
 have m12:g2≠g1:=by omega
 clear h0 h1 h2
 simp at c0 c1 c2
 refine callsD_of_wpS func40 rfl fun c₀ cs hu=>?_
 apply wpS_seq
 apply wpS_region
 simp[wpOpsS,go_sem,recoverD,hu,ntmps40,Exit.thenS]
 rw[show Array.replicate 7 undef=#[undef,undef,undef,undef,undef,undef,undef] from rfl]
 simp
 refine wpS_of_wp (Code.wp_mono (fun e a' w' (h:Ends (fun w'=>(Blk w' g0 34 #[.nilIface]∧Blk w' g1 3 #[.int .i64 0]∧Blk w' g2 36 #[.iface 39 (.pointer (some ⟨fb,0,none⟩))])∧Xv (fun k=>k=g0∨k=g1∨k=g2) w w') e a' w')=>?_) ?_)
 · obtain⟨rfl,hd,h⟩:=h
   simp[bodyPostS,results,Tryz.results40,hd,h]
 have hneq:∀ w:World,(binOp BinOp.neq 20 (.iface 39 (.pointer (some ⟨fb,0,none⟩))) .nilIface).run prog w=.ok (.bool true) w:=fun _=>by kernel_rfl
 have hta:∀ (v:Value) (w:World),(Instr.typeAssert (.iface 39 v) 20 39 false).run prog w=.ok v w:=fun _ _=>by kernel_rfl
 go_wp2_with fail
 go_region
 go_wp2_with fail
 obtain⟨h0,h1,h2⟩:=H.out
 refine⟨rfl,rfl,⟨?_,?_,?_⟩,?_⟩
 · have:=blk_other (blk_other (h0.set_ 0 .nilIface) n01 0 (.int .i64 0)) n02 0 (.iface 39 (.pointer (some ⟨fb,0,none⟩)))
   simp at this
   exact this
 · have:=blk_other ((blk_other h1 m01 0 .nilIface).set_ 0 (.int .i64 0)) n12 0 (.iface 39 (.pointer (some ⟨fb,0,none⟩)))
   simp at this
   exact this
 · have:=(blk_other (blk_other h2 m02 0 .nilIface) m12 0 (.int .i64 0)).set_ 0 (.iface 39 (.pointer (some ⟨fb,0,none⟩)))
   simp at this
   exact this
 · exact((((Xv.refl (fun k=>k=g0∨k=g1∨k=g2) w).set_ (b:=g0) (fun _=>Or.inl rfl) 0 .nilIface).set_ (b:=g1) (fun _=>Or.inr (Or.inl rfl)) 0 (.int .i64 0)).set_ (b:=g2) (fun _=>Or.inr (Or.inr rfl)) 0 _).drew
end Sc
namespace V
theorem oneB_kind {p q:Pt} (h:p.kind≠q.kind):sameP p q=false:=by
 rw[sameP_eq];unfold oneB;rw[show (p.kind==q.kind)=false by simpa using h];simp
theorem same_one {p q:Pt} (hp:mayB p=true) (hq:mayB q=true) (h:p.kind=q.kind) :
 (p.kind=0→sameP p q=true)∧(p.kind=1→sameP p q=(p.yes==q.yes))∧(p.kind=2→sameP p q=(p.neg==q.neg&&p.mag.toList==q.mag.toList)) ∧
  (p.kind≠0→p.kind≠1→p.kind≠2→p.kind≠7→sameP p q=(p.raw.toList==q.raw.toList))∧(p.kind=7→sameP p q=sameL p.items q.items):=by
 obtain⟨a1,a2,a3,a4⟩:=canon hp
 obtain⟨b1,b2,b3,b4⟩:=canon hq
 refine⟨fun k=>?_,fun k=>?_,fun k=>?_,fun k0 k1 k2 k7=>?_,fun k=>?_⟩
 · rw[sameP_eq];unfold oneB
   rw[h,a1 (by omega),b1 (by omega),(a2 (by omega)).1,(b2 (by omega)).1,(a2 (by omega)).2,(b2 (by omega)).2,a3 (by omega),b3 (by omega),a4 (by omega),b4 (by omega)];simp[sameL_nil]
 · rw[sameP_eq];unfold oneB
   rw[h,(a2 (by omega)).1,(b2 (by omega)).1,(a2 (by omega)).2,(b2 (by omega)).2,a3 (by omega),b3 (by omega),a4 (by omega),b4 (by omega)];simp[sameL_nil]
 · rw[sameP_eq];unfold oneB
   rw[h,a1 (by omega),b1 (by omega),a3 (by omega),b3 (by omega),a4 (by omega),b4 (by omega)];simp[sameL_nil]
 · rw[sameP_eq];unfold oneB
   rw[h,a1 (by omega),b1 (by omega),(a2 (by omega)).1,(b2 (by omega)).1,(a2 (by omega)).2,(b2 (by omega)).2,a3 (by omega),b3 (by omega)];simp[sameL_nil]
 · rw[sameP_eq];unfold oneB
   rw[h,a1 (by omega),b1 (by omega),(a2 (by omega)).1,(b2 (by omega)).1,(a2 (by omega)).2,(b2 (by omega)).2,a4 (by omega),b4 (by omega)];simp
theorem samev_null (p q:Pt) (v u:Value) (w:World) {W:World} {lo hi lo' hi':Nat} (hp:mayB p=true) (hq:mayB q=true) (hv:VI W lo hi p v) (hu:VI W lo' hi' q u) (h:p.kind=0∨q.kind=0) :
 Calls prog 36 #[v,u] w fun e w'=>e=.returned (.bool (sameP p q))∧Below w.heap.size w w':=by
 by_cases h1:p.kind=0
 · obtain rfl:=hv.nilOf h1
   by_cases h2:q.kind=0
   · obtain rfl:=hu.nilOf h2
     have HN:=zh ((same_one hp hq (by omega)).1 h1)
     clear h h1 h2 hv hu hp hq
     go_enter func36,ntmps36
     go_wp2_with fail
     go_ret
     exact⟨by rw[HN.out];rfl,zr⟩
   · obtain⟨T,V,rfl⟩:=hu.ifaceOf h2
     have HN:=zh (oneB_kind (p:=p) (q:=q) (by omega))
     clear h h1 h2 hv hu hp hq
     go_enter func36,ntmps36
     go_wp2_with fail
     go_ret
     exact⟨by rw[HN.out];rfl,zr⟩
 · have h2:q.kind=0:=h.resolve_left h1
   obtain rfl:=hu.nilOf h2
   obtain⟨T,V,rfl⟩:=hv.ifaceOf h1
   have HN:=zh (oneB_kind (p:=p) (q:=q) (by omega))
   clear h h1 h2 hv hu hp hq
   go_enter func36,ntmps36
   go_wp2_with fail
   go_ret
   exact⟨by rw[HN.out];rfl,zr⟩
theorem samev_kinds (p q:Pt) (v u:Value) (w:World) {W:World} {lo hi lo' hi':Nat} (hv:VI W lo hi p v) (hu:VI W lo' hi' q u) (h0:p.kind≠0) (h1:q.kind≠0) (h:p.kind≠q.kind) :
 Calls prog 36 #[v,u] w fun e w'=>e=.returned (.bool (sameP p q))∧Below w.heap.size w w':=by
 obtain⟨T,V,f,rfl,m1,r1,c1⟩:=hv.kindOf h0
 obtain⟨T',V',f',rfl,m2,r2,c2⟩:=hu.kindOf h1
 have HN:=zh (oneB_kind (p:=p) (q:=q) h)
 have q1:((p.kind:Int) != (q.kind:Int))=true:=by simp;omega
 have C1:=zh c1
 have C2:=zh c2
 clear h h0 h1 hv hu c1 c2
 go_enter func36,ntmps36
 go_wp2_with fail
 refine(C1.out _).mono ?_
 rintro e w1 ⟨rfl,hb1⟩
 go_wp2_with fail
 refine(C2.out _).mono ?_
 rintro e w2 ⟨rfl,hb2⟩
 go_wp2_with fail
 go_ret
 exact⟨by rw[HN.out];rfl,two hb1 hb2⟩
end V
namespace Sc
open Go.ChangeShapes Go.WideShapes Go.ChangeAt Go.RowKit Go.Deep
theorem schema_trod {H:Type} {enc:TypeId×Value→H} {w:World} {base:Nat} {sp:Nat→Bool} {held:Bool} {fuel:Nat} {a b:Value} {x:DataW H×List MemPlace}
 (h:DataW.trod enc prog w base sp held fuel 26 [a,b]=some x) (hw:∀ n∈x.1.weights prog 26,n≤reachBytes) :
 ∃ (lim:Int) (F:List Fd) (a0:Option Addr) (k0:Nat),a=.int .i64 lim∧b=.slice a0 F.length k0∧FI w 0 w.heap.size F (.slice a0 F.length k0)∧F.length≤140737488351232:=by
 have e3:prog.cellsOf 3=1:=by kernel_rfl
 have eF:prog.cellsOf 24=1:=by kernel_rfl
 obtain⟨z0,z1,m,hz,_,g0,g1⟩:=trod_struct2 underlying26 h
 obtain⟨lim,hl,_⟩:=DataW.trod_int underlying3 g0
 rw[e3] at hl
 simp only [eF] at g1
 obtain⟨F,hF,hFl⟩:=flist_trod m b z1 g1 (fun n hn=>by
  refine hw n ?_
  rw[hz]
  simp only [DataW.weights,underlying26]
  exact DataW.weights_mem_each (j:=1) rfl rfl n hn)
 have hr:reachBytes=140737488351232:=by decide
 rw[hr] at hFl
 obtain⟨a0,k0,rfl,_⟩:=hF.open
 exact⟨lim,F,a0,k0,by simpa using hl,rfl,hF,hFl⟩
theorem tab_trod {H:Type} {enc:TypeId×Value→H} {w:World} {base:Nat} {sp:Nat→Bool} {held:Bool} {fuel:Nat} {a b:Value} {x:DataW H×List MemPlace}
 (h:DataW.trod enc prog w base sp held fuel 23 [a,b]=some x):∃ s t:ByteArray,a=.string s∧b=.string t:=by
 have e9:prog.cellsOf 9=1:=by kernel_rfl
 obtain⟨z0,z1,m,_,_,g0,g1⟩:=trod_struct2 underlying23 h
 obtain⟨s,hs,_⟩:=DataW.trod_string underlying9 g0
 obtain⟨t,ht,_⟩:=DataW.trod_string underlying9 g1
 rw[e9] at hs ht
 exact⟨s,t,by simpa using hs,by simpa using ht⟩
theorem set_trod {H:Type} {enc:TypeId×Value→H} {w:World} {base:Nat} {sp:Nat→Bool} {held:Bool} {fuel:Nat} {cs:List Value} {x:DataW H×List MemPlace}
 (h:DataW.trod enc prog w base sp held fuel 28 cs=some x) (hw:∀ n∈x.1.weights prog 28,n≤reachBytes) :
 ∃ (s t:ByteArray) (lim:Int) (F:List Fd) (a0:Option Addr) (k0:Nat),cs=[.string s,.string t,.int .i64 lim,.slice a0 F.length k0]∧FI w 0 w.heap.size F (.slice a0 F.length k0)∧F.length≤140737488351232:=by
 have e4:prog.cellsOf 28=4:=by kernel_rfl
 have eT:prog.cellsOf 23=2:=by kernel_rfl
 have eS:prog.cellsOf 26=2:=by kernel_rfl
 obtain⟨z0,z1,m,hz,hl,g0,g1⟩:=trod_struct2 underlying28 h
 rw[e4] at hl
 match cs,hl with
 | [v0,v1,v2,v3],_ =>
  simp[eT,eS] at g0 g1
  obtain⟨s,t,rfl,rfl⟩:=tab_trod g0
  obtain⟨lim,F,a0,k0,rfl,rfl,hF,hl⟩:=schema_trod g1 (fun n hn=>by
   refine hw n ?_
   rw[hz]
   simp only [DataW.weights,underlying28]
   exact DataW.weights_mem_each (j:=1) rfl rfl n hn)
  exact⟨s,t,lim,F,a0,k0,rfl,hF,hl⟩
theorem open_set {H:Type} {enc:TypeId×Value→H} {w:World} {base b0:Nat} {sp:Nat→Bool} {held:Bool} {r:Reach} {v:Value} {d:DataW H} {ps:List MemPlace}
 (hval:Value.okWide prog w r b0 28 v) (h:DataW.Trod enc prog w base sp held 28 v d ps) (hw:∀ n∈d.weights prog 28,n≤reachBytes) :
 ∃ (s t:ByteArray) (lim:Int) (F:List Fd) (a0:Option Addr) (k0:Nat),v=.agg #[.string s,.string t,.int .i64 lim,.slice a0 F.length k0]∧FI w 0 w.heap.size F (.slice a0 F.length k0)∧F.length≤140737488351232:=by
 obtain⟨fuel,hf⟩:=h
 obtain⟨s,t,lim,F,a0,k0,hc,hF,hl⟩:=set_trod hf hw
 obtain⟨cs,rfl,_⟩:=okWide_struct underlying28 hval
 refine⟨s,t,lim,F,a0,k0,?_,hF,hl⟩
 have hc':cs.toList=[.string s,.string t,.int .i64 lim,.slice a0 F.length k0]:=hc
 cases cs
 simp_all
