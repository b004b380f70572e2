import Derived.Laws.EntriesVeiled
import Derived.Test.YtcgnajeenflfaaaGreatDoorP14
import Derived.Test.YtcgnajeenflfaaaGreatDoorP16
import Derived.Test.YtcgnajeenflfaaaGreatDoorP9
set_option maxRecDepth 100000
set_option maxHeartbeats 4000000
set_option linter.all false
open Go.Proofs.Tryz Go.RowKit
namespace Go.Proofs.YtcgnajeenflfaaaGreatDoor
namespace Ma
open Ta (Tm El findM impM TabAt Find_any FindPost Implied_any ImpPost ev ev_one ev_app ev_len)
open So (Fine)
open D (Dm Wf DataAt classM isI64 formM formM_ok)
def rowE (T:Tm) (row:List Int):List El:=(findM T row).getD (impM (row.getD 0 0))
theorem elemsM_eq (c:Int→Int) (T:Tm) (l:List Int):elemsM c T l=(stepsM c T l.length l).flatMap (rowE T):=rfl
theorem rowE_len {T:Tm} (h16:∀ l es,T.ent l=some es→es.length≤16) (row:List Int):(rowE T row).length≤16:=by
 unfold rowE
 cases h:findM T row with
 | none =>
  show (impM _).length≤16
  unfold impM
  split<;>simp
 | some es =>
  show es.length≤16
  unfold findM at h
  split at h
  · exact h16 _ _ h
  · cases h
theorem furM_ne {c:Int→Int} {T:Tm} (l row stay:List Int) (hi:Int) (h:row≠[]):(furM c T l row stay hi).1≠[]:=by
 induction l generalizing row stay hi with
 | nil=>exact h
 | cons p r ih =>
  by_cases h1:c p=0
  · rw[furM_stop h1];exact h
  by_cases h2:hi<c p∧(findM T (row++[p])).isSome=true
  · rw[furM_take h1 h2.1 h2.2];exact ih _ _ _ (by simp)
  · rw[furM_stay h1 h2];exact ih _ _ _ h
theorem stepsM_rows {c:Int→Int} {T:Tm} (f:Nat) (l:List Int) (hl:Fine l):∀ row∈stepsM c T f l,row≠[]∧Fine row:=by
 induction f generalizing l with
 | zero=>intro row h;cases h
 | succ f ih =>
  intro row h
  by_cases h0:l.length=0
  · rw[stepsM_nil h0] at h;cases h
  by_cases h1:tryN T l (firstN T l)=0
  · rw[stepsM_one h0 h1] at h
    rcases List.mem_cons.1 h with rfl | h
    · exact⟨by simp,fun x hx=>by rw[List.mem_singleton.1 hx];exact hl.nth 0⟩
    · exact ih _ (hl.dp 1) row h
  · obtain⟨row2,left,hrl⟩:∃ row2 left,furM c T (l.drop (tryN T l (firstN T l))) (l.take (tryN T l (firstN T l))) [] 0=(row2,left):=⟨_,_,rfl⟩
    have hok:=furM_ok (c:=c) (T:=T) (l.drop (tryN T l (firstN T l))) (l.take (tryN T l (firstN T l))) [] 0 (hl.dp _) (hl.tk _) (fun x hx=>by cases hx)
    have hne:=furM_ne (c:=c) (T:=T) (l.drop (tryN T l (firstN T l))) (l.take (tryN T l (firstN T l))) [] 0 (fun e=>by
     have:=congrArg List.length e
     rw[List.length_take,List.length_nil] at this
     omega)
    rw[stepsM_row h0 rfl h1 hrl] at h
    rw[hrl] at hok hne
    rcases List.mem_cons.1 h with rfl | h
    · exact⟨hne,hok.1⟩
    · exact ih _ hok.2.1 row h
theorem flatE_take (l:List (List Int)) (P:List Int→List El) (j:Nat) (h:j<l.length):(l.take (j+1)).flatMap P=(l.take j).flatMap P++P l[j]:=by
 rw[List.take_add_one,List.getElem?_eq_getElem h,List.flatMap_append];simp
theorem flatE_len (l:List (List Int)) (P:List Int→List El) (n:Nat) (h:∀ q,(P q).length≤n):(l.flatMap P).length≤l.length*n:=by
 induction l with
 | nil=>simp
 | cons q r ih =>
  have h1:=h q
  rw[List.flatMap_cons,List.length_append,List.length_cons,Nat.add_mul];omega
def ElemsPost (es:List El) (w:World) (e:Ending) (w':World):Prop:=∃ u,e=.returned u∧w'.ownsRow w.heap.size 176 4 u es.length (ev es)∧Below w.heap.size w w'
theorem Elements_any {D:Dm} (wf:Wf D) (T:Tm) (h0:T.ent []=none) (hlong:∀ x,0≤T.long x∧T.long x≤8) (h16:∀ l es,T.ent l=some es→es.length≤16) (v t s:Value) (L:List Int) (w:World) (hd:DataAt w 0 w.heap.size v D) (ht:TabAt w 0 w.heap.size t T) (hs:IntsIn w 0 w.heap.size s L) (hlf:Fine L) (hll:L.length≤65536) :
 Calls prog 201 #[v,t,s] w (ElemsPost (elemsM (classM D) T (formM D L)) w):=by
 have HS:=zh hs
 have HD:=zh hd
 have HT:=zh ht
 have HW:=zh wf
 have H0:=zh h0
 have HLO:=zh hlong
 have H16:=zh h16
 have HLF:=zh hlf
 obtain⟨pt,hpt⟩:∃ pt,t=.pointer (some pt):=by obtain⟨pt,_,_,_,_,_,_,h,_⟩:=ht;exact⟨_,h⟩
 subst hpt
 have hfo:=formM_ok wf hlf
 obtain⟨R,hR⟩:∃ R,stepsM (classM D) T (formM D L).length (formM D L)=R:=⟨_,rfl⟩
 have hRl:=stepsM_len (classM D) T (formM D L).length (formM D L)
 have hRr:=stepsM_rows (c:=classM D) (T:=T) (formM D L).length (formM D L) hfo.2
 rw[hR] at hRl hRr
 have hRl2:R.length≤4194304:=by omega
 have HR:=zh hR
 have HRr:=zh hRr
 rw[elemsM_eq,hR]
 clear hs hd ht wf h0 hlong h16 hlf hfo hR hRr hRl
 go_enter func201,ntmps201
 go_wp2_with fail
 refine(Steps_any HW.out T H0.out HLO.out v (.pointer (some pt)) s L w HD.out HT.out HS.out HLF.out hll).mono ?_
 rintro e w1 ⟨rv,us,rfl,hO,hRs,hb1⟩
 rw[HR.out] at hRs
 obtain⟨ar,capr,rfl⟩:=row_slice hO
 have hlen:=hRs.1
 obtain⟨n,hn⟩:∃ n,R.length=n:=⟨_,rfl⟩
 rw[hn] at hlen
 have HN:=zh hn
 have HB1:=zh hb1
 have hsz1:=hb1.size
 have HCE:=zh (show ∀ j,j<n→∃ g u,ar=some ⟨g,0,none⟩∧g<w1.heap.size∧w1.cell? ⟨g,j,none⟩=some u∧∃ h:j<R.length,IntsP w1 (fun _=>False) u R[j] from fun j hj=>by
  obtain⟨g,cap2,he,_,hg⟩:=World.ownsRow.form hO (by omega)
  injection he with e1 e2 e3
  subst e1
  obtain⟨u,h1,h2⟩:=hRs.2 j (by rw[hn];exact hj)
  refine⟨g,u,rfl,hg,?_,by rw[hn];exact hj,h2⟩
  rw[World.ownsRow.cellAt hO j (by omega)]
  exact h1)
 have HTw:=zh ((HT.out.later hb1 lr).wide lr hsz1)
 rw[hlen]
 clear hO hRs hb1 hlen
 go_wp2_with fail
 rw[hn] at hRl2
 clear hn
 go_loopw [7,17] (fun o i wr=>∃ (j:Nat) (M:List El),j≤n∧i=.int .i64 (j:Int)∧wr.ownsRow w1.heap.size 176 4 o M.length (ev M)∧Below w1.heap.size w1 wr∧M.length≤j*16∧RowKit.Hid (M=(R.take j).flatMap (rowE T))) (fun _ i _=>n-(intOf i).toNat)
 case atStart=>exact⟨0,[],Nat.zero_le _,rfl,World.ownsRow_nil _ _ _ _,zr,by simp,zh rfl⟩
 case round =>
  obtain⟨j,M,hj,rfl,hO,hB,hMl,HM⟩:=hrel
  have hsz:=hB.size
  obtain⟨a7,cap7,rfl⟩:=row_slice hO
  by_cases hlt:j<n
  · have q1:decide ((j:Int)<(n:Int))=true:=decide_eq_true (by omega)
    obtain⟨g,u,rfl,hg,hc,hjR,hu⟩:=HCE.out j hlt
    have hc':=(hB.cell (p:=⟨g,j,none⟩) hg).trans hc
    obtain⟨row,hrow⟩:∃ row,R[j]=row:=⟨_,rfl⟩
    rw[hrow] at hu
    have hrr:=HRr.out _ (List.getElem_mem hjR)
    rw[hrow] at hrr
    have hpos:0<row.length:=List.length_pos_iff.2 hrr.1
    have HRF:=zh hrr.2
    obtain⟨gr,offr,capu,rfl,hcu,hgr,_,hcr⟩:=hu.pos hpos
    have HU:=zh (IntsP.reads (hu.below (bad':=fun _=>False) hB fun _ _ e=>e))
    have HOw:=zh hO
    have HBw:=zh hB
    have HE:=zh (show (R.take (j+1)).flatMap (rowE T)=M++rowE T row by rw[flatE_take _ _ _ hjR,hrow,← HM.out])
    have hrl:=rowE_len H16.out row
    have hc0:=(hB.cell (p:=⟨gr,offr+0,none⟩) hgr).trans (hcr 0 hpos)
    obtain⟨x,hx⟩:∃ x,row[0]=x:=⟨_,rfl⟩
    rw[hx,Nat.add_zero] at hc0
    have HX:=zh (show row.getD 0 0=x by rw[So.getD_at hpos,hx])
    have p0:(0:Int)<(row.length:Int):=by omega
    clear hrow hrr hu hO hB hx hcr hc
    go_wp2_with fail
    refine(Find_any (.pointer (some pt)) _ T row wr ((HTw.out.later HBw.out lr).wide lr hsz) HU.out HRF.out H0.out).mono ?_
    rintro e w2 ⟨u',rfl,hO2,hb2⟩
    have hsz2:=hb2.size
    have HOw2:=zh (row_below HOw.out hb2)
    have HB2:=zh (HBw.out.trans (hb2.mono hsz))
    obtain⟨a2,cap2,rfl⟩:=row_slice hO2
    cases hfm:(findM T row).isSome with
    | true =>
     have hEe:(findM T row).getD []=rowE T row:=by
      unfold rowE
      cases h:findM T row with
      | none=>rw[h] at hfm;cases hfm
      | some es=>rfl
     rw[hEe] at hO2 ⊢
     have hur:=RowIn.own hO2
     clear hfm hEe hO2 hb2
     go_wp2_with (at_builtin;refine wpList_append_row rfl (.tmp 33) (.tmp 34) 170 rfl 176 _ 4 32 underlying170 infoEl rfl (by decide) rfl HOw2.out rfl hur (ev_one _) (by omega) (by decide) HB2.out (Nat.le_trans hsz hsz2) ?_;intro c3 cap3 w3 hO3 hB3 _ _)
     refine⟨⟨j+1,M++rowE T row,by omega,by simp,?_,hB3,by rw[List.length_append];omega,zh HE.out.symm⟩,by simp[intOf];omega⟩
     rw[ev_app,List.length_append]
     exact hO3
    | false =>
     have hEe:impM x=rowE T row:=by
      unfold rowE
      rw[HX.out]
      cases h:findM T row with
      | none=>rfl
      | some es=>rw[h] at hfm;cases hfm
     have hc2:=(hb2.cell (p:=⟨gr,offr,none⟩) (Nat.lt_of_lt_of_le hgr hsz)).trans hc0
     have HEe:=zh hEe
     clear hfm hEe hO2 hb2
     go_wp2_with fail
     refine(Implied_any x w2).mono ?_
     rintro e w4 ⟨u4,rfl,hO4,hb4⟩
     rw[HEe.out] at hO4
     have hsz4:=hb4.size
     have HOw4:=zh (row_below HOw2.out hb4)
     have HB4:=zh (HB2.out.trans (hb4.mono (Nat.le_trans hsz hsz2)))
     have hur:=RowIn.own hO4
     clear hO4 hb4
     go_wp2_with (at_builtin;refine wpList_append_row rfl (.tmp 33) (.tmp 34) 170 rfl 176 _ 4 32 underlying170 infoEl rfl (by decide) rfl HOw4.out rfl hur (ev_one _) (by omega) (by decide) HB4.out (Nat.le_trans hsz (Nat.le_trans hsz2 hsz4)) ?_;intro c3 cap3 w3 hO3 hB3 _ _)
     refine⟨⟨j+1,M++rowE T row,by omega,by simp,?_,hB3,by rw[List.length_append];omega,zh HE.out.symm⟩,by simp[intOf];omega⟩
     rw[ev_app,List.length_append]
     exact hO3
  · obtain rfl:j=n:=by omega
    have q1:decide ((j:Int)<(j:Int))=false:=decide_eq_false (by omega)
    have hM:=HM.out
    rw[List.take_of_length_le (by rw[HN.out];exact Nat.le_refl _)] at hM
    have hB9:=HB1.out.trans (hB.mono hsz1)
    have hO9:=row_low hO hsz1
    have HM2:=zh hM
    clear hM hO hB
    go_wp2_with fail
    go_ret
    rw[← HM2.out]
    exact⟨_,rfl,hO9,hB9⟩
end Ma
namespace We
open Ta (El Tm TabAt)
open D (Dm Wf DataAt classM formM)
open Ma (elemsM)
def wds (sh:Bool):Bool→List El→List Wd
 | _,[]=>[]
 | b,x::r=>⟨x,sh&&(if x.p=0 then b else x.v)&&(x.v || x.p==0)⟩::wds sh (if x.p=0 then b else x.v) r
def behB (b:Bool) (l:List El):Bool:=l.foldl (fun b x=>if x.p=0 then b else x.v) b
theorem wds_app (sh b:Bool) (l m:List El):wds sh b (l++m)=wds sh b l++wds sh (behB b l) m:=by
 induction l generalizing b with
 | nil=>rfl
 | cons x l ih=>rw[List.cons_append,wds,wds,ih];rfl
theorem behB_snoc (b:Bool) (l:List El) (x:El):behB b (l++[x])=if x.p=0 then behB b l else x.v:=by unfold behB;rw[List.foldl_append];rfl
theorem wds_len (sh b:Bool) (l:List El):(wds sh b l).length=l.length:=by
 induction l generalizing b with
 | nil=>rfl
 | cons x l ih=>rw[wds,List.length_cons,ih,List.length_cons]
def wts (i:Nat) (l:List Wd):List Int:=(l.map (lvlM i)).filter fun n=>decide (n≠0)
theorem wts_snoc (i:Nat) (l:List Wd) (x:Wd):wts i (l++[x])=wts i l++(if lvlM i x=0 then [] else [lvlM i x]):=by
 unfold wts
 rw[List.map_append,List.filter_append]
 congr 1
 by_cases h:lvlM i x=0<;>simp[h]
theorem wts_len (i:Nat) (l:List Wd):(wts i l).length≤l.length:=by
 unfold wts
 exact Nat.le_trans (List.length_filter_le _ _) (by rw[List.length_map];exact Nat.le_refl _)
structure Co where
 str:Int
 sh:Bool
 back:Bool
deriving DecidableEq
def Co.val (c:Co):Value:=.agg #[.int .i64 c.str,.bool c.sh,.bool c.back]
def Co.ok (c:Co):Prop:=1≤c.str∧c.str≤4∧(c.str=4→c.sh=true)
instance (c:Co):Decidable c.ok:=by unfold Co.ok;exact inferInstance
def lvlsM (D:Dm) (T:Tm) (c:Co) (s:ByteArray):List Wd:=wds c.sh false (elemsM (classM D) T (formM D (U.pointsS s)))
def levelM (D:Dm) (T:Tm) (c:Co) (s:ByteArray) (i:Nat):List Int:=if i=1∧c.back=true then So.revM (wts i (lvlsM D T c s)) else wts i (lvlsM D T c s)
def allM (D:Dm) (T:Tm) (c:Co) (s:ByteArray):List (List Int):=(List.range c.str.toNat).map (levelM D T c s)
def wbytes (l:List Int):List UInt8:=l.flatMap (fun n=>[UInt8.ofNat (n / 256 % 256).toNat,UInt8.ofNat (n % 256).toNat])++[0,0]
def keyM (D:Dm) (T:Tm) (c:Co) (s:ByteArray):List UInt8:=(allM D T c s).flatMap wbytes
def TblAt (w:World) (lo hi:Nat) (v:Value) (D:Dm) (T:Tm):Prop :=
 ∃ pb m t,v=.pointer (some ⟨pb,0,none⟩)∧(lo≤pb∧pb<hi)∧w.cell? ⟨pb,0,none⟩=some m∧w.cell? ⟨pb,1,none⟩=some t∧DataAt w lo hi m D∧TabAt w lo hi t T
theorem TblAt.later {w w':World} {lo hi B:Nat} {v:Value} {D:Dm} {T:Tm} (h:TblAt w lo hi v D T) (hb:Below B w w') (hB:hi≤B):TblAt w' lo hi v D T:=by
 obtain⟨pb,m,t,rfl,h1,h2,h3,h4,h5⟩:=h
 exact⟨pb,m,t,rfl,h1,(hb.cell (p:=⟨pb,0,none⟩) (by show pb<B;omega)).trans h2,(hb.cell (p:=⟨pb,1,none⟩) (by show pb<B;omega)).trans h3,h4.later hb hB,h5.later hb hB⟩
theorem TblAt.wide {w:World} {lo hi lo' hi':Nat} {v:Value} {D:Dm} {T:Tm} (h:TblAt w lo hi v D T) (h1:lo'≤lo) (h2:hi≤hi'):TblAt w lo' hi' v D T:=by
 obtain⟨pb,m,t,rfl,a1,a2,a3,a4,a5⟩:=h
 exact⟨pb,m,t,rfl,by omega,a2,a3,a4.wide h1 h2,a5.wide h1 h2⟩
structure WfT (T:Tm):Prop where
 none:T.ent []=none
 long:∀ x,0≤T.long x∧T.long x≤8
 few:∀ l es,T.ent l=some es→es.length≤16
 fits:∀ l es,T.ent l=some es→∀ x∈es,(0≤x.p∧x.p≤65535)∧(0≤x.s∧x.s≤65535)∧(0≤x.t∧x.t≤65535)
theorem points_fine (s:ByteArray):So.Fine (U.pointsS s):=by
 intro x hx
 obtain⟨it,hit,rfl⟩:=List.mem_map.1 hx
 have key:∀ (f k:Nat),∀ it∈U.itemsF s f k,D.isI64 it.2:=by
  intro f
  induction f with
  | zero=>intro k it h;cases h
  | succ f ih =>
   intro k it h
   unfold U.itemsF at h
   split at h
   · split at h
     · rw[List.mem_singleton.1 h];show D.isI64 (-1);unfold D.isI64;omega
     · rcases List.mem_cons.1 h with rfl | h
       · have h1:=U.ptF_lt s k (U.wideN s k) (U.wideN s k-1)
         have h2:=U.wideN_le s k
         have h3:(2:Nat) ^ (8+6*(U.wideN s k-1))≤2 ^ 26:=Nat.pow_le_pow_right (by decide) (by omega)
         show D.isI64 ((U.ptF s k (U.wideN s k) (U.wideN s k-1):Nat):Int)
         unfold D.isI64
         omega
       · exact ih _ it h
   · cases h
 exact key _ _ it hit
theorem points_len (s:ByteArray):(U.pointsS s).length≤s.size:=by
 show (List.map _ _).length≤_
 rw[List.length_map]
 exact U.items_length s
end We
namespace Sc
open V (Same)
open We (Co)
inductive Fd where
 | mk (name:ByteArray) (kind:Nat) (down:Bool) (nulls:Nat) (bnd:Bool) (lob:Bool) (lom:ByteArray) (hib:Bool) (him:ByteArray) (most:Int) (co:Co) (fields:List Fd)
namespace Fd
def name:Fd→ByteArray | mk n _ _ _ _ _ _ _ _ _ _ _=>n
def kind:Fd→Nat | mk _ k _ _ _ _ _ _ _ _ _ _=>k
def down:Fd→Bool | mk _ _ d _ _ _ _ _ _ _ _ _=>d
def nulls:Fd→Nat | mk _ _ _ n _ _ _ _ _ _ _ _=>n
def bnd:Fd→Bool | mk _ _ _ _ b _ _ _ _ _ _ _=>b
def lob:Fd→Bool | mk _ _ _ _ _ b _ _ _ _ _ _=>b
def lom:Fd→ByteArray | mk _ _ _ _ _ _ m _ _ _ _ _=>m
def hib:Fd→Bool | mk _ _ _ _ _ _ _ b _ _ _ _=>b
def him:Fd→ByteArray | mk _ _ _ _ _ _ _ _ m _ _ _=>m
def most:Fd→Int | mk _ _ _ _ _ _ _ _ _ m _ _=>m
def co:Fd→Co | mk _ _ _ _ _ _ _ _ _ _ c _=>c
def fields:Fd→List Fd | mk _ _ _ _ _ _ _ _ _ _ _ l=>l
end Fd
theorem Fd.eta (f:Fd):f=.mk f.name f.kind f.down f.nulls f.bnd f.lob f.lom f.hib f.him f.most f.co f.fields:=by cases f;rfl
theorem Fd.ind {C:Fd→Prop} (h:∀ f:Fd,(∀ g∈f.fields,C g)→C f) (f:Fd):C f :=
 Fd.rec (motive_1:=C) (motive_2:=fun l=>∀ g∈l,C g) (fun n k d u b lb lm hb hm m c l ih=>h (.mk n k d u b lb lm hb hm m c l) ih) (fun g hg=>by cases hg)
  (fun hd tl h1 h2 g hg=>by
   rcases List.mem_cons.1 hg with e | e
   · exact e▸h1
   · exact h2 g e) f
structure FFit (f:Fd):Prop where
 n:f.name.size≤140737488351232
 k:f.kind<256
 u:f.nulls<256
 a:f.lom.size≤140737488351232
 b:f.him.size≤140737488351232
 m:D.isI64 f.most
 s:D.isI64 f.co.str
 l:f.fields.length≤140737488351232
def fcells (f:Fd) (v:Value):List Value :=
 [.string f.name,.int .u8 f.kind,.bool f.down,.int .u8 f.nulls,.bool f.bnd,.bool f.lob,.string f.lom,.bool f.hib,.string f.him,.int .i64 f.most,.int .i64 f.co.str,.bool f.co.sh,.bool f.co.back,v]
def FCells (w:World) (b o:Nat) (f:Fd) (v:Value):Prop:=∀ k (h:k<14),w.cell? ⟨b,o+k,none⟩=some ((fcells f v)[k]'h)
theorem FCells.same {lo hi b o:Nat} {w w':World} {f:Fd} {v:Value} (h:FCells w b o f v) (hs:Same lo hi w w') (h1:lo≤b) (h2:b<hi):FCells w' b o f v:=fun k hk=>hs.cell h1 h2 (h k hk)
inductive FI (w:World) (lo hi:Nat):List Fd→Value→Prop
 | mk (l:List Fd) (a:Option Addr) (cap:Nat) (F:Nat→Value) (hc:l.length≤cap)
  (cells:∀ j (h:j<l.length),∃ b off,a=some ⟨b,off,none⟩∧lo≤b∧b<hi∧FCells w b (off+j*14) l[j] (F j))
  (fits:∀ j (h:j<l.length),FFit l[j]) (deep:∀ j (h:j<l.length),FI w lo hi l[j].fields (F j)):FI w lo hi l (.slice a l.length cap)
theorem FI.same {lo hi:Nat} {w w':World} {l:List Fd} {v:Value} (h:FI w lo hi l v) (hs:Same lo hi w w'):FI w' lo hi l v:=by
 induction h with
 | mk l a cap F hc cells fits deep ih =>
  exact .mk l a cap F hc (fun j hj=>by
   obtain⟨b,off,ha,h1,h2,h3⟩:=cells j hj
   exact⟨b,off,ha,h1,h2,h3.same hs h1 h2⟩) fits ih
theorem FI.wide {lo hi lo' hi':Nat} {w:World} {l:List Fd} {v:Value} (h:FI w lo hi l v) (h1:lo'≤lo) (h2:hi≤hi'):FI w lo' hi' l v:=by
 induction h with
 | mk l a cap F hc cells fits deep ih =>
  exact .mk l a cap F hc (fun j hj=>by
   obtain⟨b,off,ha,h3,h4,h5⟩:=cells j hj
   exact⟨b,off,ha,by omega,by omega,h5⟩) fits ih
theorem FI.nil (w:World) (lo hi:Nat):FI w lo hi [] (.slice none 0 0):=.mk [] none 0 (fun _=>.slice none 0 0) lr (fun j h=>by cases h) (fun j h=>by cases h) (fun j h=>by cases h)
theorem FI.open {lo hi:Nat} {w:World} {l:List Fd} {v:Value} (h:FI w lo hi l v):∃ (a:Option Addr) (cap:Nat),v=.slice a l.length cap∧l.length≤cap ∧
 ∀ j (h:j<l.length),∃ b off u,a=some ⟨b,off,none⟩∧lo≤b∧b<hi∧FCells w b (off+j*14) l[j] u∧FFit l[j]∧FI w lo hi l[j].fields u:=by
 cases h with
 | mk _ a cap F hc cells fits deep =>
  refine⟨a,cap,rfl,hc,fun j hj=>?_⟩
  obtain⟨b,off,ha,h1,h2,h3⟩:=cells j hj
  exact⟨b,off,F j,ha,h1,h2,h3,fits j hj,deep j hj⟩
def FV (w:World) (hi:Nat) (f:Fd) (x:Value):Prop:=∃ v,x=.agg (fcells f v).toArray∧FFit f∧FI w 0 hi f.fields v
theorem FV.same {hi:Nat} {w w':World} {f:Fd} {x:Value} (h:FV w hi f x) (hs:Same 0 hi w w'):FV w' hi f x:=by
 obtain⟨v,h1,h2,h3⟩:=h
 exact⟨v,h1,h2,h3.same hs⟩
theorem FV.wide {hi hi':Nat} {w:World} {f:Fd} {x:Value} (h:FV w hi f x) (h1:hi≤hi'):FV w hi' f x:=by
 obtain⟨v,h2,h3,h4⟩:=h
 exact⟨v,h2,h3,h4.wide lr h1⟩
def inName (c:UInt8):Bool:=decide ((97≤c∧c≤122)∨(48≤c∧c≤57)∨c=45)
def isNameM (s:List UInt8):Bool:=match s with
 | []=>false
 | c::r=>decide ((c::r).length≤16)&&decide (97≤c∧c≤122)&&(c::r).all inName
def Co.zero (c:Co):Bool:=decide (c.str=0)&&!c.sh&&!c.back
def oddIntM (f:Fd):Bool :=
 if f.bnd then !(chk f.lob f.lom.toList==0&&chk f.hib f.him.toList==0&&decide (ncmp f.lob f.lom.toList f.hib f.him.toList≤0))
 else f.lob || !f.lom.toList.isEmpty || f.hib || !f.him.toList.isEmpty
def oddM (f:Fd):Bool :=
 if f.kind<1∨7<f.kind∨2<f.nulls then true
 else if (f.kind≠2∧(f.bnd || f.lob || !f.lom.toList.isEmpty || f.hib || !f.him.toList.isEmpty)=true)∨(¬ (f.kind=3∨f.kind=5)∧f.most≠0)∨(f.kind≠6∧Co.zero f.co=false)∨(f.kind≠7∧f.fields≠[]) then true
 else if f.kind=2 then oddIntM f
 else if f.kind=3∨f.kind=5 then decide (f.most<0∨65536<f.most)
 else if f.kind=6 then !decide f.co.ok
 else false
def fineM (n d:Nat) (ahead:List Fd) (f:Fd):Bool :=
 decide (n≤64)&&decide (d≤16)&&isNameM f.name.toList&&ahead.all (fun x=>!(x.name.toList==f.name.toList))&&!oddM f&&!(f.kind==7&&f.fields.isEmpty)
mutual
def walkF (n d:Nat) (ahead:List Fd):Fd→Option Nat
 | .mk a k e u b lb lm hb hm m c l=>if fineM (n+1) (d+1) ahead (.mk a k e u b lb lm hb hm m c l) then walkL (n+1) (d+1) [] l else none
def walkL (n d:Nat) (ahead:List Fd):List Fd→Option Nat
 | []=>some n
 | f::r=>match walkF n d ahead f with
  | none=>none
  | some k=>walkL k d (ahead++[f]) r
end
theorem walkF_eq (n d:Nat) (ahead:List Fd) (f:Fd):walkF n d ahead f=if fineM (n+1) (d+1) ahead f then walkL (n+1) (d+1) [] f.fields else none:=by
 cases f;rw[walkF];rfl
theorem walkL_nil (n d:Nat) (ahead:List Fd):walkL n d ahead []=some n:=by rw[walkL]
theorem walkL_cons (n d:Nat) (ahead:List Fd) (f:Fd) (r:List Fd):walkL n d ahead (f::r)=(walkF n d ahead f).bind fun k=>walkL k d (ahead++[f]) r:=by
 rw[walkL]
 cases walkF n d ahead f<;>rfl
def okS (limit:Int) (l:List Fd):Bool:=decide (1≤limit∧limit≤65536)&&!l.isEmpty&&(walkL 0 0 [] l).isSome
mutual
theorem walkF_mono (d:Nat):∀ (f:Fd) (n n' m:Nat) (a a':List Fd),(∀ x∈a',x∈a)→n'≤n→walkF n d a f=some m→n≤m∧walkF n' d a' f=some (m-n+n')
 | .mk an k e u b lb lm hb hm mo c l=>fun n n' m a a' ha hn h=>by
  rw[walkF_eq] at h ⊢
  split at h
  · next hf =>
    have hf':fineM (n'+1) (d+1) a' (.mk an k e u b lb lm hb hm mo c l)=true:=by
     simp only [fineM,Bool.and_eq_true,List.all_eq_true,decide_eq_true_eq] at hf ⊢
     exact⟨⟨⟨⟨⟨by omega,hf.1.1.1.1.2⟩,hf.1.1.1.2⟩,fun x hx=>hf.1.1.2 x (ha x hx)⟩,hf.1.2⟩,hf.2⟩
    rw[if_pos hf']
    have h2:=walkL_mono (d+1) l (n+1) (n'+1) m [] [] (fun _ h=>h) (by omega) h
    refine⟨by omega,?_⟩
    rw[show (Fd.mk an k e u b lb lm hb hm mo c l).fields=l from rfl,h2.2]
    congr 1
    omega
  · cases h
theorem walkL_mono (d:Nat):∀ (l:List Fd) (n n' m:Nat) (a a':List Fd),(∀ x∈a',x∈a)→n'≤n→walkL n d a l=some m→n≤m∧walkL n' d a' l=some (m-n+n')
 | []=>fun n n' m a a' ha hn h=>by
  rw[walkL_nil] at h ⊢
  injection h with h
  subst h
  exact⟨Nat.le_refl _,by congr 1;omega⟩
 | f::r=>fun n n' m a a' ha hn h=>by
  rw[walkL_cons] at h ⊢
  cases hf:walkF n d a f with
  | none=>rw[hf] at h;cases h
  | some k =>
   rw[hf] at h
   have h1:=walkF_mono d f n n' k a a' ha hn hf
   have h2:=walkL_mono d r k (k-n+n') m (a++[f]) (a'++[f]) (fun x hx=>by
    rcases List.mem_append.1 hx with h | h
    · exact List.mem_append_left _ (ha x h)
    · exact List.mem_append_right _ h) (by omega) h
   rw[h1.2]
   refine⟨by omega,?_⟩
   rw[Option.bind_some,h2.2]
   congr 1
   omega
end
inductive OkF:Nat→Fd→Prop
 | mk (d:Nat) (f:Fd) (hd:d<16) (hn:isNameM f.name.toList=true) (ho:oddM f=false) (h7:f.kind=7→f.fields≠[]) (hl:f.fields.length≤64) (h:∀ g∈f.fields,OkF (d+1) g):OkF d f
mutual
theorem walkF_ok (d:Nat):∀ (f:Fd) (n m:Nat) (a:List Fd),walkF n d a f=some m→n<m∧m≤64∧OkF d f
 | .mk an k e u b lb lm hb hm mo c l=>fun n m a h=>by
  rw[walkF_eq] at h
  split at h
  · next hf =>
    simp only [fineM,Bool.and_eq_true,List.all_eq_true,decide_eq_true_eq] at hf
    obtain⟨h1,h2,h3⟩:=walkL_ok (d+1) l (n+1) m [] (by omega) h
    refine⟨by omega,h2,.mk d _ (by omega) hf.1.1.1.2 (by simpa using hf.1.2) (fun h7 he=>?_) (by show l.length≤64;omega) h3⟩
    have h4:=hf.2
    rw[h7,he] at h4
    simp at h4
  · cases h
theorem walkL_ok (d:Nat):∀ (l:List Fd) (n m:Nat) (a:List Fd),n≤64→walkL n d a l=some m→n+l.length≤m∧m≤64∧∀ g∈l,OkF d g
 | []=>fun n m a hn h=>by
  rw[walkL_nil] at h
  injection h with h
  subst h
  exact⟨Nat.le_refl _,hn,fun g hg=>by cases hg⟩
 | f::r=>fun n m a hn h=>by
  rw[walkL_cons] at h
  cases hf:walkF n d a f with
  | none=>rw[hf] at h;cases h
  | some k =>
   rw[hf] at h
   obtain⟨h1,h2,h3⟩:=walkF_ok d f n k a hf
   obtain⟨h4,h5,h6⟩:=walkL_ok d r k m (a++[f]) h2 h
   refine⟨by rw[List.length_cons];omega,h5,fun g hg=>?_⟩
   rcases List.mem_cons.1 hg with rfl | hg
   · exact h3
   · exact h6 g hg
end
theorem walkL_one (d:Nat):∀ (l:List Fd) (n m:Nat) (a:List Fd) (f:Fd),f∈l→walkL n d a l=some m→∃ k,walkL 0 d [] [f]=some k:=by
 intro l
 induction l with
 | nil=>intro n m a f hf;cases hf
 | cons g r ih =>
  intro n m a f hf h
  rw[walkL_cons] at h
  cases hg:walkF n d a g with
  | none=>rw[hg] at h;cases h
  | some k =>
   rw[hg] at h
   rcases List.mem_cons.1 hf with rfl | hf
   · refine⟨k-n+0,?_⟩
     rw[walkL_cons,(walkF_mono d f n 0 k a [] (fun _ h=>by cases h) (Nat.zero_le _) hg).2,Option.bind_some,walkL_nil]
   · exact ih k m _ f hf h
theorem okS_one {limit:Int} {l:List Fd} {f:Fd} (h:okS limit l=true) (hf:f∈l):okS 65536 [f]=true:=by
 simp only [okS,Bool.and_eq_true,Option.isSome_iff_exists] at h ⊢
 obtain⟨_,m,hm⟩:=h
 exact⟨⟨by decide,rfl⟩,walkL_one 0 l 0 m [] f hf hm⟩
theorem okS_all {limit:Int} {l:List Fd} (h:okS limit l=true):1≤limit∧limit≤65536∧l≠[]∧l.length≤64∧∀ f∈l,OkF 0 f:=by
 simp only [okS,Bool.and_eq_true,Option.isSome_iff_exists,decide_eq_true_eq] at h
 obtain⟨⟨h1,h2⟩,m,hm⟩:=h
 obtain⟨h3,h4,h5⟩:=walkL_ok 0 l 0 m [] (by omega) hm
 exact⟨h1.1,h1.2,fun he=>by(rw[he] at h2;cases h2),by omega,h5⟩
theorem OkF.kind {d:Nat} {f:Fd} (h:OkF d f):1≤f.kind∧f.kind≤7∧f.nulls≤2:=by
 cases h with
 | mk _ _ hd hn ho h7 hl h =>
  unfold oddM at ho
  split at ho
  · cases ho
  · omega
def nameB:List UInt8:=[97,98,99,100,101,102,103,104,105,106,107,108,109,110,111,112,113,114,115,116,117,118,119,120,121,122,48,49,50,51,52,53,54,55,56,57,45]
theorem nameB_in (c:UInt8):nameB.contains c=inName c:=by
 have key:∀ n:Fin 256,nameB.contains (UInt8.ofNat n)=inName (UInt8.ofNat n):=by decide +kernel
 have:=key ⟨c.toNat,c.toNat_lt⟩
 simpa using this
theorem dropW_nil {p:UInt8→Bool} (l:List UInt8):l.dropWhile p=[]↔l.all p=true:=by
 induction l with
 | nil=>simp
 | cons c r ih =>
  by_cases h:p c=true
  · simp[h,ih]
  · simp[h]
theorem dropW_all {p:UInt8→Bool} (l:List UInt8):(l.dropWhile p).all p=l.all p:=by
 induction l with
 | nil=>rfl
 | cons c r ih =>
  by_cases h:p c=true
  · simp[h,ih]
  · simp[h]
theorem trim_name (l:List UInt8):Lib.trimS l nameB=[]↔l.all inName=true:=by
 have hp:(fun c=>nameB.contains c)=inName:=funext nameB_in
 unfold Lib.trimS Lib.trimLeftS Lib.trimRightS
 rw[dropW_nil,List.all_reverse,dropW_all,List.all_reverse,hp]
theorem isNameM_cons (c:UInt8) (r:List UInt8):isNameM (c::r)=(decide ((c::r).length≤16)&&decide (97≤c∧c≤122)&&(c::r).all inName):=rfl
theorem trimName_c (p:ByteArray) (w:World) (hp:p.size≤9223372036854775807) :
 Calls prog 104 #[.string p,.string ⟨#[97,98,99,100,101,102,103,104,105,106,107,108,109,110,111,112,113,114,115,116,117,118,119,120,121,122,48,49,50,51,52,53,54,55,56,57,45]⟩] w fun e w'=>∃ q:ByteArray,e=.returned (.string q)∧Hid (q.toList=Lib.trimS p.toList nameB)∧Below w.heap.size w w' :=
 (Any.strings_Trim_laid Tryz.lays160 (by kernel_rfl) p ⟨#[97,98,99,100,101,102,103,104,105,106,107,108,109,110,111,112,113,114,115,116,117,118,119,120,121,122,48,49,50,51,52,53,54,55,56,57,45]⟩ w hp (by decide) (ascii_of_all (by decide))).mono fun _ _ ⟨he,hb⟩ =>
  ⟨_,he,by show ByteArray.toList _=_;rw[ByteArray.toList_mk,Lib.toList_data];rfl,hb⟩
theorem isName_any (s:ByteArray) (hs:s.size≤140737488351232) (w:World):Calls prog 81 #[.string s] w fun e w'=>e=.returned (.bool (isNameM s.toList))∧Below w.heap.size w w':=by
 have hsz:=V.size_of s
 by_cases h0:s.size=0
 · have hl:s.toList=[]:=List.eq_nil_of_length_eq_zero (by omega)
   have hn:isNameM s.toList=false:=by rw[hl];rfl
   have q1:s.toList.isEmpty=true:=by rw[hl];rfl
   rw[hn]
   go_enter func81,ntmps81
   go_wp2_with fail
   go_ret
   exact⟨rfl,zr⟩
 have q1:s.toList.isEmpty=false:=by
  cases h:s.toList with
  | nil=>rw[h] at hsz;exact absurd hsz.symm h0
  | cons=>rfl
 by_cases h16:16<s.size
 · have q2:decide ((16:Int)<(s.size:Int))=true:=decide_eq_true (by omega)
   have hn:isNameM s.toList=false:=by
    cases h:s.toList with
    | nil=>rfl
    | cons c r =>
     rw[h] at hsz
     rw[isNameM_cons,decide_eq_false (by omega:¬ (c::r).length≤16)]
     rfl
   rw[hn]
   go_enter func81,ntmps81
   go_wp2_with fail
   go_ret
   exact⟨rfl,zr⟩
 have q2:decide ((16:Int)<(s.size:Int))=false:=decide_eq_false (by omega)
 obtain⟨c,hc⟩:∃ c,s[0]=c:=⟨_,rfl⟩
 have hcl:∃ r,s.toList=c::r:=by
  have:=head_of s (by omega)
  cases h:s.toList with
  | nil=>rw[h] at hsz;exact absurd hsz.symm h0
  | cons d r=>rw[h] at this;simp only [List.head?_cons,Option.some.injEq] at this;exact⟨r,by rw[this,hc]⟩
 have hpos:0<s.size:=by omega
 obtain⟨r,hcr⟩:=hcl
 have h97:(97:UInt8).toNat=97:=rfl
 have h122:(122:UInt8).toNat=122:=rfl
 by_cases hlo:c.toNat<97
 · have q3:decide ((c.toNat:Int)<97)=true:=decide_eq_true (by omega)
   have hn:isNameM s.toList=false:=by
    rw[hcr,isNameM_cons,decide_eq_false (p:=97≤c∧c≤122) (fun h=>by have h1:(97:UInt8).toNat≤c.toNat:=h.1;omega)]
    simp
   rw[hn]
   go_enter func81,ntmps81
   go_wp2_with fail
   go_ret
   exact⟨rfl,zr⟩
 have q3:decide ((c.toNat:Int)<97)=false:=decide_eq_false (by omega)
 by_cases hhi:122<c.toNat
 · have q4:decide (122<(c.toNat:Int))=true:=decide_eq_true (by omega)
   have hn:isNameM s.toList=false:=by
    rw[hcr,isNameM_cons,decide_eq_false (p:=97≤c∧c≤122) (fun h=>by have h1:c.toNat≤(122:UInt8).toNat:=h.2;omega)]
    simp
   rw[hn]
   go_enter func81,ntmps81
   go_wp2_with fail
   go_ret
   exact⟨rfl,zr⟩
 have q4:decide (122<(c.toNat:Int))=false:=decide_eq_false (by omega)
 have hn:isNameM s.toList=s.toList.all inName:=by
  rw[hcr,isNameM_cons,decide_eq_true (p:=97≤c∧c≤122) ⟨by show (97:UInt8).toNat≤c.toNat;omega,by show c.toNat≤(122:UInt8).toNat;omega⟩,decide_eq_true (by rw[← hcr];omega:(c::r).length≤16)]
  rfl
 rw[hn]
 have HT:=zh (trim_name s.toList)
 clear hn hcr h97 h122
 go_enter func81,ntmps81
 go_wp2_with (first | (go_at_call 104;refine(trimName_c s _ (by omega)).mono ?_;rintro e w1 ⟨q,rfl,hq,hb⟩;have HQ:=zh hb))
 go_ret
 refine⟨?_,HQ.out⟩
 congr 2
 rw[hq.out]
 cases h:s.toList.all inName with
 | true=>rw[HT.out.2 h];rfl
 | false =>
  cases h2:Lib.trimS s.toList nameB with
  | nil=>rw[HT.out.1 h2] at h;cases h
  | cons=>rfl
theorem fcells_mk (nm:ByteArray) (k:Nat) (dn:Bool) (nu:Nat) (bd lb:Bool) (lm:ByteArray) (hb:Bool) (hm:ByteArray) (mo st:Int) (sh bk:Bool) (fs:List Fd) (v:Value) :
 Value.agg (fcells (.mk nm k dn nu bd lb lm hb hm mo ⟨st,sh,bk⟩ fs) v).toArray=.agg #[.string nm,.int .u8 k,.bool dn,.int .u8 nu,.bool bd,.bool lb,.string lm,.bool hb,.string hm,.int .i64 mo,.int .i64 st,.bool sh,.bool bk,v]:=rfl
theorem oddMost_any (f:Fd) (v:Value) (hv:∃ a n c,v=.slice a n c) (w:World):Calls prog 142 #[.agg (fcells f v).toArray] w fun e w'=>e=.returned (.bool (decide (f.most<0∨65536<f.most)))∧Below w.heap.size w w':=by
 obtain⟨a,n,c,rfl⟩:=hv
 obtain⟨nm,k,dn,nu,bd,lb,lm,hb,hm,mo,⟨st,sh,bk⟩,fs⟩:=f
 rw[fcells_mk]
 show Calls _ _ _ _ fun e w'=>e=.returned (.bool (decide (mo<0∨65536<mo)))∧_
 rw[Bool.decide_or]
 go_enter func142,ntmps142
 go_wp2_with fail
 all_goals
  go_ret
  exact⟨by simp[*],zr.alloc lr _⟩
theorem oddText_any (f:Fd) (v:Value) (hv:∃ a n c,v=.slice a n c) (w:World):Calls prog 145 #[.agg (fcells f v).toArray] w fun e w'=>e=.returned (.bool (!decide f.co.ok))∧Below w.heap.size w w':=by
 obtain⟨a,n,c,rfl⟩:=hv
 obtain⟨nm,k,dn,nu,bd,lb,lm,hb,hm,mo,⟨st,sh,bk⟩,fs⟩:=f
 rw[fcells_mk]
 show Calls _ _ _ _ fun e w'=>e=.returned (.bool (!decide (1≤st∧st≤4∧(st=4→sh=true))))∧_
 cases sh
 all_goals
  go_enter func145,ntmps145
  go_wp2_with fail
 all_goals
  go_ret
  refine⟨congrArg (fun b=>Ending.returned (.bool b)) ?_,(zr.alloc lr _).alloc (by simp) _⟩
  rw[Bool.eq_iff_iff]
  simp
  try omega
theorem oddInt_any (f:Fd) (v:Value) (hv:∃ a n c,v=.slice a n c) (hf:FFit f) (w:World):Calls prog 139 #[.agg (fcells f v).toArray] w fun e w'=>e=.returned (.bool (oddIntM f))∧Below w.heap.size w w':=by
 obtain⟨a,n,c,rfl⟩:=hv
 obtain⟨nm,k,dn,nu,bd,lb,lm,hb,hm,mo,⟨st,sh,bk⟩,fs⟩:=f
 rw[fcells_mk]
 have h1:lm.size≤9223372036854775807:=by have:=hf.a;simp only [Fd.lom] at this;omega
 have h2:hm.size≤9223372036854775807:=by have:=hf.b;simp only [Fd.him] at this;omega
 obtain⟨X,hX⟩:∃ X,oddIntM (.mk nm k dn nu bd lb lm hb hm mo ⟨st,sh,bk⟩ fs)=X:=⟨_,rfl⟩
 rw[hX]
 have hX2:(if bd then !(chk lb lm.toList==0&&chk hb hm.toList==0&&decide (ncmp lb lm.toList hb hm.toList≤0)) else lb || !lm.toList.isEmpty || hb || !hm.toList.isEmpty)=X:=hX
 clear hX hf
 cases bd
 · rw[if_neg (by decide)] at hX2
   go_enter func139,ntmps139
   go_wp2_with fail
   all_goals
    go_ret
    refine⟨congrArg (fun b=>Ending.returned (.bool b)) ?_,zr.alloc lr _⟩
    subst hX2
    simp_all
 · rw[if_pos rfl] at hX2
   by_cases ha:chk lb lm.toList=0
   · by_cases hb2:chk hb hm.toList=0
     · have hX3:decide (0<ncmp lb lm.toList hb hm.toList)=X:=by
        rw[← hX2,ha,hb2,Bool.eq_iff_iff]
        simp
       obtain⟨r,hr⟩:∃ r,ncmp lb lm.toList hb hm.toList=r:=⟨_,rfl⟩
       rw[hr] at hX3
       clear hX2
       subst hX3
       go_enter func139,ntmps139
       go_wp2_with (go_at_call 50;refine(compare_ok lb lm hb hm _ ha hb2 _ hr).mono ?_;rintro e w1 ⟨rfl,hb1⟩;have HB:=zh hb1)
       go_ret
       exact⟨rfl,(zr.alloc lr _).trans (HB.out.mono (by simp))⟩
     · have hX3:true=X:=by
        rw[← hX2,ha,show (chk hb hm.toList==0)=false by simpa using hb2]
        rfl
       obtain⟨r,hr⟩:∃ r,chk hb hm.toList=r:=⟨_,rfl⟩
       rw[hr] at hb2
       have q1:(r != 0)=true:=by simpa using hb2
       subst hX3
       go_enter func139,ntmps139
       go_wp2_with (go_at_call 50;refine(compare_bad lb lm hb hm _ h1 h2 r (.inr ⟨ha,hr,hb2⟩)).mono ?_;rintro e w1 ⟨rfl,hb1⟩;have HB:=zh hb1)
       go_ret
       exact⟨rfl,(zr.alloc lr _).trans (HB.out.mono (by simp))⟩
   · have hX3:true=X:=by
      rw[← hX2,show (chk lb lm.toList==0)=false by simpa using ha]
      rfl
     obtain⟨r,hr⟩:∃ r,chk lb lm.toList=r:=⟨_,rfl⟩
     rw[hr] at ha
     have q1:(r != 0)=true:=by simpa using ha
     subst hX3
     go_enter func139,ntmps139
     go_wp2_with (go_at_call 50;refine(compare_bad lb lm hb hm _ h1 h2 r (.inl ⟨hr,ha⟩)).mono ?_;rintro e w1 ⟨rfl,hb1⟩;have HB:=zh hb1)
     go_ret
     exact⟨rfl,(zr.alloc lr _).trans (HB.out.mono (by simp))⟩
theorem never_any (x:Array Value) (w:World):Calls prog 136 #[.agg x] w fun e w'=>e=.returned (.bool false)∧Below w.heap.size w w':=by
 go_enter func136,ntmps136
 go_wp2_with fail
 go_ret
 exact⟨rfl,by first | exact Below.refl _ _ | exact zr.alloc lr _⟩
def kindCells:Array Value:=#[
 .string ⟨#[98,111,111,108]⟩,.func (.func 136) #[] #[],.func (.func 137) #[] #[],.func (.func 138) #[] #[],
 .string ⟨#[105,110,116]⟩,.func (.func 139) #[] #[],.func (.func 140) #[] #[],.func (.func 141) #[] #[],
 .string ⟨#[98,121,116,101,115]⟩,.func (.func 142) #[] #[],.func (.func 143) #[] #[],.func (.func 144) #[] #[],
 .string ⟨#[105,100]⟩,.func (.func 136) #[] #[],.func (.func 137) #[] #[],.func (.func 138) #[] #[],
 .string ⟨#[110,97,109,101]⟩,.func (.func 142) #[] #[],.func (.func 143) #[] #[],.func (.func 144) #[] #[],
 .string ⟨#[116,101,120,116]⟩,.func (.func 145) #[] #[],.func (.func 146) #[] #[],.func (.func 147) #[] #[],
 .string ⟨#[116,117,112,108,101]⟩,.func (.func 136) #[] #[],.func (.func 137) #[] #[],.func (.func 138) #[] #[]]
theorem kinds_any (w:World):Calls prog 105 #[] w fun e w'=>e=.returned (.slice (some ⟨w.heap.size,0,none⟩) 7 7)∧w'=w.alloc (.cells kindCells 246):=by
 go_enter func105,ntmps105
 go_wp2_with fail
 go_ret
 exact⟨rfl,rfl⟩
theorem kinds_at (w:World):Calls prog 105 #[] w fun e w'=>e=.returned (.slice (some ⟨w.heap.size,0,none⟩) 7 7)∧Below w.heap.size w w'∧∀ j,w'.cell? ⟨w.heap.size,j,none⟩=kindCells[j]? :=
 (kinds_any w).mono fun e w' ⟨he,hw⟩=>⟨he,by rw[hw];exact zr.alloc lr _,fun j=>by rw[hw];simp⟩
def oddFn (k:Nat):Nat:=if k=2 then 139 else if k=3∨k=5 then 142 else if k=6 then 145 else 136
def oddKind (f:Fd):Bool:=if f.kind=2 then oddIntM f else if f.kind=3∨f.kind=5 then decide (f.most<0∨65536<f.most) else if f.kind=6 then !decide f.co.ok else false
theorem oddFn_any (f:Fd) (v:Value) (hv:∃ a n c,v=.slice a n c) (hf:FFit f) (w:World):Calls prog (oddFn f.kind) #[.agg (fcells f v).toArray] w fun e w'=>e=.returned (.bool (oddKind f))∧Below w.heap.size w w':=by
 unfold oddFn oddKind
 split
 · exact oddInt_any f v hv hf w
 · split
   · exact oddMost_any f v hv w
   · split
     · exact oddText_any f v hv w
     · exact never_any _ w
def oddX (k nu:Nat) (bd lb:Bool) (lm:ByteArray) (hb:Bool) (hm:ByteArray) (mo:Int) (co:Co) (fs:List Fd) (Y:Bool):Bool :=
 if k<1∨7<k∨2<nu then true
 else if (k≠2∧(bd || lb || !lm.toList.isEmpty || hb || !hm.toList.isEmpty)=true)∨(¬ (k=3∨k=5)∧mo≠0)∨(k≠6∧Co.zero co=false)∨(k≠7∧fs≠[]) then true else Y
theorem oddM_eq (f:Fd):oddM f=oddX f.kind f.nulls f.bnd f.lob f.lom f.hib f.him f.most f.co f.fields (oddKind f):=rfl
def OddPost (X:Bool) (w:World) (e:Ending) (w':World):Prop:=e=.returned (.bool X)∧Below w.heap.size w w'
theorem cellA (w:World) (cs:Array Value) (t:TypeId) (i:Nat):(w.alloc (.cells cs t)).cell? ⟨w.heap.size,i,none⟩=cs[i]?:=by simp
end Sc
section
def badAt (a:Int):Ending:=.panicked [{ v:=.iface 290 (.agg #[.int .i64 a]),recovered:=false }]
theorem must_yes (a:Int) (w:World):Calls prog 171 #[.bool true,.int .i64 a] w fun e w'=>e=.returned (.tuple #[])∧w=w':=by
 have hnot:∀ (x:Bool) (w:World),(Op.unary .not (.bool x)).run prog w=.ok (.bool (!x)) w:=fun _ _=>rfl
 go_enter func171,ntmps171
 go_wp2
 go_end0
 exact⟨rfl,rfl⟩
theorem must_no (a:Int) (w:World):Calls prog 171 #[.bool false,.int .i64 a] w fun e w'=>e=badAt a∧w=w':=by
 have hnot:∀ (x:Bool) (w:World),(Op.unary .not (.bool x)).run prog w=.ok (.bool (!x)) w:=fun _ _=>rfl
 go_enter func171,ntmps171
 go_wp2
 exact⟨rfl,rfl,rfl⟩
structure Mv (b:Nat) (w w':World):Prop where
 os:w'.os=w.os
 tape:w'.tape=w.tape
 output:w'.output=w.output
 size:w.heap.size≤w'.heap.size
 block:∀ k,k≠b→w'.heap[k]?=w.heap[k]?
theorem Mv.refl (b:Nat) (w:World):Mv b w w:=⟨rfl,rfl,rfl,Nat.le_refl _,fun _ _=>rfl⟩
theorem Mv.drew {b:Nat} {w w':World} (h:Mv b w w'):Mv b w w'.drew:=⟨h.os,h.tape,h.output,h.size,h.block⟩
theorem Mv.drewN {b:Nat} {w w':World} (h:Mv b w w') (n:Nat):Mv b w (w'.drewN n):=⟨h.os,h.tape,h.output,h.size,h.block⟩
theorem Mv.trans {b:Nat} {w w' w'':World} (h:Mv b w w') (k:Mv b w' w''):Mv b w w'' :=
 ⟨k.os.trans h.os,k.tape.trans h.tape,k.output.trans h.output,Nat.le_trans h.size k.size,fun q hq=>(k.block q hq).trans (h.block q hq)⟩
theorem Mv.set_ {b:Nat} {w w':World} (h:Mv b w w') (i:Nat) (v:Value):Mv b w (w'.setCell ⟨b,i,none⟩ v) :=
 ⟨h.os,h.tape,h.output,by simpa[World.setCell] using h.size,fun q hq=>by rw[Below.heap_setCell _ _ _ _ hq];exact h.block q hq⟩
theorem Mv.below {b B:Nat} {w w':World} (h:Mv b w w') (hB:B≤b):Below B w w':=⟨h.os,h.tape,h.output,h.size,fun k hk=>h.block k (by omega)⟩
theorem OwnB.mv {w w':World} {base b:Nat} {v:Value} {l:List UInt8} (h:OwnB w base v l) (hb:b<base) (hm:Mv b w w'):OwnB w' base v l:=by
 refine⟨h.1,?_⟩
 rcases h.2 with hn | ⟨g,cap,cur,rfl,hg,hgg,rest⟩
 · exact .inl hn
 · exact .inr ⟨g,cap,cur,rfl,hg,(hm.block g (by omega)).trans hgg,rest⟩
def Rd (w:World) (b:Nat) (s:ByteArray) (a:Nat):Prop:=Blk w b 294 #[.string s,.int .i64 a]
theorem Rd.step {w:World} {b:Nat} {s:ByteArray} {a:Nat} (h:Rd w b s a) (x:Int) (hx:x=((a+1:Nat):Int)) :
 Rd (w.setCell ⟨b,1,none⟩ (.int .i64 x)) b s (a+1):=by
 subst hx
 exact Blk.set_ h 1 _
theorem Rd.drew {w:World} {b:Nat} {s:ByteArray} {a:Nat} (h:Rd w b s a):Rd w.drew b s a:=h
theorem next_ok (b:Nat) (s:ByteArray) (a:Nat) (w:World) (hr:Rd w b s a) (ha:a<s.size) (hs:s.size≤9223372036854775807) :
 Calls prog 170 #[.pointer (some ⟨b,0,none⟩)] w fun e w'=>e=.returned (.int .u8 (s[a].toNat:Int))∧Rd w' b s (a+1)∧Mv b w w':=by
 have c0:w.cell? ⟨b,0,none⟩=some (.string s):=hr.cell 0
 have c1:w.cell? ⟨b,1,none⟩=some (.int .i64 (a:Int)):=hr.cell 1
 have z1:w.frozen? ⟨b,1,none⟩=false:=hr.frozen 1
 have hlt:decide ((a:Int)<(s.size:Int))=true:=by simpa using ha
 go_enter func170,ntmps170
 go_wp2_with (go_quiet (exact(must_yes _ _).mono fun _ _ ⟨h1,h2⟩=>⟨h1,_,h2.symm⟩))
 go_ret
 exact⟨rfl,Rd.step (show Rd (w.drewN _) b s a from hr) _ (by omega),(((Mv.refl b w).drewN _).set_ 1 _).drewN _⟩
theorem next_no (b:Nat) (s:ByteArray) (w:World) (hr:Rd w b s s.size) (_hs:s.size≤9223372036854775807) :
 Calls prog 170 #[.pointer (some ⟨b,0,none⟩)] w fun e w'=>e=badAt s.size∧Mv b w w':=by
 have c0:w.cell? ⟨b,0,none⟩=some (.string s):=hr.cell 0
 have c1:w.cell? ⟨b,1,none⟩=some (.int .i64 (s.size:Int)):=hr.cell 1
 have hlt:decide ((s.size:Int)<(s.size:Int))=false:=by simp
 go_enter func170,ntmps170
 go_wp2_with fail
 refine wp_region_held_drew (S:=fun w'=>w'.cell? ⟨b,0,none⟩=some (.string s)∧w'.cell? ⟨b,1,none⟩=some (.int .i64 (s.size:Int))∧w'.heap=w.heap) (by kernel_rfl) ⟨c0,c1,rfl⟩ (fun hHeld=>?_)
 refine tx 0 ?v0 rfl (by kernel_rfl) tq (by rfl) ?hy0 (by assumption) ?rest0
 case hy0=>(rintro w ⟨hc0,hc1,hh⟩;go_simp;try with_reducible rfl)
 simp[Act.put]
 refine tx 1 ?v1 rfl (by kernel_rfl) tq (by rfl) ?hy1 (by assumption) ?rest1
 case hy1=>(rintro w ⟨hc0,hc1,hh⟩;go_simp;try with_reducible rfl)
 simp[Act.put]
 refine tx 2 ?v2 rfl (by kernel_rfl) tq (by rfl) ?hy2 (by assumption) ?rest2
 case hy2=>(rintro w ⟨hc0,hc1,hh⟩;go_simp;try with_reducible rfl)
 simp[Act.put]
 refine tx 3 ?v3 rfl (by kernel_rfl) tq (by rfl) ?hy3 (by assumption) ?rest3
 case hy3=>(rintro w ⟨hc0,hc1,hh⟩;go_simp;try with_reducible rfl)
 simp[Act.put]
 refine tx 4 ?v4 rfl (by kernel_rfl) tq (by rfl) ?hy4 (by assumption) ?rest4
 case hy4=>(rintro w ⟨hc0,hc1,hh⟩;go_simp;try with_reducible rfl)
 simp[Act.put]
 refine tx 5 ?v5 rfl (by kernel_rfl) tq (by rfl) ?hy5 (by assumption) ?rest5
 case hy5=>(rintro w ⟨hc0,hc1,hh⟩;go_simp;try with_reducible rfl)
 simp[Act.put]
 refine tx 6 ?v6 rfl (by kernel_rfl) tq (by rfl) ?hy6 (by assumption) ?rest6
 case hy6=>(rintro w ⟨hc0,hc1,hh⟩;go_simp;try with_reducible rfl)
 simp[Act.put]
 refine tx 7 ?v7 rfl (by kernel_rfl) tq (by rfl) ?hy7 (by assumption) ?rest7
 case hy7=>(rintro w ⟨hc0,hc1,hh⟩;go_simp;try with_reducible rfl)
 simp[Act.put]
 refine tx 8 ?v8 rfl (by kernel_rfl) tq (by rfl) ?hy8 (by assumption) ?rest8
 case hy8=>(rintro w ⟨hc0,hc1,hh⟩;go_simp;try with_reducible rfl)
 simp[Act.put]
 refine tx 9 ?v9 rfl (by kernel_rfl) tq (by rfl) ?hy9 (by assumption) ?rest9
 case hy9=>(rintro w ⟨hc0,hc1,hh⟩;go_simp;try with_reducible rfl)
 simp[Act.put]
 refine tx 10 ?v10 rfl (by kernel_rfl) tq (by rfl) ?hy10 (by assumption) ?rest10
 case hy10=>(rintro w ⟨hc0,hc1,hh⟩;go_simp;try with_reducible rfl)
 simp[Act.put]
 refine tx 11 ?v11 rfl (by kernel_rfl) tq (by rfl) ?hy11 (by assumption) ?rest11
 case hy11=>(rintro w ⟨hc0,hc1,hh⟩;go_simp;try with_reducible rfl)
 simp[Act.put]
 refine tx 12 ?v12 rfl (by kernel_rfl) tq (by rfl) ?hy12 (by assumption) ?rest12
 case hy12=>(rintro w ⟨hc0,hc1,hh⟩;go_simp;try with_reducible rfl)
 simp[Act.put]
 refine tx 13 ?v13 rfl (by kernel_rfl) tq (by rfl) ?hy13 (by assumption) ?rest13
 case hy13=>(rintro w ⟨hc0,hc1,hh⟩;go_simp;try with_reducible rfl)
 simp[Act.put]
 refine tx 14 ?v14 rfl (by kernel_rfl) tq (by rfl) ?hy14 (by assumption) ?rest14
 case hy14=>(rintro w ⟨hc0,hc1,hh⟩;go_simp;try with_reducible rfl)
 simp[Act.put]
 refine wpAnyH_ready (rs:=[15]) (by kernel_rfl) (by simp) ?_
 refine AllReadyH.cons rfl (fun K hK=>?_) AllReadyH.nil
 go_simp
 refine(must_no _ _).mono ?_
 rintro e w1 ⟨rfl,rfl⟩
 exact⟨rfl,rfl,(Mv.refl b w).drew⟩
end
namespace V
theorem PartCells.as_ {b o:Nat} {w w':World} {p:Pt} {v:Value} (h:PartCells w b o p v) (e:w'.heap[b]?=w.heap[b]?):PartCells w' b o p v :=
 have k:∀ {o:Nat} {x:Value},w.cell? ⟨b,o,none⟩=some x→w'.cell? ⟨b,o,none⟩=some x:=fun hc=>(World.cell?_of_block (w:=w) e).trans hc
 ⟨k h.c0,k h.c1,k h.c2,k h.c3,k h.c4,k h.c5⟩
inductive PS (w:World) (S:Nat→Prop):List Pt→Value→Prop
 | mk (l:List Pt) (a:Option Addr) (cap:Nat) (F:Nat→Value) (hc:l.length≤cap)
  (cells:∀ j (h:j<l.length),∃ b off,a=some ⟨b,off,none⟩∧S b∧b<w.heap.size∧PartCells w b (off+j*6) l[j] (F j))
  (fits:∀ j (h:j<l.length),Fit l[j]) (deep:∀ j (h:j<l.length),PS w S l[j].items (F j)):PS w S l (.slice a l.length cap)
theorem PS.keep {S S':Nat→Prop} {w w':World} {l:List Pt} {v:Value} (h:PS w S l v) (hz:w.heap.size≤w'.heap.size) (hk:∀ k,k<w.heap.size→S k→w'.heap[k]?=w.heap[k]?) (hS:∀ k,k<w.heap.size→S k→S' k):PS w' S' l v:=by
 induction h with
 | mk l a cap F hc cells fits deep ih =>
  exact .mk l a cap F hc (fun j hj=>by
   obtain⟨b,off,ha,h1,h2,h3⟩:=cells j hj
   exact⟨b,off,ha,hS b h2 h1,Nat.lt_of_lt_of_le h2 hz,h3.as_ (hk b h2 h1)⟩) fits ih
theorem PS.nil (w:World) (S:Nat→Prop):PS w S [] (.slice none 0 0):=.mk [] none 0 (fun _=>.slice none 0 0) lr (fun j h=>by cases h) (fun j h=>by cases h) (fun j h=>by cases h)
theorem PS.form {S:Nat→Prop} {w:World} {l:List Pt} {v:Value} (h:PS w S l v):∃ a cap,v=.slice a l.length cap:=by
 cases h with
 | mk _ a cap _ _ _ _ _=>exact⟨a,cap,rfl⟩
theorem PS.reads {S:Nat→Prop} {w:World} {l:List Pt} {v:Value} (h:PS w S l v):PI w 0 w.heap.size l v:=by
 induction h with
 | mk l a cap F hc cells fits deep ih =>
  exact .mk l a cap F hc (fun j hj=>by
   obtain⟨b,off,ha,_,h2,h3⟩:=cells j hj
   exact⟨b,off,ha,Nat.zero_le _,h2,h3⟩) fits ih
def KidsS (w:World) (base:Nat) (pv rv:Value) (ps:List (Pt×Value)):Prop :=
 ∀ j (h:j<ps.length),PS w (fun k=>base≤k∧pv.ownBlock≠some k∧rv.ownBlock≠some k) ps[j].1.items ps[j].2∧Fit ps[j].1
def RowS (w:World) (base:Nat) (pv rv:Value) (ps:List (Pt×Value)):Prop :=
 w.ownsRow base 57 6 rv ps.length (flat ps)∧(∀ k,rv.ownBlock=some k→pv.ownBlock≠some k)∧KidsS w base pv rv ps
theorem RowS.nil (w:World) (base:Nat) (pv:Value):RowS w base pv (.slice none 0 0) []:=⟨⟨rfl,.inl ⟨rfl,rfl⟩⟩,(fun k h=>by cases h),(fun j h=>by cases h)⟩
theorem RowS.form {w:World} {base:Nat} {pv rv:Value} {ps:List (Pt×Value)} (h:RowS w base pv rv ps):∃ a cap,rv=.slice a ps.length cap:=row_slice h.1
theorem ownRow_lt {w:World} {base:Nat} {e:TypeId} {size n:Nat} {v:Value} {xs:List Value} (h:w.ownsRow base e size v n xs) {k:Nat} (hk:v.ownBlock=some k):base≤k∧k<w.heap.size:=World.ownsRow.lt h k hk
theorem ownRow_keep {w w':World} {base:Nat} {e:TypeId} {size n:Nat} {v:Value} {xs:List Value} (h:w.ownsRow base e size v n xs) (hk:∀ k,v.ownBlock=some k→w'.heap[k]?=w.heap[k]?):w'.ownsRow base e size v n xs:=by
 refine⟨h.1,?_⟩
 rcases h.2 with hn | ⟨g,cap,cur,rfl,hg,hgg,rest⟩
 · exact .inl hn
 · exact .inr ⟨g,cap,cur,rfl,hg,(hk g rfl).trans hgg,rest⟩
theorem RowS.xv {P:Nat→Prop} {w w':World} {base:Nat} {pv pv' rv:Value} {ps:List (Pt×Value)} (h:RowS w base pv rv ps) (hx:Xv P w w') (hP:∀ k,P k→k<base∨pv.ownBlock=some k)
 (hp:∀ k,pv'.ownBlock=some k→pv.ownBlock=some k∨w.heap.size≤k):RowS w' base pv' rv ps:=by
 obtain⟨h1,h2,h3⟩:=h
 have hr:∀ k,rv.ownBlock=some k→base≤k∧k<w.heap.size:=fun k hk=>ownRow_lt h1 hk
 refine⟨ownRow_keep h1 fun k hk=>hx.block k (hr k hk).2 fun e=>?_,fun k hk hk2=>?_,fun j hj=>⟨(h3 j hj).1.keep hx.size (fun k hk hS=>hx.block k hk fun e=>?_) (fun k hk hS=>⟨hS.1,fun e=>?_,hS.2.2⟩),(h3 j hj).2⟩⟩
 · rcases hP k e with e | e
   · have:=(hr k hk).1;omega
   · exact h2 k hk e
 · rcases hp k hk2 with e | e
   · exact h2 k hk e
   · have:=(hr k hk).2;omega
 · rcases hP k e with e | e
   · have:=hS.1;omega
   · exact hS.2.1 e
 · rcases hp k e with e | e
   · exact hS.2.1 e
   · omega
theorem RowS.below {w w':World} {base:Nat} {pv rv:Value} {ps:List (Pt×Value)} (h:RowS w base pv rv ps) (hb:Below w.heap.size w w'):RowS w' base pv rv ps :=
 h.xv (P:=fun _=>False) (Xv.of_below hb) (fun _ e=>e.elim) (fun _ e=>.inl e)
theorem RowS.snoc {w w':World} {base:Nat} {pv rv rv':Value} {ps:List (Pt×Value)} {p:Pt} {u:Value} (h:RowS w base pv rv ps) (hpath:∀ k,pv.ownBlock=some k→k<w.heap.size)
 (hu:PS w (fun k=>base≤k∧pv.ownBlock≠some k∧rv.ownBlock≠some k) p.items u) (hf:Fit p)
 (hown:w'.ownsRow base 57 6 rv' (ps.length+1) (flat ps++(cellsOf p u).toList)) (hg:w.grownBy w' rv.ownBlock) (hv:rv'.ownBlock=rv.ownBlock∨rv'.ownBlock=some w.heap.size):RowS w' base pv rv' (ps++[(p,u)]):=by
 obtain⟨h1,h2,h3⟩:=h
 have old:∀ {q:Pt} {x:Value},PS w (fun k=>base≤k∧pv.ownBlock≠some k∧rv.ownBlock≠some k) q.items x→PS w' (fun k=>base≤k∧pv.ownBlock≠some k∧rv'.ownBlock≠some k) q.items x:=fun hx =>
  hx.keep hg.size (fun k hk hS=>hg.block k hk (fun e=>hS.2.2 e.symm)) (fun k hk hS=>⟨hS.1,hS.2.1,fun e=>by
   rcases hv with e2 | e2
   · exact hS.2.2 (e2▸e)
   · rw[e2] at e
     have:=Option.some.inj e
     omega⟩)
 refine⟨by rw[List.length_append,flat_snoc];exact hown,fun k hk hk2=>?_,fun j hj=>?_⟩
 · rcases hv with e | e
   · exact h2 k (e▸hk) hk2
   · rw[e] at hk
     have:=Option.some.inj hk
     have:=hpath k hk2
     omega
 · by_cases hjl:j<ps.length
   · rw[List.getElem_append_left hjl]
     exact⟨old (h3 j hjl).1,(h3 j hjl).2⟩
   · have hje:j=ps.length:=by simp at hj;omega
     subst hje
     rw[List.getElem_append_right lr]
     simp only [Nat.sub_self,List.getElem_cons_zero]
     exact⟨old hu,hf⟩
theorem RowS.all {w:World} {base:Nat} {pv rv:Value} {ps:List (Pt×Value)} (h:RowS w base pv rv ps):PS w (fun k=>base≤k∧pv.ownBlock≠some k) (ps.map Prod.fst) rv:=by
 obtain⟨h1,h2,h3⟩:=h
 rcases h1.2 with ⟨rfl,hn⟩ | ⟨g,cap,cur,rfl,hg,hgg,hnc,rest⟩
 · obtain rfl:ps=[]:=List.eq_nil_of_length_eq_zero hn
   exact PS.nil _ _
 · have hlen:(ps.map Prod.fst).length=ps.length:=List.length_map ..
   have key:=PS.mk (w:=w) (S:=fun k=>base≤k∧pv.ownBlock≠some k) (ps.map Prod.fst) (some ⟨g,0,none⟩) cap (fun j=>if h:j<ps.length then ps[j].2 else .slice none 0 0) (by rw[hlen];exact hnc)
    (fun j hj=>by
     rw[hlen] at hj
     refine⟨g,0,rfl,⟨hg,h2 g rfl⟩,(Array.getElem?_eq_some_iff.1 hgg).1,?_⟩
     simp only [hj,dif_pos,List.getElem_map,Nat.zero_add]
     exact flat_cells h1 j hj)
    (fun j hj=>by
     rw[hlen] at hj
     simp only [List.getElem_map]
     exact(h3 j hj).2)
    (fun j hj=>by
     rw[hlen] at hj
     simp only [hj,dif_pos,List.getElem_map]
     exact(h3 j hj).1.keep lr (fun _ _ _=>rfl) (fun k _ hS=>⟨hS.1,hS.2.1⟩))
   rw[hlen] at key
   exact key
end V
section
theorem OwnN.pop {w:World} {base:Nat} {c:Option Addr} {n cap:Nat} {l:List Int} {x:Int} (h:OwnN w base (.slice c n cap) (l++[x])):OwnN w base (.slice c (n-1) cap) l:=by
 have hn:n=l.length+1:=by
  obtain⟨a,c',he⟩:=row_slice h
  injection he with _ e _
  rw[e];simp
 subst hn
 refine⟨by simp[nv],?_⟩
 rcases h.2 with ⟨_,hn⟩ | ⟨g,cap',cur,he,hg,hgg,h1,h2,h3,h4⟩
 · simp at hn
 · injection he with e1 e2 e3
   subst e1 e3
   refine .inr ⟨g,cap,cur,rfl,hg,hgg,by simp at h1;omega,h2,h3,?_⟩
   have h5:=congrArg (List.take l.length) h4
   rw[List.take_take] at h5
   simp only [List.length_append,List.length_cons,List.length_nil,Nat.mul_one] at h5 ⊢
   rw[Nat.min_eq_left (by omega)] at h5
   rw[h5]
   simp[nv]
theorem OwnN.xv {P:Nat→Prop} {w w':World} {base:Nat} {v:Value} {l:List Int} (h:OwnN w base v l) (hx:Xv P w w') (hP:∀ k,v.ownBlock=some k→¬ P k):OwnN w' base v l :=
 V.ownRow_keep h fun k hk=>hx.block k (V.ownRow_lt h hk).2 (hP k hk)
theorem OwnN.lt {w:World} {base:Nat} {v:Value} {l:List Int} (h:OwnN w base v l) {k:Nat} (hk:v.ownBlock=some k):base≤k∧k<w.heap.size:=V.ownRow_lt h hk
end
