import Derived.BigQuiet
import Derived.Shelf.RegionOpenPlain
import Derived.Test.YtcgnajeenflfaaaGreatDoorP1
set_option maxRecDepth 100000
set_option maxHeartbeats 4000000
set_option linter.all false
open Go.Proofs.Tryz Go.RowKit
namespace Go.Proofs.YtcgnajeenflfaaaGreatDoor
namespace D
open Go.Maps
theorem classM_le {D:Dm} (wf:Wf D) (x:Int):0≤classM D x∧classM D x≤254:=by
 cases h:D x with
 | none=>simp[classM,h]
 | some cl=>obtain⟨c,l⟩:=cl;have:=wf.cls x c l h;simpa[classM,h] using this
theorem cmp_any {D:Dm} (wf:Wf D) (v:Value) (x y:Int) (hx:isI64 x) (hy:isI64 y) (bx:Nat) (w:World) (hi:Nat) (hb:w.cell? ⟨bx,0,none⟩=some v) (hd:DataAt w 0 hi v D) :
 Calls prog 244 #[.int .i64 x,.int .i64 y,.pointer (some ⟨bx,0,none⟩)] w fun e w'=>e=.returned (.int .i64 (classM D x-classM D y))∧∃ n,w'=w.drewN n:=by
 have h1:=classM_le wf x
 have h2:=classM_le wf y
 obtain⟨pd,hpd⟩:∃ pd,v=.pointer (some pd):=by obtain⟨pd,_,_,_,h,_⟩:=hd;exact⟨_,h⟩
 subst hpd
 have e1:wrap64 (classM D x-classM D y)=classM D x-classM D y:=by unfold wrap64;omega
 have HD:=zh hd
 clear hd h1 h2
 go_enter func244,ntmps244
 go_wp2_with (go_quiet (exact Calls.quiet_of_same (Class_any _ D _ (by assumption) _ hi HD.out)))
 go_ret
 exact⟨congrArg (fun n=>Ending.returned (.int .i64 n)) e1,_,rfl⟩
end D
section
def InRow (w:World) (g off:Nat) (pre post:List Value) (l:List Int):Prop:=pre.length=off∧∃ cur,w.heap[g]?=some (.cells cur 3 (0,0))∧cur.toList=pre++nv l++post
structure Oth (g:Nat) (w w':World):Prop where
 os:w'.os=w.os
 tape:w'.tape=w.tape
 output:w'.output=w.output
 size:w'.heap.size=w.heap.size
 block:∀ k,k≠g→w'.heap[k]?=w.heap[k]?
theorem Oth.refl (g:Nat) (w:World):Oth g w w:=⟨rfl,rfl,rfl,rfl,fun _ _=>rfl⟩
theorem Oth.trans {g:Nat} {a b c:World} (h:Oth g a b) (k:Oth g b c):Oth g a c :=
 ⟨k.os.trans h.os,k.tape.trans h.tape,k.output.trans h.output,k.size.trans h.size,fun i hi=>(k.block i hi).trans (h.block i hi)⟩
theorem Oth.drew {g:Nat} {w:World} (n:Nat):Oth g w (w.drewN n):=⟨rfl,rfl,rfl,rfl,fun _ _=>rfl⟩
theorem Oth.set {g:Nat} {w:World} (o:Nat) (v:Value):Oth g w (w.setCell ⟨g,o,none⟩ v) :=
 ⟨rfl,rfl,rfl,by simp[World.setCell],fun k hk=>Below.heap_setCell _ _ _ k hk⟩
theorem Oth.below {g B:Nat} {w w':World} (h:Oth g w w') (hB:B≤g):Below B w w':=⟨h.os,h.tape,h.output,by rw[h.size];exact Nat.le_refl _,fun k hk=>h.block k (by omega)⟩
theorem Oth.cell {g b o:Nat} {w w':World} {v:Value} (h:Oth g w w') (hb:b≠g) (hc:w.cell? ⟨b,o,none⟩=some v):w'.cell? ⟨b,o,none⟩=some v:=(World.cell?_of_block (h.block b hb)).trans hc
theorem InRow.oth {g g' off:Nat} {w w':World} {pre post:List Value} {l:List Int} (h:InRow w g off pre post l) (ho:Oth g' w w') (hg:g≠g'):InRow w' g off pre post l:=by
 obtain⟨h1,cur,h2,h3⟩:=h
 exact⟨h1,cur,(ho.block g hg).trans h2,h3⟩
theorem InRow.drew {g off:Nat} {w:World} {pre post:List Value} {l:List Int} (h:InRow w g off pre post l) (n:Nat):InRow (w.drewN n) g off pre post l:=h
theorem InRow.cell {w:World} {g off:Nat} {pre post:List Value} {l:List Int} (h:InRow w g off pre post l) (j:Nat) (hj:j<l.length):w.cell? ⟨g,off+j,none⟩=some (.int .i64 l[j]):=by
 obtain⟨h1,cur,h2,h3⟩:=h
 have h5:cur[off+j]?=some (.int .i64 l[j]):=by
  rw[← Array.getElem?_toList,h3,List.append_assoc,List.getElem?_append_right (by omega),h1,Nat.add_sub_cancel_left,List.getElem?_append_left (by rw[nv_length];exact hj)]
  simp[nv,hj]
 simp[World.cell?,h2,h5]
theorem InRow.frozen {w:World} {g off:Nat} {pre post:List Value} {l:List Int} (h:InRow w g off pre post l) (j:Nat):w.frozen? ⟨g,off+j,none⟩=false:=by
 obtain⟨h1,cur,h2,h3⟩:=h
 simp[World.frozen?,h2]
theorem InRow.lt {w:World} {g off:Nat} {pre post:List Value} {l:List Int} (h:InRow w g off pre post l):g<w.heap.size:=by
 obtain⟨h1,cur,h2,h3⟩:=h
 exact(Array.getElem?_eq_some_iff.1 h2).1
theorem InRow.set {w:World} {g off:Nat} {pre post:List Value} {l:List Int} (h:InRow w g off pre post l) (j:Nat) (x:Int) (hj:j<l.length):InRow (w.setCell ⟨g,off+j,none⟩ (.int .i64 x)) g off pre post (l.set j x):=by
 obtain⟨h1,cur,h2,h3⟩:=h
 obtain⟨hg,hk⟩:=Array.getElem?_eq_some_iff.1 h2
 refine⟨h1,cur.setIfInBounds (off+j) (.int .i64 x),?_,?_⟩
 · show (w.heap.modify g _)[g]?=_
   rw[Array.getElem?_eq_getElem (by rw[Array.size_modify];exact hg),Array.getElem_modify_self,hk]
   rfl
 · rw[Array.toList_setIfInBounds,h3,List.append_assoc,List.set_append_right _ _ (by omega),h1,Nat.add_sub_cancel_left,List.set_append_left _ _ (by rw[nv_length];exact hj),← List.append_assoc]
   congr 2
   simp[nv,List.map_set]
namespace So
def swp (l:List Int) (i j:Nat):List Int:=(l.set i (l.getD j 0)).set j (l.getD i 0)
theorem swp_length (l:List Int) (i j:Nat):(swp l i j).length=l.length:=by simp[swp]
def insIn (c:Int→Int) (a:Nat):Nat→List Int→List Int
 | 0,l=>l
 | j+1,l=>if a<j+1∧c (l.getD (j+1) 0)<c (l.getD j 0) then insIn c a j (swp l (j+1) j) else l
def insOut (c:Int→Int) (a:Nat):Nat→Nat→List Int→List Int
 | 0,_,l=>l
 | k+1,i,l=>insOut c a k (i+1) (insIn c a i l)
def insSort (c:Int→Int) (l:List Int) (a b:Nat):List Int:=insOut c a (b-(a+1)) (a+1) l
theorem insIn_length (c:Int→Int) (a:Nat) (j:Nat) (l:List Int):(insIn c a j l).length=l.length:=by
 induction j generalizing l with
 | zero=>rfl
 | succ j ih =>
  unfold insIn
  split
  · rw[ih,swp_length]
  · rfl
theorem insOut_length (c:Int→Int) (a:Nat) (k i:Nat) (l:List Int):(insOut c a k i l).length=l.length:=by
 induction k generalizing i l with
 | zero=>rfl
 | succ k ih=>unfold insOut;rw[ih,insIn_length]
theorem insSort_length (c:Int→Int) (l:List Int) (a b:Nat):(insSort c l a b).length=l.length:=insOut_length ..
theorem getD_at {l:List Int} {i:Nat} (h:i<l.length):l.getD i 0=l[i]:=by simp[List.getD,h]
theorem insIn_go {c:Int→Int} {a j:Nat} {l:List Int} (h1:a<j+1) (h2:c (l.getD (j+1) 0)<c (l.getD j 0)):insIn c a (j+1) l=insIn c a j (swp l (j+1) j):=by rw[insIn,if_pos ⟨h1,h2⟩]
theorem insIn_stop {c:Int→Int} {a j:Nat} {l:List Int} (h:¬ c (l.getD (j+1) 0)<c (l.getD j 0)):insIn c a (j+1) l=l:=by rw[insIn,if_neg (fun e=>h e.2)]
theorem insIn_low {c:Int→Int} {a j:Nat} {l:List Int} (h:j≤a):insIn c a j l=l:=by
 cases j with
 | zero=>rfl
 | succ j=>rw[insIn,if_neg (fun e=>by omega)]
theorem swp_mem {l:List Int} {i j:Nat} (hi:i<l.length) (hj:j<l.length) {x:Int} (hx:x∈swp l i j):x∈l:=by
 unfold swp at hx
 rcases List.mem_or_eq_of_mem_set hx with h | h
 · rcases List.mem_or_eq_of_mem_set h with h | h
   · exact h
   · rw[h,getD_at hj];exact List.getElem_mem hj
 · rw[h,getD_at hi];exact List.getElem_mem hi
theorem swp_at {l:List Int} {i j:Nat} (hi:i<l.length) (hj:j<l.length):swp l i j=(l.set i l[j]).set j l[i]:=by unfold swp;rw[getD_at hi,getD_at hj]
def swapR (a b:Nat):Nat→Nat→List Int→List Int
 | 0,_,l=>l
 | k+1,i,l=>swapR a b k (i+1) (swp l (a+i) (b+i))
theorem swapR_length (a b k i:Nat) (l:List Int):(swapR a b k i l).length=l.length:=by
 induction k generalizing i l with
 | zero=>rfl
 | succ k ih=>rw[swapR,ih,swp_length]
def rot (m:Nat):Nat→Nat→Nat→List Int→List Int
 | 0,i,_,l=>swapR (m-i) m i 0 l
 | f+1,i,j,l=>if i=j then swapR (m-i) m i 0 l else if j<i then rot m f (i-j) j (swapR (m-i) m j 0 l) else rot m f i (j-i) (swapR (m-i) (m+j-i) i 0 l)
def rotate (l:List Int) (a m b:Nat):List Int:=rot m (b-a) (m-a) (b-m) l
theorem rot_length (m f i j:Nat) (l:List Int):(rot m f i j l).length=l.length:=by
 induction f generalizing i j l with
 | zero=>exact swapR_length ..
 | succ f ih =>
  unfold rot
  split
  · exact swapR_length ..
  · split
    · rw[ih,swapR_length]
    · rw[ih,swapR_length]
theorem rotate_length (l:List Int) (a m b:Nat):(rotate l a m b).length=l.length:=rot_length ..
def half (t:Nat→Bool):Nat→Nat→Nat→Nat
 | 0,i,_=>i
 | f+1,i,j=>if i<j then (if t ((i+j) / 2) then half t f ((i+j) / 2+1) j else half t f i ((i+j) / 2)) else i
theorem half_in (t:Nat→Bool) (f i j:Nat) (h:i≤j):i≤half t f i j∧half t f i j≤j:=by
 induction f generalizing i j with
 | zero=>exact⟨Nat.le_refl _,h⟩
 | succ f ih =>
  unfold half
  split
  · split
    · have:=ih ((i+j) / 2+1) j (by omega);omega
    · have:=ih i ((i+j) / 2) (by omega);omega
  · omega
theorem half_yes {t:Nat→Bool} {f i j:Nat} (h:i<j) (ht:t ((i+j) / 2)=true):half t (f+1) i j=half t f ((i+j) / 2+1) j:=by rw[half,if_pos h,if_pos ht]
theorem half_no {t:Nat→Bool} {f i j:Nat} (h:i<j) (ht:t ((i+j) / 2)=false):half t (f+1) i j=half t f i ((i+j) / 2):=by rw[half,if_pos h,ht];rfl
theorem half_out {t:Nat→Bool} {f i j:Nat} (h:¬ i<j):half t f i j=i:=by
 cases f with
 | zero=>rfl
 | succ f=>rw[half,if_neg h]
def upS:Nat→Nat→List Int→List Int
 | 0,_,l=>l
 | n+1,k,l=>upS n (k+1) (swp l k (k+1))
def dnS:Nat→Nat→List Int→List Int
 | 0,_,l=>l
 | n+1,k,l=>dnS n (k-1) (swp l k (k-1))
theorem upS_length (n k:Nat) (l:List Int):(upS n k l).length=l.length:=by
 induction n generalizing k l with
 | zero=>rfl
 | succ n ih=>rw[upS,ih,swp_length]
theorem dnS_length (n k:Nat) (l:List Int):(dnS n k l).length=l.length:=by
 induction n generalizing k l with
 | zero=>rfl
 | succ n ih=>rw[dnS,ih,swp_length]
def symM (c:Int→Int):Nat→Nat→Nat→Nat→List Int→List Int
 | 0,_,_,_,l=>l
 | f+1,a,m,b,l =>
  if m-a=1 then upS (half (fun h=>decide (c (l.getD h 0)<c (l.getD a 0))) (b-m) m b-1-a) a l
  else if b-m=1 then dnS (m-half (fun h=>!decide (c (l.getD m 0)<c (l.getD h 0))) (m-a) a m) m l
  else
   let mid:=(a+b) / 2
   let n:=mid+m
   let lo:=if mid<m then n-b else a
   let hi:=if mid<m then mid else m
   let start:=half (fun h=>!decide (c (l.getD (n-1-h) 0)<c (l.getD h 0))) (hi-lo) lo hi
   let fin:=n-start
   let l1:=if start<m∧m<fin then rotate l start m fin else l
   let l2:=if a<start∧start<mid then symM c f a start mid l1 else l1
   if mid<fin∧fin<b then symM c f mid fin b l2 else l2
theorem symM_length (c:Int→Int) (f a m b:Nat) (l:List Int):(symM c f a m b l).length=l.length:=by
 induction f generalizing a m b l with
 | zero=>rfl
 | succ f ih =>
  unfold symM
  split
  · exact upS_length ..
  · split
    · exact dnS_length ..
    · dsimp only
      repeat' split
      all_goals simp only [ih,rotate_length]
def mergeR (c:Int→Int) (s n:Nat):Nat→Nat→List Int→List Int
 | 0,_,l=>l
 | f+1,a,l=>if a+2*s≤n then mergeR c s n f (a+2*s) (symM c n a (a+s) (a+2*s) l) else (if a+s<n then symM c n a (a+s) n l else l)
def mergeAll (c:Int→Int) (n:Nat):Nat→Nat→List Int→List Int
 | 0,_,l=>l
 | f+1,s,l=>if s<n then mergeAll c n f (2*s) (mergeR c s n n 0 l) else l
def blocks (c:Int→Int) (n:Nat):Nat→Nat→List Int→List Int
 | 0,_,l=>l
 | f+1,a,l=>if a+20≤n then blocks c n f (a+20) (insSort c l a (a+20)) else insSort c l a n
def stable (c:Int→Int) (l:List Int):List Int:=mergeAll c l.length (l.length+1) 20 (blocks c l.length (l.length+1) 0 l)
end So
end
namespace So
open D (isI64)
def CmpAt (w:World) (g bx:Nat) (c:Int→Int):Prop:=∀ x y w',isI64 x→isI64 y→Oth g w w' →
 Calls prog 244 #[.int .i64 x,.int .i64 y,.pointer (some ⟨bx,0,none⟩)] w' fun e w''=>e=.returned (.int .i64 (c x-c y))∧∃ n,w''=w'.drewN n
def Fine (l:List Int):Prop:=∀ x∈l,isI64 x
theorem Fine.at {l:List Int} (h:Fine l) {i:Nat} (hi:i<l.length):isI64 l[i]:=h _ (List.getElem_mem hi)
theorem Fine.swp {l:List Int} (h:Fine l) {i j:Nat} (hi:i<l.length) (hj:j<l.length):Fine (swp l i j):=fun x hx=>h x (swp_mem hi hj hx)
theorem InRow.swp {w:World} {g off:Nat} {pre post:List Value} {l:List Int} (h:InRow w g off pre post l) {i j:Nat} (hi:i<l.length) (hj:j<l.length) :
 InRow ((w.setCell ⟨g,off+i,none⟩ (.int .i64 l[j])).setCell ⟨g,off+j,none⟩ (.int .i64 l[i])) g off pre post (swp l i j):=by
 rw[swp_at hi hj]
 exact(h.set i _ hi).set j _ (by simpa using hj)
theorem insertion_any (c:Int→Int) (g off bx cap a b:Nat) (pre post:List Value) (l:List Int) (w:World) (hr:InRow w g off pre post l) (hf:Fine l) (hab:a≤b) (hb:b≤l.length) (hlen:l.length≤4194304) (hc:CmpAt w g bx c) :
 Calls prog 250 #[.slice (some ⟨g,off,none⟩) l.length cap,.int .i64 (a:Int),.int .i64 (b:Int),.func (.func 244) #[] #[.pointer (some ⟨bx,0,none⟩)]] w fun e w' =>
  e=.returned (.tuple #[])∧InRow w' g off pre post (insSort c l a b)∧Oth g w w':=by
 obtain⟨n,hn⟩:∃ n,l.length=n:=⟨_,rfl⟩
 have HC:=zh hc
 clear hc
 rw[hn] at hb hlen ⊢
 go_enter func250,ntmps250
 go_wp2_with fail
 go_loopw [8] (fun vi wr=>∃ (i:Nat) (L:List Int),vi=.int .i64 (i:Int)∧a<i∧i≤b+1∧L.length=n∧InRow wr g off pre post L∧Oth g w wr∧RowKit.Hid (Fine L)∧RowKit.Hid (insOut c a (b-i) i L=insSort c l a b)) (fun vi _=>b+1-(intOf vi).toNat)
 case atStart=>exact⟨a+1,l,by simp,by omega,by omega,hn,hr,Oth.refl _ _,zh hf,zh rfl⟩
 case round =>
  obtain⟨i,L,rfl,hai,hib,hL,hrow,ho,HF,HO⟩:=hrel
  by_cases hlt:i<b
  · have q1:decide ((i:Int)<(b:Int))=true:=by simp;omega
    have HO2:=zh (show insOut c a (b-(i+1)) (i+1) (insIn c a i L)=insSort c l a b by rw[← HO.out,show b-i=(b-(i+1))+1 by omega];rfl)
    go_wp2_with fail
    go_loopw [9] (fun vj wr2=>∃ (j:Nat) (M:List Int),vj=.int .i64 (j:Int)∧a≤j∧j≤i∧M.length=n∧InRow wr2 g off pre post M∧Oth g w wr2∧RowKit.Hid (Fine M)∧RowKit.Hid (insIn c a j M=insIn c a i L)) (fun vj _=>(intOf vj).toNat)
    case atStart=>exact⟨i,L,rfl,by omega,Nat.le_refl _,hL,hrow,ho,HF,zh rfl⟩
    case round =>
     clear hrow ho HF hL HO hr hf
     obtain⟨j,M,rfl,haj,hji,hM,hrow,ho,HF,HI⟩:=hrel
     by_cases hja:a<j
     · obtain⟨jp,rfl⟩:∃ jp,j=jp+1:=⟨j-1,by omega⟩
       have q2:decide ((a:Int)<(jp:Int)+1)=true:=by simp;omega
       obtain⟨x,hx⟩:∃ x,M[jp+1]'(by omega)=x:=⟨_,rfl⟩
       obtain⟨y,hy⟩:∃ y,M[jp]'(by omega)=y:=⟨_,rfl⟩
       have cx:=hrow.cell (jp+1) (by omega)
       have cy:=hrow.cell jp (by omega)
       have zx:=hrow.frozen (jp+1)
       have zy:=hrow.frozen jp
       have fx:=HF.out.at (i:=jp+1) (by omega)
       have fy:=HF.out.at (i:=jp) (by omega)
       rw[hx] at cx fx
       rw[hy] at cy fy
       have HQ:=zh (show ∀ m,Calls prog 244 #[.int .i64 x,.int .i64 y,.pointer (some ⟨bx,0,none⟩)] (wr.drewN m) fun e w''=>e=.returned (.int .i64 (c x-c y))∧∃ n,w''=(wr.drewN m).drewN n from fun m=>HC.out x y _ fx fy (ho.trans (Oth.drew m)))
       by_cases hcv:c x<c y
       · have q3:decide (c x-c y<0)=true:=by simp;omega
         have HN:=zh (show insIn c a jp (swp M (jp+1) jp)=insIn c a i L by rw[← HI.out];exact(insIn_go (by omega) (by rw[getD_at (by omega),getD_at (by omega),hx,hy];exact hcv)).symm)
         have HF2:=zh (HF.out.swp (i:=jp+1) (j:=jp) (by omega) (by omega))
         have HM:=zh (show InRow ((wr.setCell ⟨g,off+(jp+1),none⟩ (.int .i64 y)).setCell ⟨g,off+jp,none⟩ (.int .i64 x)) g off pre post (swp M (jp+1) jp) by rw[← hx,← hy];exact InRow.swp hrow (by omega) (by omega))
         clear hcv hx hy fx fy HI HF
         have jz:(jp:Int)+1<(n:Int):=by omega
         have jz1:(jp:Int)<(n:Int):=by omega
         have p0:(0:Int)≤(jp:Int)+1:=by omega
         have e0:((jp:Int)+1).toNat=jp+1:=by omega
         go_wp2_with fail
         go_quiet (exact Calls.quiet_of (HQ.out _))
         go_wp2_with fail
         have cx2:(wr.drewN nq).cell? ⟨g,off+(jp+1),none⟩=some (.int .i64 x):=cx
         have cy2:(wr.drewN nq).cell? ⟨g,off+jp,none⟩=some (.int .i64 y):=cy
         have zx2:(wr.drewN nq).frozen? ⟨g,off+(jp+1),none⟩=false:=zx
         have zy2:(wr.drewN nq).frozen? ⟨g,off+jp,none⟩=false:=zy
         have HM2:=zh (show InRow (((wr.drewN nq).setCell ⟨g,off+(jp+1),none⟩ (.int .i64 y)).setCell ⟨g,off+jp,none⟩ (.int .i64 x)) g off pre post (swp M (jp+1) jp) from HM.out)
         have HO3:=zh (ho.trans (Oth.drew nq))
         clear cx cy zx zy HM ho hrow HQ q3
         generalize wr.drewN nq=wq at cx2 cy2 zx2 zy2 HM2 HO3 ⊢
         obtain⟨j1,hj1⟩:∃ j1,j1=jp+1:=⟨_,rfl⟩
         rw[← hj1] at cx2 zx2 e0 HM2
         have J1:=zh hj1
         clear hj1
         have mixed:prog.follows Departure.mixedOrders=true:=by kernel_rfl
         go_big_region_o
         all_goals go_wp2
         refine⟨⟨jp,swp M j1 jp,rfl,by omega,by omega,by rw[swp_length];exact hM,HM2.out,(HO3.out.trans ((Oth.set _ _).trans (Oth.set _ _))).trans ⟨rfl,rfl,rfl,rfl,fun _ _=>rfl⟩,zh (by rw[J1.out];exact HF2.out),zh (by rw[J1.out];exact HN.out)⟩,by simp[intOf]⟩
       · have q3:decide (c x-c y<0)=false:=by simp;omega
         have HS:=zh (show insIn c a i L=M by rw[← HI.out];exact insIn_stop (by rw[getD_at (by omega),getD_at (by omega),hx,hy];exact hcv))
         have jz:(jp:Int)+1<(n:Int):=by omega
         have jz1:(jp:Int)<(n:Int):=by omega
         have p0:(0:Int)≤(jp:Int)+1:=by omega
         have e0:((jp:Int)+1).toNat=jp+1:=by omega
         clear hcv hx hy fx fy HI
         go_wp2_with fail
         go_quiet (exact Calls.quiet_of (HQ.out _))
         go_wp2_with fail
         refine⟨⟨i+1,M,by simp,by omega,by omega,hM,hrow,ho.trans (Oth.drew nq),HF,zh ?_⟩,by simp[intOf];omega⟩
         rw[← HS.out]
         exact HO2.out
     · have q2:decide ((a:Int)<(j:Int))=false:=by simp;omega
       have HS:=zh (show insIn c a i L=M by rw[← HI.out];exact insIn_low (by omega))
       clear HI
       go_wp2_with fail
       go_quiet (fail)
       go_wp2_with fail
       refine⟨⟨i+1,M,by simp,by omega,by omega,hM,hrow,ho.trans (Oth.drew nq),HF,zh ?_⟩,by simp[intOf];omega⟩
       rw[← HS.out]
       exact HO2.out
  · have q1:decide ((i:Int)<(b:Int))=false:=by simp;omega
    have hz:L=insSort c l a b:=by rw[← HO.out,show b-i=0 by omega];rfl
    go_wp2_with fail
    go_end0
    exact⟨rfl,hz▸hrow,ho⟩
theorem swapR_go (a b k i:Nat) (l:List Int):swapR a b (k+1) i l=swapR a b k (i+1) (swp l (a+i) (b+i)):=rfl
theorem swapRange_any (g off cap n a b k:Nat) (x y z:Int) (hx:(a:Int)=x) (hy:(b:Int)=y) (hz:(k:Int)=z) (cv:Value) (pre post:List Value) (l:List Int) (w:World) (hn:l.length=n) (hr:InRow w g off pre post l) (ha:a+k≤n) (hb:b+k≤n) (hlen:n≤4194304) (hne:a≠b) :
 Calls prog 253 #[.slice (some ⟨g,off,none⟩) n cap,.int .i64 x,.int .i64 y,.int .i64 z,cv] w fun e w' =>
  e=.returned (.tuple #[])∧InRow w' g off pre post (swapR a b k 0 l)∧Oth g w w':=by
 subst hx hy hz
 have HN0:=zh hn
 clear hn
 go_enter func253,ntmps253
 go_wp2_with fail
 go_loopw [10] (fun vi wr=>∃ (i:Nat) (L:List Int),vi=.int .i64 (i:Int)∧i≤k∧L.length=n∧InRow wr g off pre post L∧Oth g w wr∧RowKit.Hid (swapR a b (k-i) i L=swapR a b k 0 l)) (fun vi _=>k-(intOf vi).toNat)
 case atStart=>exact⟨0,l,rfl,Nat.zero_le _,HN0.out,hr,Oth.refl _ _,zh rfl⟩
 case round =>
  obtain⟨i,L,rfl,hik,hL,hrow,ho,HO⟩:=hrel
  by_cases hlt:i<k
  · have q1:decide ((i:Int)<(k:Int))=true:=by simp;omega
    obtain⟨p,hp⟩:∃ p,a+i=p:=⟨_,rfl⟩
    obtain⟨q,hq⟩:∃ q,b+i=q:=⟨_,rfl⟩
    have ep':((a:Int)+(i:Int))=(p:Int):=by omega
    have eq_':((b:Int)+(i:Int))=(q:Int):=by omega
    obtain⟨u,hu⟩:∃ u,L[p]'(by omega)=u:=⟨_,rfl⟩
    obtain⟨v,hv⟩:∃ v,L[q]'(by omega)=v:=⟨_,rfl⟩
    have cu:=hrow.cell p (by omega)
    have cv':=hrow.cell q (by omega)
    have zu:=hrow.frozen p
    have zv:=hrow.frozen q
    rw[hu] at cu
    rw[hv] at cv'
    have n1:p≠q:=by omega
    have n2:q≠p:=by omega
    have jp:(p:Int)<(n:Int):=by omega
    have jq:(q:Int)<(n:Int):=by omega
    have HN:=zh (show swapR a b (k-(i+1)) (i+1) (swp L p q)=swapR a b k 0 l by rw[← HO.out,show k-i=(k-(i+1))+1 by omega,swapR_go,hp,hq])
    have HM:=zh (show InRow ((wr.setCell ⟨g,off+p,none⟩ (.int .i64 v)).setCell ⟨g,off+q,none⟩ (.int .i64 u)) g off pre post (swp L p q) by rw[← hu,← hv];exact InRow.swp hrow (by omega) (by omega))
    have HL:=zh hL
    have HO3:=zh ho
    have EP:=zh (show wrap64 ((a:Int)+(i:Int))=(p:Int) by unfold wrap64;omega)
    have EQ:=zh (show wrap64 ((b:Int)+(i:Int))=(q:Int) by unfold wrap64;omega)
    have ep:=EP.out
    have eq_:=EQ.out
    clear hu hv HO hL ho hrow hr hp hq
    go_wp2_with fail
    have mixed:prog.follows Departure.mixedOrders=true:=by kernel_rfl
    go_big_region_o
    all_goals go_wp2
    refine⟨⟨i+1,swp L p q,by simp,by omega,by rw[swp_length];exact HL.out,HM.out,(HO3.out.trans ((Oth.set _ _).trans (Oth.set _ _))).trans ⟨rfl,rfl,rfl,rfl,fun _ _=>rfl⟩,HN⟩,by simp[intOf];omega⟩
  · have q1:decide ((i:Int)<(k:Int))=false:=by simp;omega
    have hz:L=swapR a b k 0 l:=by rw[← HO.out,show k-i=0 by omega];rfl
    go_wp2_with fail
    go_end0
    exact⟨rfl,hz▸hrow,ho⟩
theorem rot_eq (m f i:Nat) (l:List Int):rot m f i i l=swapR (m-i) m i 0 l:=by
 cases f with
 | zero=>rfl
 | succ f=>rw[rot,if_pos rfl]
theorem rot_gt {m f i j:Nat} (l:List Int) (h:j<i):rot m (f+1) i j l=rot m f (i-j) j (swapR (m-i) m j 0 l):=by rw[rot,if_neg (by omega),if_pos h]
theorem rot_lt {m f i j:Nat} (l:List Int) (h:i<j):rot m (f+1) i j l=rot m f i (j-i) (swapR (m-i) (m+j-i) i 0 l):=by rw[rot,if_neg (by omega),if_neg (by omega)]
theorem rotate_any (g off cap n a m b:Nat) (x y z:Int) (hx:(a:Int)=x) (hy:(m:Int)=y) (hz:(b:Int)=z) (cv:Value) (pre post:List Value) (l:List Int) (w:World) (hn:l.length=n) (hr:InRow w g off pre post l) (ham:a<m) (hmb:m<b) (hb:b≤n) (hlen:n≤4194304) :
 Calls prog 252 #[.slice (some ⟨g,off,none⟩) n cap,.int .i64 x,.int .i64 y,.int .i64 z,cv] w fun e w' =>
  e=.returned (.tuple #[])∧InRow w' g off pre post (rotate l a m b)∧Oth g w w':=by
 subst hx hy hz
 have HN:=zh hn
 clear hn
 have e1:((m:Int)-(a:Int))=((m-a:Nat):Int):=by omega
 have e2:((b:Int)-(m:Int))=((b-m:Nat):Int):=by omega
 go_enter func252,ntmps252
 go_wp2_with fail
 go_loopw [10,11] (fun vi vj wr=>∃ (i j f:Nat) (L:List Int),vi=.int .i64 (i:Int)∧vj=.int .i64 (j:Int)∧1≤i∧1≤j∧i≤m-a∧j≤b-m∧i+j≤f∧InRow wr g off pre post L∧Oth g w wr∧RowKit.Hid (L.length=n)∧RowKit.Hid (rot m f i j L=rotate l a m b)) (fun vi vj _=>(intOf vi).toNat+(intOf vj).toNat)
 case atStart=>exact⟨m-a,b-m,b-a,l,by simp[e1],by simp[e2],by omega,by omega,by omega,by omega,by omega,hr,Oth.refl _ _,HN,zh rfl⟩
 case round =>
  clear e1 e2
  obtain⟨i,j,f,L,rfl,rfl,hi,hj,him,hjb,hf,hrow,ho,HL,HO⟩:=hrel
  rcases Nat.lt_trichotomy i j with hlt | rfl | hgt
  · obtain⟨f,rfl⟩:∃ k,f=k+1:=⟨f-1,by omega⟩
    have q1:((i:Int) != (j:Int))=true:=by simp;omega
    have q2:decide ((j:Int)<(i:Int))=false:=by simp;omega
    have HR:=zh (rot_lt (m:=m) (f:=f) L hlt)
    go_wp2_with fail
    refine(swapRange_any g off cap n (m-i) (m+j-i) i _ _ _ (by omega) (by omega) rfl cv pre post L wr HL.out hrow (by omega) (by omega) (by omega) (by omega)).mono ?_
    rintro e w1 ⟨rfl,hr1,ho1⟩
    have HO1:=zh (ho.trans ho1)
    have HL1:=zh (show (swapR (m-i) (m+j-i) i 0 L).length=n by rw[swapR_length];exact HL.out)
    rw[HR.out] at HO
    clear ho hrow
    go_wp2_with fail
    refine⟨⟨i,j-i,f,swapR (m-i) (m+j-i) i 0 L,rfl,?_,by omega,by omega,by omega,by omega,by omega,hr1,HO1.out,HL1,HO⟩,?_⟩
    · simp;omega
    · simp[intOf];omega
  · have q1:((i:Int) != (i:Int))=false:=by simp
    go_wp2_with fail
    refine(swapRange_any g off cap n (m-i) m i _ _ _ (by omega) rfl rfl cv pre post L wr HL.out hrow (by omega) (by omega) (by omega) (by omega)).mono ?_
    rintro e w1 ⟨rfl,hr1,ho1⟩
    rw[← rot_eq m f i L,HO.out] at hr1
    go_wp2_with fail
    go_end0
    exact⟨rfl,hr1,ho.trans ho1⟩
  · obtain⟨f,rfl⟩:∃ k,f=k+1:=⟨f-1,by omega⟩
    have q1:((i:Int) != (j:Int))=true:=by simp;omega
    have q2:decide ((j:Int)<(i:Int))=true:=by simp;omega
    have HR:=zh (rot_gt (m:=m) (f:=f) L hgt)
    go_wp2_with fail
    refine(swapRange_any g off cap n (m-i) m j _ _ _ (by omega) rfl rfl cv pre post L wr HL.out hrow (by omega) (by omega) (by omega) (by omega)).mono ?_
    rintro e w1 ⟨rfl,hr1,ho1⟩
    have HO1:=zh (ho.trans ho1)
    have HL1:=zh (show (swapR (m-i) m j 0 L).length=n by rw[swapR_length];exact HL.out)
    rw[HR.out] at HO
    clear ho hrow
    go_wp2_with fail
    refine⟨⟨i-j,j,f,swapR (m-i) m j 0 L,?_,rfl,by omega,by omega,by omega,by omega,by omega,hr1,HO1.out,HL1,HO⟩,?_⟩
    · simp;omega
    · simp[intOf];omega
theorem upS_go (n k:Nat) (l:List Int):upS (n+1) k l=upS n (k+1) (swp l k (k+1)):=rfl
theorem merge1_any (c:Int→Int) (g off bx cap n a m b:Nat) (x y z:Int) (hx:(a:Int)=x) (hy:(m:Int)=y) (hz:(b:Int)=z) (pre post:List Value) (l:List Int) (w:World) (hn:l.length=n) (hr:InRow w g off pre post l) (hf:Fine l) (ham:m=a+1) (hmb:m<b) (hb:b≤n) (hlen:n≤4194304) (hc:CmpAt w g bx c) :
 Calls prog 251 #[.slice (some ⟨g,off,none⟩) n cap,.int .i64 x,.int .i64 y,.int .i64 z,.func (.func 244) #[] #[.pointer (some ⟨bx,0,none⟩)]] w fun e w' =>
  e=.returned (.tuple #[])∧InRow w' g off pre post (upS (half (fun h=>decide (c (l.getD h 0)<c (l.getD a 0))) (b-m) m b-1-a) a l)∧Oth g w w':=by
 subst hx hy hz ham
 have HC:=zh hc
 have HN:=zh hn
 have HF:=zh hf
 have q0:((a:Int)+1-(a:Int)==1)=true:=by simp;omega
 obtain⟨T,hT⟩:∃ T:Nat→Bool,(fun h=>decide (c (l.getD h 0)<c (l.getD a 0)))=T:=⟨_,rfl⟩
 have HT:=zh hT
 rw[hT]
 obtain⟨I,hI⟩:∃ I,half T (b-(a+1)) (a+1) b=I:=⟨_,rfl⟩
 have hI1:=half_in T (b-(a+1)) (a+1) b (by omega)
 rw[hI] at hI1 ⊢
 have HI:=zh hI
 clear hc hn hf hT hI
 go_enter func251,ntmps251
 go_wp2_with fail
 go_loopw [10,11] (fun vi vj wr=>∃ (i j f:Nat),vi=.int .i64 (i:Int)∧vj=.int .i64 (j:Int)∧a+1≤i∧i≤j∧j≤b∧j-i≤f∧InRow wr g off pre post l∧Oth g w wr∧RowKit.Hid (half T f i j=I)) (fun vi vj _=>(intOf vj).toNat-(intOf vi).toNat)
 case atStart=>exact⟨a+1,b,b-(a+1),rfl,rfl,by omega,by omega,by omega,by omega,hr,Oth.refl _ _,HI⟩
 case round =>
  obtain⟨i,j,f,rfl,rfl,hi,hij,hj,hf,hrow,ho,HO⟩:=hrel
  by_cases hlt:i<j
  · obtain⟨f,rfl⟩:∃ k,f=k+1:=⟨f-1,by omega⟩
    have q1:decide ((i:Int)<(j:Int))=true:=by simp;omega
    obtain⟨h,hh⟩:∃ h,(i+j) / 2=h:=⟨_,rfl⟩
    have hih:i≤h∧h<j:=by omega
    obtain⟨u,hu⟩:∃ u,l[h]'(by rw[HN.out];omega)=u:=⟨_,rfl⟩
    obtain⟨v,hv⟩:∃ v,l[a]'(by rw[HN.out];omega)=v:=⟨_,rfl⟩
    have cu:=hrow.cell h (by rw[HN.out];omega)
    have cv:=hrow.cell a (by rw[HN.out];omega)
    have fu:=HF.out.at (i:=h) (by rw[HN.out];omega)
    have fv:=HF.out.at (i:=a) (by rw[HN.out];omega)
    rw[hu] at cu fu
    rw[hv] at cv fv
    have HTh:=zh (show T h=decide (c u<c v) by rw[← HT.out];simp only [getD_at (show h<l.length by rw[HN.out];omega),getD_at (show a<l.length by rw[HN.out];omega),hu,hv])
    have HQ:=zh (show ∀ m,Calls prog 244 #[.int .i64 u,.int .i64 v,.pointer (some ⟨bx,0,none⟩)] (wr.drewN m) fun e w''=>e=.returned (.int .i64 (c u-c v))∧∃ n,w''=(wr.drewN m).drewN n from fun m=>HC.out u v _ fu fv (ho.trans (Oth.drew m)))
    have jh:(h:Int)<(n:Int):=by omega
    have ja:(a:Int)<(n:Int):=by omega
    have eh:((i:Int)+(j:Int)) / 2=(h:Int):=by omega
    by_cases hcv:c u<c v
    · have q3:decide (c u-c v<0)=true:=by simp;omega
      have HO1:=zh (show half T f (h+1) j=I by rw[← HO.out,half_yes (t:=T) (f:=f) hlt (by rw[hh,HTh.out];simpa using hcv),hh])
      clear hcv hu hv fu fv hh
      go_wp2_with fail
      go_quiet (exact Calls.quiet_of (HQ.out _))
      go_wp2_with fail
      exact⟨⟨h+1,j,f,by simp,rfl,by omega,by omega,by omega,by omega,hrow,ho.trans (Oth.drew nq),HO1⟩,by simp[intOf];omega⟩
    · have q3:decide (c u-c v<0)=false:=by simp;omega
      have HO1:=zh (show half T f i h=I by rw[← HO.out,half_no (t:=T) (f:=f) hlt (by rw[hh,HTh.out];simpa using hcv),hh])
      clear hcv hu hv fu fv hh
      go_wp2_with fail
      go_quiet (exact Calls.quiet_of (HQ.out _))
      go_wp2_with fail
      exact⟨⟨i,h,f,rfl,rfl,by omega,by omega,by omega,by omega,hrow,ho.trans (Oth.drew nq),HO1⟩,by simp[intOf];omega⟩
  · obtain rfl:i=I:=by rw[← HO.out,half_out hlt]
    have q1:decide ((i:Int)<(j:Int))=false:=by simp;omega
    go_wp2_with fail
    go_loopw [13] (fun vk wr=>∃ (k:Nat) (L:List Int),vk=.int .i64 (k:Int)∧a≤k∧k+1≤i∧InRow wr g off pre post L∧Oth g w wr∧RowKit.Hid (L.length=n)∧RowKit.Hid (upS (i-1-k) k L=upS (i-1-a) a l)) (fun vk _=>i-(intOf vk).toNat)
    case atStart=>exact⟨a,l,rfl,by omega,by omega,hrow,ho,HN,zh rfl⟩
    case round =>
     clear hrow ho HO hr
     obtain⟨k,L,rfl,hak,hki,hrow,ho,HL,HO⟩:=hrel
     by_cases hlt2:k+1<i
     · have q2:decide ((k:Int)<(i:Int)-1)=true:=by simp;omega
       obtain⟨p,hp⟩:∃ p,k+1=p:=⟨_,rfl⟩
       obtain⟨u,hu⟩:∃ u,L[k]'(by rw[HL.out];omega)=u:=⟨_,rfl⟩
       obtain⟨v,hv⟩:∃ v,L[p]'(by rw[HL.out];omega)=v:=⟨_,rfl⟩
       have cu:=hrow.cell k (by rw[HL.out];omega)
       have cv:=hrow.cell p (by rw[HL.out];omega)
       have zu:=hrow.frozen k
       have zv:=hrow.frozen p
       rw[hu] at cu
       rw[hv] at cv
       have n1:k≠p:=by omega
       have n2:p≠k:=by omega
       have jk:(k:Int)<(n:Int):=by omega
       have jp:(p:Int)<(n:Int):=by omega
       have HO1:=zh (show upS (i-1-p) p (swp L k p)=upS (i-1-a) a l by rw[← HO.out,show i-1-k=(i-1-p)+1 by omega,upS_go,hp])
       have HM:=zh (show InRow ((wr.setCell ⟨g,off+k,none⟩ (.int .i64 v)).setCell ⟨g,off+p,none⟩ (.int .i64 u)) g off pre post (swp L k p) by rw[← hu,← hv];exact InRow.swp hrow (by rw[HL.out];omega) (by rw[HL.out];omega))
       have HO3:=zh ho
       have EP:=zh (show wrap64 ((k:Int)+1)=(p:Int) by unfold wrap64;omega)
       have ep:=EP.out
       have ep':(k:Int)+1=(p:Int):=by omega
       clear hu hv HO ho hrow hp
       go_wp2_with fail
       have mixed:prog.follows Departure.mixedOrders=true:=by kernel_rfl
       go_big_region_o
       all_goals go_wp2
       refine⟨⟨p,swp L k p,rfl,by omega,by omega,HM.out,(HO3.out.trans ((Oth.set _ _).trans (Oth.set _ _))).trans ⟨rfl,rfl,rfl,rfl,fun _ _=>rfl⟩,zh (by rw[swp_length];exact HL.out),HO1⟩,by simp[intOf];omega⟩
     · have q2:decide ((k:Int)<(i:Int)-1)=false:=by simp;omega
       have hz:L=upS (i-1-a) a l:=by rw[← HO.out,show i-1-k=0 by omega];rfl
       go_wp2_with fail
       refine bodyPost_ret (results_none rfl _ _ _) rfl ?_
       rw[hz] at hrow
       exact⟨rfl,hrow,ho⟩
theorem dnS_go (n k:Nat) (l:List Int):dnS (n+1) k l=dnS n (k-1) (swp l k (k-1)):=rfl
theorem merge2_any (c:Int→Int) (g off bx cap n a m b:Nat) (x y z:Int) (hx:(a:Int)=x) (hy:(m:Int)=y) (hz:(b:Int)=z) (pre post:List Value) (l:List Int) (w:World) (hn:l.length=n) (hr:InRow w g off pre post l) (hf:Fine l) (ham:a+1<m) (hmb:b=m+1) (hb:b≤n) (hlen:n≤4194304) (hc:CmpAt w g bx c) :
 Calls prog 251 #[.slice (some ⟨g,off,none⟩) n cap,.int .i64 x,.int .i64 y,.int .i64 z,.func (.func 244) #[] #[.pointer (some ⟨bx,0,none⟩)]] w fun e w' =>
  e=.returned (.tuple #[])∧InRow w' g off pre post (dnS (m-half (fun h=>!decide (c (l.getD m 0)<c (l.getD h 0))) (m-a) a m) m l)∧Oth g w w':=by
 subst hx hy hz hmb
 have HC:=zh hc
 have HN:=zh hn
 have HF:=zh hf
 obtain⟨T,hT⟩:∃ T:Nat→Bool,(fun h=>!decide (c (l.getD m 0)<c (l.getD h 0)))=T:=⟨_,rfl⟩
 have HT:=zh hT
 rw[hT]
 obtain⟨I,hI⟩:∃ I,half T (m-a) a m=I:=⟨_,rfl⟩
 have hI1:=half_in T (m-a) a m (by omega)
 rw[hI] at hI1 ⊢
 have HI:=zh hI
 have q00:((m:Int)-(a:Int)==1)=false:=by simp;omega
 have q0:((m:Int)+1-(m:Int)==1)=true:=by simp;omega
 clear hc hn hf hT hI
 go_enter func251,ntmps251
 go_wp2_with fail
 go_loopw [14,15] (fun vi vj wr=>∃ (i j f:Nat),vi=.int .i64 (i:Int)∧vj=.int .i64 (j:Int)∧a≤i∧i≤j∧j≤m∧j-i≤f∧InRow wr g off pre post l∧Oth g w wr∧RowKit.Hid (half T f i j=I)) (fun vi vj _=>(intOf vj).toNat-(intOf vi).toNat)
 case atStart=>exact⟨a,m,m-a,rfl,rfl,by omega,by omega,by omega,by omega,hr,Oth.refl _ _,HI⟩
 case round =>
  obtain⟨i,j,f,rfl,rfl,hi,hij,hj,hf,hrow,ho,HO⟩:=hrel
  by_cases hlt:i<j
  · obtain⟨f,rfl⟩:∃ k,f=k+1:=⟨f-1,by omega⟩
    have q1:decide ((i:Int)<(j:Int))=true:=by simp;omega
    obtain⟨h,hh⟩:∃ h,(i+j) / 2=h:=⟨_,rfl⟩
    have hih:i≤h∧h<j:=by omega
    obtain⟨u,hu⟩:∃ u,l[h]'(by rw[HN.out];omega)=u:=⟨_,rfl⟩
    obtain⟨v,hv⟩:∃ v,l[m]'(by rw[HN.out];omega)=v:=⟨_,rfl⟩
    have cu:=hrow.cell h (by rw[HN.out];omega)
    have cv:=hrow.cell m (by rw[HN.out];omega)
    have fu:=HF.out.at (i:=h) (by rw[HN.out];omega)
    have fv:=HF.out.at (i:=m) (by rw[HN.out];omega)
    rw[hu] at cu fu
    rw[hv] at cv fv
    have HTh:=zh (show T h=!decide (c v<c u) by rw[← HT.out];simp only [getD_at (show h<l.length by rw[HN.out];omega),getD_at (show m<l.length by rw[HN.out];omega),hu,hv])
    have HQ:=zh (show ∀ m,Calls prog 244 #[.int .i64 v,.int .i64 u,.pointer (some ⟨bx,0,none⟩)] (wr.drewN m) fun e w''=>e=.returned (.int .i64 (c v-c u))∧∃ n,w''=(wr.drewN m).drewN n from fun m=>HC.out v u _ fv fu (ho.trans (Oth.drew m)))
    have jh:(h:Int)<(n:Int):=by omega
    have ja:(m:Int)<(n:Int):=by omega
    have eh:((i:Int)+(j:Int)) / 2=(h:Int):=by omega
    by_cases hcv:¬ c v<c u
    · have q3:decide (c v-c u<0)=false:=by simp;omega
      have HO1:=zh (show half T f (h+1) j=I by rw[← HO.out,half_yes (t:=T) (f:=f) hlt (by rw[hh,HTh.out];simpa using hcv),hh])
      clear hcv hu hv fu fv hh
      go_wp2_with fail
      go_quiet (exact Calls.quiet_of (HQ.out _))
      go_wp2_with fail
      exact⟨⟨h+1,j,f,by simp,rfl,by omega,by omega,by omega,by omega,hrow,ho.trans (Oth.drew nq),HO1⟩,by simp[intOf];omega⟩
    · have q3:decide (c v-c u<0)=true:=by simp;omega
      have HO1:=zh (show half T f i h=I by rw[← HO.out,half_no (t:=T) (f:=f) hlt (by rw[hh,HTh.out];simpa using hcv),hh])
      clear hcv hu hv fu fv hh
      go_wp2_with fail
      go_quiet (exact Calls.quiet_of (HQ.out _))
      go_wp2_with fail
      exact⟨⟨i,h,f,rfl,rfl,by omega,by omega,by omega,by omega,hrow,ho.trans (Oth.drew nq),HO1⟩,by simp[intOf];omega⟩
  · obtain rfl:i=I:=by rw[← HO.out,half_out hlt]
    have q1:decide ((i:Int)<(j:Int))=false:=by simp;omega
    go_wp2_with fail
    go_loopw [17] (fun vk wr=>∃ (k:Nat) (L:List Int),vk=.int .i64 (k:Int)∧i≤k∧k≤m∧InRow wr g off pre post L∧Oth g w wr∧RowKit.Hid (L.length=n)∧RowKit.Hid (dnS (k-i) k L=dnS (m-i) m l)) (fun vk _=>(intOf vk).toNat)
    case atStart=>exact⟨m,l,rfl,by omega,by omega,hrow,ho,HN,zh rfl⟩
    case round =>
     clear hrow ho HO hr
     obtain⟨k,L,rfl,hak,hki,hrow,ho,HL,HO⟩:=hrel
     by_cases hlt2:i<k
     · have q2:decide ((i:Int)<(k:Int))=true:=by simp;omega
       obtain⟨p,rfl⟩:∃ p,k=p+1:=⟨k-1,by omega⟩
       obtain⟨k,hk⟩:∃ k,k=p+1:=⟨_,rfl⟩
       rw[← hk] at hak hki HO hlt2 ⊢
       obtain⟨u,hu⟩:∃ u,L[k]'(by rw[HL.out];omega)=u:=⟨_,rfl⟩
       obtain⟨v,hv⟩:∃ v,L[p]'(by rw[HL.out];omega)=v:=⟨_,rfl⟩
       have cu:=hrow.cell k (by rw[HL.out];omega)
       have cv:=hrow.cell p (by rw[HL.out];omega)
       have zu:=hrow.frozen k
       have zv:=hrow.frozen p
       rw[hu] at cu
       rw[hv] at cv
       have n1:k≠p:=by omega
       have n2:p≠k:=by omega
       have jk:(k:Int)<(n:Int):=by omega
       have jp:(p:Int)<(n:Int):=by omega
       have HO1:=zh (show dnS (p-i) p (swp L k p)=dnS (m-i) m l by rw[← HO.out,show k-i=(p-i)+1 by omega,dnS_go,show k-1=p by omega])
       have HM:=zh (show InRow ((wr.setCell ⟨g,off+k,none⟩ (.int .i64 v)).setCell ⟨g,off+p,none⟩ (.int .i64 u)) g off pre post (swp L k p) by rw[← hu,← hv];exact InRow.swp hrow (by rw[HL.out];omega) (by rw[HL.out];omega))
       have HO3:=zh ho
       have EP:=zh (show wrap64 ((k:Int)-1)=(p:Int) by unfold wrap64;omega)
       have ep:=EP.out
       have ep':(k:Int)-1=(p:Int):=by omega
       have HK:=zh (show p<k by omega)
       clear hu hv HO ho hrow hk
       go_wp2_with fail
       have mixed:prog.follows Departure.mixedOrders=true:=by kernel_rfl
       go_big_region_o
       all_goals go_wp2
       have hpk:=HK.out
       refine⟨⟨p,swp L k p,rfl,by omega,by omega,HM.out,(HO3.out.trans ((Oth.set _ _).trans (Oth.set _ _))).trans ⟨rfl,rfl,rfl,rfl,fun _ _=>rfl⟩,zh (by rw[swp_length];exact HL.out),HO1⟩,by simp[intOf];omega⟩
     · have q2:decide ((i:Int)<(k:Int))=false:=by simp;omega
       have hz:L=dnS (m-i) m l:=by rw[← HO.out,show k-i=0 by omega];rfl
       go_wp2_with fail
       refine bodyPost_ret (results_none rfl _ _ _) rfl ?_
       rw[hz] at hrow
       exact⟨rfl,hrow,ho⟩
