import Derived.Test.YtcgnajeenflfaaaGreatDoorP6
set_option maxRecDepth 100000
set_option maxHeartbeats 4000000
set_option linter.all false
open Go.Proofs.Tryz Go.RowKit
namespace Go.Proofs.YtcgnajeenflfaaaGreatDoor
namespace Ta
open Go.Maps Go.WideMaps
open D (isI64 wf64)
def TabAt (w:World) (lo hi:Nat) (v:Value) (T:Tm):Prop :=
 ∃ pt be bl f n g m,v=.pointer (some ⟨pt,0,none⟩)∧(lo≤pt∧pt<hi)∧w.cell? ⟨pt,0,none⟩=some (.map (some be))∧w.cell? ⟨pt,1,none⟩=some (.map (some bl))∧(lo≤be∧be<hi)∧(lo≤bl∧bl<hi) ∧
  MapIs prog 179 encRow w be f n∧n≤4096∧MapIs prog 3 (Value.int .i64) w bl g m∧m≤4096 ∧
  (∀ l,l.length≤8→T.ent l=none→f (rowK l)=none)∧(∀ l es,T.ent l=some es→l.length≤8∧es.length≤16∧∃ s,f (rowK l)=some s∧RowIn 4 w lo hi s es.length (ev es)) ∧
  (∀ x,g x=none→T.long x=0)∧(∀ x u,g x=some u→u=.int .i64 (T.long x))
theorem TabAt.later {w w':World} {lo hi B:Nat} {v:Value} {T:Tm} (h:TabAt w lo hi v T) (hb:Below B w w') (hB:hi≤B):TabAt w' lo hi v T:=by
 obtain⟨pt,be,bl,f,n,g,m,rfl,h1,h2,h3,h4,h5,h6,h7,h8,h9,h10,h11,h12,h13⟩:=h
 refine⟨pt,be,bl,f,n,g,m,rfl,h1,(hb.cell (p:=⟨pt,0,none⟩) (by show pt<B;omega)).trans h2,(hb.cell (p:=⟨pt,1,none⟩) (by show pt<B;omega)).trans h3,h4,h5,h6.later hb (by omega),h7,h8.later hb (by omega),h9,h10,fun l es hl=>?_,h12,h13⟩
 obtain⟨a1,a2,s,a3,a4⟩:=h11 l es hl
 exact⟨a1,a2,s,a3,a4.later (hb.mono hB)⟩
theorem TabAt.wide {w:World} {lo hi lo' hi':Nat} {v:Value} {T:Tm} (h:TabAt w lo hi v T) (b1:lo'≤lo) (b2:hi≤hi'):TabAt w lo' hi' v T:=by
 obtain⟨pt,be,bl,f,n,g,m,rfl,h1,h2,h3,h4,h5,h6,h7,h8,h9,h10,h11,h12,h13⟩:=h
 refine⟨pt,be,bl,f,n,g,m,rfl,by omega,h2,h3,by omega,by omega,h6,h7,h8,h9,h10,fun l es hl=>?_,h12,h13⟩
 obtain⟨a1,a2,s,a3,a4⟩:=h11 l es hl
 exact⟨a1,a2,s,a3,a4.wide b1 b2⟩
theorem TabAt.looks {w:World} {lo hi:Nat} {v:Value} {T:Tm} (h:TabAt w lo hi v T):∃ pt be bl,v=.pointer (some ⟨pt,0,none⟩)∧pt<hi∧w.cell? ⟨pt,0,none⟩=some (.map (some be))∧w.cell? ⟨pt,1,none⟩=some (.map (some bl))∧be<hi ∧
 (∀ x,isI64 x→(Instr.lookup 158 (.map (some bl)) (.int .i64 x) false).run prog w=.ok (.int .i64 (T.long x)) w) ∧
 (∀ l,l.length≤8→(∀ x∈l,isI64 x)→T.ent l=none→∀ w',w'.heap[be]?=w.heap[be]?→(Instr.lookup 167 (.map (some be)) (encRow (rowK l)) true).run prog w'=.ok (.tuple #[.slice none 0 0,.bool false]) w') ∧
 (∀ l es,(∀ x∈l,isI64 x)→T.ent l=some es→∃ s,RowIn 4 w lo hi s es.length (ev es)∧∀ w',w'.heap[be]?=w.heap[be]?→(Instr.lookup 167 (.map (some be)) (encRow (rowK l)) true).run prog w'=.ok (.tuple #[s,.bool true]) w'):=by
 obtain⟨pt,be,bl,f,n,g,m,rfl,h1,h2,h3,h4,h5,h6,h7,h8,h9,h10,h11,h12,h13⟩:=h
 refine⟨pt,be,bl,rfl,h1.2,h2,h3,h4.2,fun x hx=>?_,fun l hl hw hn w' he=>?_,fun l es hw hes=>?_⟩
 · have hl:=h8.look (int_keyed underlying3) underlying158 (Tryz.zeroValue3 _) (keyOf_int_mk underlying3 (wf64 hx)) false
   cases hg:g x with
   | none=>rw[hg] at hl;rw[h12 x hg];exact hl
   | some u=>rw[hg,h13 x u hg] at hl;exact hl
 · obtain⟨kl,hk⟩:=keyRow_any (rowK l) (rowK_len l) (rowK_fine hw)
   have hl2:=(h6.of_block he).look rowKeyed underlying167 (Tryz.zeroValue170 _) hk true
   rw[h10 l hl hn] at hl2
   exact hl2
 · obtain⟨a1,a2,s,a3,a4⟩:=h11 l es hes
   refine⟨s,a4,fun w' he=>?_⟩
   obtain⟨kl,hk⟩:=keyRow_any (rowK l) (rowK_len l) (rowK_fine hw)
   have hl2:=(h6.of_block he).look rowKeyed underlying167 (Tryz.zeroValue170 _) hk true
   rw[a3] at hl2
   exact hl2
theorem Longest_any (v:Value) (T:Tm) (x:Int) (hx:isI64 x) (w:World) (hi:Nat) (h:TabAt w 0 hi v T) :
 Calls prog 238 #[v,.int .i64 x] w fun e w'=>e=.returned (.int .i64 (T.long x))∧w'=w:=by
 obtain⟨pt,be,bl,rfl,h1,h2,h3,_,h4,_⟩:=h.looks
 have h5:=h4 x hx
 clear h h4
 go_enter func238,ntmps238
 go_wp2_with fail
 go_ret
 exact⟨rfl,rfl⟩
def findM (T:Tm) (l:List Int):Option (List El):=if l.length≤8 then T.ent l else none
def FindPost (T:Tm) (l:List Int) (w:World) (e:Ending) (w':World):Prop:=∃ u,e=.returned (.tuple #[u,.bool (findM T l).isSome])∧w'.ownsRow w.heap.size 176 4 u ((findM T l).getD []).length (ev ((findM T l).getD []))∧Below w.heap.size w w'
theorem nine {xs:List Int} (h:xs.length=9):∃ a b c d e f g i j,xs=[a,b,c,d,e,f,g,i,j]:=by
 match xs,h with
 | [a,b,c,d,e,f,g,i,j],_=>exact⟨a,b,c,d,e,f,g,i,j,rfl⟩
theorem below_drewN {B:Nat} {a w:World} (h:Below B a w) (n:Nat):Below B a (w.drewN n):=⟨h.os,h.tape,h.output,h.size,h.block⟩
def LookAt (w:World) (be:Nat) (l:List Int) (r:Option Value):Prop :=
 ∀ w',w'.heap[be]?=w.heap[be]?→(Instr.lookup 167 (.map (some be)) (encRow (rowK l)) true).run prog w'=.ok (lookR (.slice none 0 0) true r) w'
theorem find_no1 (pt be:Nat) (s:Value) (l:List Int) (w:World) (hs:IntsIn w 0 w.heap.size s l) (hpt:pt<w.heap.size) (hbe:be<w.heap.size) (hc:w.cell? ⟨pt,0,none⟩=some (.map (some be)))
 (hl:LookAt w be l none) (h8:decide (l.length≤8)=true) :
 Calls prog 222 #[.pointer (some ⟨pt,0,none⟩),s] w fun e w'=>e=.returned (.tuple #[.slice none 0 0,.bool false])∧Below w.heap.size w w':=by
 obtain⟨a,cap,rfl,hcap,hn⟩:=hs.form
 obtain⟨x0,x1,x2,x3,x4,x5,x6,x7,x8,hrow⟩:=nine (rowK_len l)
 have HS:=zh hs
 have HC:=zh hc
 have H8:=zh h8
 have e1:encRow (rowK l)=.agg #[.int .i64 x0,.int .i64 x1,.int .i64 x2,.int .i64 x3,.int .i64 x4,.int .i64 x5,.int .i64 x6,.int .i64 x7,.int .i64 x8]:=by rw[hrow];rfl
 have HE:=zh e1
 have HK:=zh hl
 clear hs hn hrow e1 hc hl h8
 go_enter func222,ntmps222
 go_wp2_with fail
 refine(rowOf_any _ l w 0 w.heap.size HS.out lr).mono ?_
 rintro e w1 ⟨rfl,hb1⟩
 rw[HE.out,H8.out]
 obtain⟨B,hB⟩:∃ B,w1.heap.size=B:=⟨_,rfl⟩
 obtain⟨W,hW⟩:∃ W,w1.alloc (.cells #[.int .i64 x0,.int .i64 x1,.int .i64 x2,.int .i64 x3,.int .i64 x4,.int .i64 x5,.int .i64 x6,.int .i64 x7,.int .i64 x8] 179)=W:=⟨_,rfl⟩
 have hz:w.heap.size≤B:=by rw[← hB];exact hb1.size
 have hb2:Below w.heap.size w W:=by rw[← hW];exact hb1.alloc hb1.size _
 have hg:W.heap[B]?=some (.cells #[.int .i64 x0,.int .i64 x1,.int .i64 x2,.int .i64 x3,.int .i64 x4,.int .i64 x5,.int .i64 x6,.int .i64 x7,.int .i64 x8] 179 (0,0)):=by rw[← hW,← hB];exact heap_alloc_new w1 _
 have cp:W.cell? ⟨pt,0,none⟩=some (.map (some be)):=(hb2.cell (p:=⟨pt,0,none⟩) hpt).trans HC.out
 have k0:W.cell? ⟨B,0,none⟩=some (.int .i64 x0):=cell_of_row W B 0 _ _ _ hg
 have k1:W.cell? ⟨B,1,none⟩=some (.int .i64 x1):=cell_of_row W B 1 _ _ _ hg
 have k2:W.cell? ⟨B,2,none⟩=some (.int .i64 x2):=cell_of_row W B 2 _ _ _ hg
 have k3:W.cell? ⟨B,3,none⟩=some (.int .i64 x3):=cell_of_row W B 3 _ _ _ hg
 have k4:W.cell? ⟨B,4,none⟩=some (.int .i64 x4):=cell_of_row W B 4 _ _ _ hg
 have k5:W.cell? ⟨B,5,none⟩=some (.int .i64 x5):=cell_of_row W B 5 _ _ _ hg
 have k6:W.cell? ⟨B,6,none⟩=some (.int .i64 x6):=cell_of_row W B 6 _ _ _ hg
 have k7:W.cell? ⟨B,7,none⟩=some (.int .i64 x7):=cell_of_row W B 7 _ _ _ hg
 have k8:W.cell? ⟨B,8,none⟩=some (.int .i64 x8):=cell_of_row W B 8 _ _ _ hg
 have lk:=fun n=>HK.out (W.drewN n) (hb2.block be hbe)
 rw[HE.out] at lk
 simp only [lookR,if_true] at lk
 have HW:=zh hW
 have HB2:=zh hb2
 have HBB:=zh hB
 clear hg hW hb2 hb1 hB HC
 go_wp2_with fail
 rw[HW.out]
 simp only [HBB.out]
 go_quiet (fail)
 go_wp2_with fail
 exact bodyPost_ret (v:=.tuple #[.slice none 0 0,.bool false]) (by simp[results,Tryz.f222]) rfl ⟨rfl,below_drewN HB2.out nq⟩
theorem find_no2 (pt be:Nat) (s:Value) (l:List Int) (w:World) (hs:IntsIn w 0 w.heap.size s l) (hpt:pt<w.heap.size) (hbe:be<w.heap.size) (hc:w.cell? ⟨pt,0,none⟩=some (.map (some be)))
 (hl:LookAt w be l none) (h8:decide (l.length≤8)=false) :
 Calls prog 222 #[.pointer (some ⟨pt,0,none⟩),s] w fun e w'=>e=.returned (.tuple #[.slice none 0 0,.bool false])∧Below w.heap.size w w':=by
 obtain⟨a,cap,rfl,hcap,hn⟩:=hs.form
 obtain⟨x0,x1,x2,x3,x4,x5,x6,x7,x8,hrow⟩:=nine (rowK_len l)
 have HS:=zh hs
 have HC:=zh hc
 have H8:=zh h8
 have e1:encRow (rowK l)=.agg #[.int .i64 x0,.int .i64 x1,.int .i64 x2,.int .i64 x3,.int .i64 x4,.int .i64 x5,.int .i64 x6,.int .i64 x7,.int .i64 x8]:=by rw[hrow];rfl
 have HE:=zh e1
 have HK:=zh hl
 clear hs hn hrow e1 hc hl h8
 go_enter func222,ntmps222
 go_wp2_with fail
 refine(rowOf_any _ l w 0 w.heap.size HS.out lr).mono ?_
 rintro e w1 ⟨rfl,hb1⟩
 rw[HE.out,H8.out]
 obtain⟨B,hB⟩:∃ B,w1.heap.size=B:=⟨_,rfl⟩
 obtain⟨W,hW⟩:∃ W,w1.alloc (.cells #[.int .i64 x0,.int .i64 x1,.int .i64 x2,.int .i64 x3,.int .i64 x4,.int .i64 x5,.int .i64 x6,.int .i64 x7,.int .i64 x8] 179)=W:=⟨_,rfl⟩
 have hz:w.heap.size≤B:=by rw[← hB];exact hb1.size
 have hb2:Below w.heap.size w W:=by rw[← hW];exact hb1.alloc hb1.size _
 have hg:W.heap[B]?=some (.cells #[.int .i64 x0,.int .i64 x1,.int .i64 x2,.int .i64 x3,.int .i64 x4,.int .i64 x5,.int .i64 x6,.int .i64 x7,.int .i64 x8] 179 (0,0)):=by rw[← hW,← hB];exact heap_alloc_new w1 _
 have cp:W.cell? ⟨pt,0,none⟩=some (.map (some be)):=(hb2.cell (p:=⟨pt,0,none⟩) hpt).trans HC.out
 have k0:W.cell? ⟨B,0,none⟩=some (.int .i64 x0):=cell_of_row W B 0 _ _ _ hg
 have k1:W.cell? ⟨B,1,none⟩=some (.int .i64 x1):=cell_of_row W B 1 _ _ _ hg
 have k2:W.cell? ⟨B,2,none⟩=some (.int .i64 x2):=cell_of_row W B 2 _ _ _ hg
 have k3:W.cell? ⟨B,3,none⟩=some (.int .i64 x3):=cell_of_row W B 3 _ _ _ hg
 have k4:W.cell? ⟨B,4,none⟩=some (.int .i64 x4):=cell_of_row W B 4 _ _ _ hg
 have k5:W.cell? ⟨B,5,none⟩=some (.int .i64 x5):=cell_of_row W B 5 _ _ _ hg
 have k6:W.cell? ⟨B,6,none⟩=some (.int .i64 x6):=cell_of_row W B 6 _ _ _ hg
 have k7:W.cell? ⟨B,7,none⟩=some (.int .i64 x7):=cell_of_row W B 7 _ _ _ hg
 have k8:W.cell? ⟨B,8,none⟩=some (.int .i64 x8):=cell_of_row W B 8 _ _ _ hg
 have lk:=fun n=>HK.out (W.drewN n) (hb2.block be hbe)
 rw[HE.out] at lk
 simp only [lookR,if_true] at lk
 have HW:=zh hW
 have HB2:=zh hb2
 have HBB:=zh hB
 clear hg hW hb2 hb1 hB HC
 go_wp2_with fail
 rw[HW.out]
 simp only [HBB.out]
 go_quiet (fail)
 go_wp2_with fail
 exact bodyPost_ret (v:=.tuple #[.slice none 0 0,.bool false]) (by simp[results,Tryz.f222]) rfl ⟨rfl,below_drewN HB2.out nq⟩
theorem find_yes (pt be:Nat) (s:Value) (l:List Int) (w:World) (u:Value) (es:List El) (hu:RowIn 4 w 0 w.heap.size u es.length (ev es)) (hu2:es.length≤16) (hs:IntsIn w 0 w.heap.size s l) (hpt:pt<w.heap.size) (hbe:be<w.heap.size) (hc:w.cell? ⟨pt,0,none⟩=some (.map (some be)))
 (hl:LookAt w be l (some u)) (h8:decide (l.length≤8)=true) :
 Calls prog 222 #[.pointer (some ⟨pt,0,none⟩),s] w fun e w'=>∃ v,e=.returned (.tuple #[v,.bool true])∧w'.ownsRow w.heap.size 176 4 v es.length (ev es)∧Below w.heap.size w w':=by
 obtain⟨a,cap,rfl,hcap,hn⟩:=hs.form
 obtain⟨x0,x1,x2,x3,x4,x5,x6,x7,x8,hrow⟩:=nine (rowK_len l)
 have HU:=zh hu
 have HU2:=zh hu2
 have HS:=zh hs
 have HC:=zh hc
 have H8:=zh h8
 have e1:encRow (rowK l)=.agg #[.int .i64 x0,.int .i64 x1,.int .i64 x2,.int .i64 x3,.int .i64 x4,.int .i64 x5,.int .i64 x6,.int .i64 x7,.int .i64 x8]:=by rw[hrow];rfl
 have HE:=zh e1
 have HK:=zh hl
 clear hs hn hrow e1 hc hl h8 hu hu2
 go_enter func222,ntmps222
 go_wp2_with fail
 refine(rowOf_any _ l w 0 w.heap.size HS.out lr).mono ?_
 rintro e w1 ⟨rfl,hb1⟩
 rw[HE.out,H8.out]
 obtain⟨B,hB⟩:∃ B,w1.heap.size=B:=⟨_,rfl⟩
 obtain⟨W,hW⟩:∃ W,w1.alloc (.cells #[.int .i64 x0,.int .i64 x1,.int .i64 x2,.int .i64 x3,.int .i64 x4,.int .i64 x5,.int .i64 x6,.int .i64 x7,.int .i64 x8] 179)=W:=⟨_,rfl⟩
 have hz:w.heap.size≤B:=by rw[← hB];exact hb1.size
 have hb2:Below w.heap.size w W:=by rw[← hW];exact hb1.alloc hb1.size _
 have hg:W.heap[B]?=some (.cells #[.int .i64 x0,.int .i64 x1,.int .i64 x2,.int .i64 x3,.int .i64 x4,.int .i64 x5,.int .i64 x6,.int .i64 x7,.int .i64 x8] 179 (0,0)):=by rw[← hW,← hB];exact heap_alloc_new w1 _
 have cp:W.cell? ⟨pt,0,none⟩=some (.map (some be)):=(hb2.cell (p:=⟨pt,0,none⟩) hpt).trans HC.out
 have k0:W.cell? ⟨B,0,none⟩=some (.int .i64 x0):=cell_of_row W B 0 _ _ _ hg
 have k1:W.cell? ⟨B,1,none⟩=some (.int .i64 x1):=cell_of_row W B 1 _ _ _ hg
 have k2:W.cell? ⟨B,2,none⟩=some (.int .i64 x2):=cell_of_row W B 2 _ _ _ hg
 have k3:W.cell? ⟨B,3,none⟩=some (.int .i64 x3):=cell_of_row W B 3 _ _ _ hg
 have k4:W.cell? ⟨B,4,none⟩=some (.int .i64 x4):=cell_of_row W B 4 _ _ _ hg
 have k5:W.cell? ⟨B,5,none⟩=some (.int .i64 x5):=cell_of_row W B 5 _ _ _ hg
 have k6:W.cell? ⟨B,6,none⟩=some (.int .i64 x6):=cell_of_row W B 6 _ _ _ hg
 have k7:W.cell? ⟨B,7,none⟩=some (.int .i64 x7):=cell_of_row W B 7 _ _ _ hg
 have k8:W.cell? ⟨B,8,none⟩=some (.int .i64 x8):=cell_of_row W B 8 _ _ _ hg
 have lk:=fun n=>HK.out (W.drewN n) (hb2.block be hbe)
 rw[HE.out] at lk
 simp only [lookR,if_true] at lk
 have HW:=zh hW
 have HB2:=zh hb2
 have HBB:=zh hB
 clear hg hW hb2 hb1 hB HC
 go_wp2_with fail
 rw[HW.out]
 simp only [HBB.out]
 go_quiet (fail)
 have hb9:=below_drewN HB2.out nq
 have hu3:=(HU.out.later hb9)
 go_wp2_with fail
 refine(cloneE_any u es.length (ev es) _ 0 w.heap.size hu3 (ev_one es) hb9.size (by have:=HU2.out;omega)).mono ?_
 rintro e w3 ⟨v,rfl,ho,hb3⟩
 have ho2:=row_low ho hb9.size
 have hb4:=hb9.trans (hb3.mono hb9.size)
 clear ho hb3
 go_wp2_with fail
 exact bodyPost_ret (v:=.tuple #[v,.bool true]) (by simp[results,Tryz.f222]) rfl ⟨v,rfl,ho2,hb4⟩
theorem Find_any (v s:Value) (T:Tm) (l:List Int) (w:World) (h:TabAt w 0 w.heap.size v T) (hs:IntsIn w 0 w.heap.size s l) (hf:∀ x∈l,isI64 x) (h0:T.ent []=none) :
 Calls prog 222 #[v,s] w (FindPost T l w):=by
 obtain⟨pt,be,bl,rfl,h1,h2,h3,h4,_,h5,h6⟩:=h.looks
 by_cases h8:l.length≤8
 · cases he:T.ent l with
   | none =>
    refine(find_no1 pt be s l w hs h1 h4 h2 (h5 l h8 hf he) (by simpa using h8)).mono ?_
    rintro e w' ⟨rfl,hb⟩
    have e1:findM T l=none:=by unfold findM;rw[if_pos h8,he]
    exact⟨.slice none 0 0,by rw[e1];rfl,by rw[e1];exact World.ownsRow_nil _ _ _ _,hb⟩
   | some es =>
    obtain⟨u,h7,h9⟩:=h6 l es hf he
    obtain⟨_,_,_,_,_,_,_,_,_,_,_,_,_,_,_,_,_,_,h10,_,_⟩:=h
    refine(find_yes pt be s l w u es h7 (h10 l es he).2.1 hs h1 h4 h2 h9 (by simpa using h8)).mono ?_
    rintro e w' ⟨v,rfl,ho,hb⟩
    have e1:findM T l=some es:=by unfold findM;rw[if_pos h8,he]
    exact⟨v,by rw[e1];rfl,by rw[e1];exact ho,hb⟩
 · have e1:findM T l=none:=by unfold findM;rw[if_neg h8]
   have e2:rowK l=rowK []:=by unfold rowK;rw[if_neg h8];rfl
   have h9:=h5 [] (Nat.zero_le _) (fun x hx=>by cases hx) h0
   refine(find_no2 pt be s l w hs h1 h4 h2 (by unfold LookAt;rw[e2];exact h9) (by simpa using h8)).mono ?_
   rintro e w' ⟨rfl,hb⟩
   exact⟨.slice none 0 0,by rw[e1];rfl,by rw[e1];exact World.ownsRow_nil _ _ _ _,hb⟩
end Ta
section
def IntsP (w:World) (bad:Nat→Prop) (v:Value) (l:List Int):Prop :=
 ∃ (a:Option Addr) (cap:Nat),v=.slice a l.length cap∧l.length≤cap∧(a=none→cap=0) ∧
  ∀ j (h:j<l.length),∃ g off,a=some ⟨g,off,none⟩∧g<w.heap.size∧¬ bad g∧w.cell? ⟨g,off+j,none⟩=some (.int .i64 l[j])
theorem IntsP.form {w:World} {bad:Nat→Prop} {v:Value} {l:List Int} (h:IntsP w bad v l):∃ a cap,v=.slice a l.length cap∧l.length≤cap∧(a=none→cap=0) ∧
 ∀ j (h:j<l.length),∃ g off,a=some ⟨g,off,none⟩∧g<w.heap.size∧¬ bad g∧w.cell? ⟨g,off+j,none⟩=some (.int .i64 l[j]):=h
theorem IntsP.nil (w:World) (bad:Nat→Prop):IntsP w bad (.slice none 0 0) []:=⟨none,0,rfl,Nat.le_refl _,fun _=>rfl,fun j h=>by cases h⟩
theorem IntsP.reads {w:World} {bad:Nat→Prop} {v:Value} {l:List Int} (h:IntsP w bad v l):IntsIn w 0 w.heap.size v l:=by
 obtain⟨a,cap,rfl,hc,hn,hcells⟩:=h
 exact⟨a,cap,rfl,hc,hn,fun j hj=>by obtain⟨g,off,ha,h3,_,h5⟩:=hcells j hj;exact⟨g,off,ha,Nat.zero_le _,h3,h5⟩⟩
theorem IntsP.of {w:World} {lo hi:Nat} {bad:Nat→Prop} {v:Value} {l:List Int} (h:IntsIn w lo hi v l) (hh:hi≤w.heap.size) (hb:∀ k,lo≤k→k<hi→¬ bad k):IntsP w bad v l:=by
 obtain⟨a,cap,rfl,hc,hn,hcells⟩:=h
 exact⟨a,cap,rfl,hc,hn,fun j hj=>by obtain⟨g,off,ha,h3,h4,h5⟩:=hcells j hj;exact⟨g,off,ha,by omega,hb g h3 h4,h5⟩⟩
theorem IntsP.keep {w w':World} {bad bad':Nat→Prop} {v:Value} {l:List Int} (h:IntsP w bad v l) (hz:w.heap.size≤w'.heap.size) (hk:∀ k,k<w.heap.size→¬ bad k→w'.heap[k]?=w.heap[k]?) (hb:∀ k,k<w.heap.size→bad' k→bad k):IntsP w' bad' v l:=by
 obtain⟨a,cap,rfl,hc,hn,hcells⟩:=h
 exact⟨a,cap,rfl,hc,hn,fun j hj=>by
  obtain⟨g,off,ha,h3,h4,h5⟩:=hcells j hj
  exact⟨g,off,ha,by omega,fun e=>h4 (hb g h3 e),(World.cell?_of_block (hk g h3 h4)).trans h5⟩⟩
theorem IntsP.below {w w':World} {bad bad':Nat→Prop} {v:Value} {l:List Int} (h:IntsP w bad v l) (hb:Below w.heap.size w w') (hb2:∀ k,k<w.heap.size→bad' k→bad k):IntsP w' bad' v l :=
 h.keep hb.size (fun k hk _=>hb.block k hk) hb2
theorem IntsP.grown {w w':World} {row:Option Nat} {bad bad':Nat→Prop} {v:Value} {l:List Int} (h:IntsP w bad v l) (hg:w.grownBy w' row) (hr:∀ k,row=some k→bad k) (hb:∀ k,k<w.heap.size→bad' k→bad k):IntsP w' bad' v l :=
 h.keep hg.size (fun k hk hn=>hg.block k hk (fun e=>hn (hr k e.symm))) hb
theorem IntsP.mono {w:World} {bad bad':Nat→Prop} {v:Value} {l:List Int} (h:IntsP w bad v l) (hb:∀ k,k<w.heap.size→bad' k→bad k):IntsP w bad' v l:=h.keep lr (fun _ _ _=>rfl) hb
theorem IntsP.drop {w:World} {bad:Nat→Prop} {g off n cap:Nat} {l:List Int} (h:IntsP w bad (.slice (some ⟨g,off,none⟩) n cap) l) (k:Nat) (hk:k≤n):IntsP w bad (.slice (some ⟨g,off+k,none⟩) (n-k) (cap-k)) (l.drop k):=by
 obtain⟨a,c,he,hc,hn,hcells⟩:=h
 injection he with e1 e2 e3
 subst e1 e2 e3
 refine⟨_,_,by rw[List.length_drop],by rw[List.length_drop];omega,fun e=>by(cases e),fun j hj=>?_⟩
 rw[List.length_drop] at hj
 obtain⟨g',o',ha,h3,h4,h5⟩:=hcells (k+j) (by omega)
 cases ha
 exact⟨g,off+k,rfl,h3,h4,by rw[Nat.add_assoc,List.getElem_drop];exact h5⟩
theorem IntsP.take {w:World} {bad:Nat→Prop} {g off n cap:Nat} {l:List Int} (h:IntsP w bad (.slice (some ⟨g,off,none⟩) n cap) l) (k:Nat) (hk:k≤n):IntsP w bad (.slice (some ⟨g,off,none⟩) k cap) (l.take k):=by
 obtain⟨a,c,he,hc,hn,hcells⟩:=h
 injection he with e1 e2 e3
 subst e1 e2 e3
 refine⟨_,_,by rw[List.length_take,Nat.min_eq_left hk],by rw[List.length_take];omega,fun e=>by(cases e),fun j hj=>?_⟩
 rw[List.length_take] at hj
 obtain⟨g',o',ha,h3,h4,h5⟩:=hcells j (by omega)
 cases ha
 exact⟨g,off,rfl,h3,h4,by rw[List.getElem_take];exact h5⟩
theorem IntsP.pos {w:World} {bad:Nat→Prop} {v:Value} {l:List Int} (h:IntsP w bad v l) (hl:0<l.length):∃ g off cap,v=.slice (some ⟨g,off,none⟩) l.length cap∧l.length≤cap∧g<w.heap.size∧¬ bad g∧∀ j (h:j<l.length),w.cell? ⟨g,off+j,none⟩=some (.int .i64 l[j]):=by
 obtain⟨a,cap,rfl,hc,hn,hcells⟩:=h
 obtain⟨g,off,rfl,h3,h4,h5⟩:=hcells 0 hl
 refine⟨g,off,cap,rfl,hc,h3,h4,fun j hj=>?_⟩
 obtain⟨g',off',ha,_,_,h6⟩:=hcells j hj
 cases ha
 exact h6
theorem OwnN.place {w:World} {base:Nat} {v:Value} {l:List Int} {bad:Nat→Prop} (h:OwnN w base v l) (hb:∀ k,v.ownBlock=some k→base≤k→k<w.heap.size→¬ bad k):IntsP w bad v l:=by
 obtain⟨a,cap,rfl,hc,hn,hcells⟩:=h.reads
 exact⟨a,cap,rfl,hc,hn,fun j hj=>by obtain⟨g,off,ha,h3,h4,h5⟩:=hcells j hj;subst ha;exact⟨g,off,rfl,h4,hb g rfl h3 h4,h5⟩⟩
theorem wpList_append_at {P:Program} {ops:Array Oper} {rest:List Oper} {o:Oper} {a:Act} {Q:Exit→Act→World→Prop} {w:World} (hgd:o.guard=none) (s x:Operand) (t:TypeId)
 (ho:o.op=.call { callee:=.builtin .append,args:=#[s,x],argTypes:=#[t,t] }) (e:TypeId) (z:Value) (size bytes:Nat) (ht:P.underlying t=some (.slice e))
 (hinfo:(P.info? e).map (fun i=>(i.zero,i.size,i.bytes))=some (some z,size,bytes)) (hzs:z.cells.size=size) (hsz:0<size)
 {base n:Nat} {v:Value} {xs:List Value} (hs:a.eval s=v) (hown:w.ownsRow base e size v n xs) {lo hi m:Nat} {u:Value} {news:List Value} (hx:a.eval x=u) (hu:RowIn size w lo hi u m news) (h1:∀ u∈news,u.oneCell'=true)
 (hlen:n+m≤1099511627776) (hby:bytes≤64) (hbase:base≤w.heap.size)
 (h:∀ c cap w',w'.ownsRow base e size (.slice c (n+m) cap) (n+m) (xs++news)→w.grownBy w' v.ownBlock→(Value.ownBlock (.slice c (n+m) cap)=v.ownBlock∨Value.ownBlock (.slice c (n+m) cap)=some w.heap.size)→wpList P ops Q rest (a.put o.dst (.slice c (n+m) cap)) w'):wpList P ops Q (o::rest) a w:=by
 obtain⟨i0,hi,hz0,hz1,hz2⟩:=info_parts hinfo
 obtain⟨hl,ad,cap,rfl,hc,hn,hcells⟩:=hu
 cases ad with
 | none =>
  obtain rfl:=hn rfl
  obtain rfl:m=0:=by omega
  have hm:news=[]:=List.eq_nil_of_length_eq_zero (by omega)
  subst hm
  refine wpList_append_own_none hgd s x t ho base e i0 size ht hi v n xs hs hown hx ?_
  obtain⟨c,cap',rfl⟩:=row_slice hown
  exact h c cap' w (by simpa using hown) ⟨rfl,rfl,rfl,Nat.le_refl _,fun _ _ _=>rfl⟩ (.inl rfl)
 | some ad =>
  have hnews:∀ j u,news[j]?=some u→w.cell? (ad.add j)=some u:=by
   intro j u hu
   obtain⟨hj,rfl⟩:=List.getElem?_eq_some_iff.1 hu
   obtain⟨g,off,ha,_,_,h3⟩:=hcells j hj
   cases ha
   by_cases h0:j=0
   · subst h0;simpa[Addr.add] using h3
   · simpa[Addr.add,h0] using h3
  refine wpList_append_own_at w hgd s x t ho base e i0 z size bytes ht hi hz0 hz1 hz2 hzs hsz v n xs hs hown ad m cap news hx hl hnews h1 (Nat.le_trans hlen (by decide)) (Nat.le_trans (Nat.mul_le_mul hlen hby) (by decide)) hbase (fun v' w' h1 h2 _ h4=>?_)
  obtain⟨c,cap',rfl⟩:=row_slice h1
  exact h c cap' w' h1 h2 h4
end
namespace V
theorem has_Number_truth (V:Value) (w:World):(Instr.typeAssert (.iface 148 V) 34 130 true).run prog w=.ok (.tuple #[.nilIface,.bool false]) w:=run_typeAssert_lacksB underlying130 (by kernel_rfl) (by kernel_rfl) V _ w
theorem has_Number_whole (V:Value) (w:World):(Instr.typeAssert (.iface 220 V) 34 130 true).run prog w=.ok (.tuple #[.iface 220 V,.bool true]) w:=run_typeAssert_hasB underlying130 (by kernel_rfl) V _ w
theorem has_Number_row (V:Value) (w:World):(Instr.typeAssert (.iface 222 V) 34 130 true).run prog w=.ok (.tuple #[.nilIface,.bool false]) w:=run_typeAssert_lacksB underlying130 (by kernel_rfl) (by kernel_rfl) V _ w
theorem has_Number_tuple (V:Value) (w:World):(Instr.typeAssert (.iface 118 V) 34 130 true).run prog w=.ok (.tuple #[.nilIface,.bool false]) w:=run_typeAssert_lacksB underlying130 (by kernel_rfl) (by kernel_rfl) V _ w
theorem has_Raw_truth (V:Value) (w:World):(Instr.typeAssert (.iface 148 V) 34 135 true).run prog w=.ok (.tuple #[.nilIface,.bool false]) w:=run_typeAssert_lacksB underlying135 (by kernel_rfl) (by kernel_rfl) V _ w
theorem has_Raw_whole (V:Value) (w:World):(Instr.typeAssert (.iface 220 V) 34 135 true).run prog w=.ok (.tuple #[.nilIface,.bool false]) w:=run_typeAssert_lacksB underlying135 (by kernel_rfl) (by kernel_rfl) V _ w
theorem has_Raw_row (V:Value) (w:World):(Instr.typeAssert (.iface 222 V) 34 135 true).run prog w=.ok (.tuple #[.iface 222 V,.bool true]) w:=run_typeAssert_hasB underlying135 (by kernel_rfl) V _ w
theorem has_Raw_tuple (V:Value) (w:World):(Instr.typeAssert (.iface 118 V) 34 135 true).run prog w=.ok (.tuple #[.nilIface,.bool false]) w:=run_typeAssert_lacksB underlying135 (by kernel_rfl) (by kernel_rfl) V _ w
theorem has_List_truth (V:Value) (w:World):(Instr.typeAssert (.iface 148 V) 34 84 true).run prog w=.ok (.tuple #[.nilIface,.bool false]) w:=run_typeAssert_lacksB underlying84 (by kernel_rfl) (by kernel_rfl) V _ w
theorem has_List_whole (V:Value) (w:World):(Instr.typeAssert (.iface 220 V) 34 84 true).run prog w=.ok (.tuple #[.nilIface,.bool false]) w:=run_typeAssert_lacksB underlying84 (by kernel_rfl) (by kernel_rfl) V _ w
theorem has_List_row (V:Value) (w:World):(Instr.typeAssert (.iface 222 V) 34 84 true).run prog w=.ok (.tuple #[.nilIface,.bool false]) w:=run_typeAssert_lacksB underlying84 (by kernel_rfl) (by kernel_rfl) V _ w
theorem has_List_tuple (V:Value) (w:World):(Instr.typeAssert (.iface 118 V) 34 84 true).run prog w=.ok (.tuple #[.iface 118 V,.bool true]) w:=run_typeAssert_hasB underlying84 (by kernel_rfl) V _ w
theorem has_List_nil (w:World):(Instr.typeAssert .nilIface 34 84 true).run prog w=.ok (.tuple #[.nilIface,.bool false]) w:=by kernel_rfl
theorem kind_truth (y:Bool) (w:World):Calls prog 282 #[.agg #[.bool y]] w fun e w'=>e=.returned (.int .u8 1)∧Below w.heap.size w w':=by
 go_enter func282,ntmps282
 go_wp2_with fail
 go_ret
 exact⟨rfl,zr.alloc lr _⟩
theorem kind_whole (b:Bool) (m:ByteArray) (w:World):Calls prog 300 #[.agg #[.bool b,.string m]] w fun e w'=>e=.returned (.int .u8 2)∧Below w.heap.size w w':=by
 go_enter func300,ntmps300
 go_wp2_with fail
 go_ret
 exact⟨rfl,zr.alloc lr _⟩
theorem kind_row (k:Nat) (r:ByteArray) (w:World):Calls prog 304 #[.agg #[.int .u8 k,.string r]] w fun e w'=>e=.returned (.int .u8 k)∧Below w.heap.size w w':=by
 go_enter func304,ntmps304
 go_wp2_with fail
 go_ret
 exact⟨rfl,zr.alloc lr _⟩
theorem kind_tuple (a:Option Addr) (n cap:Nat) (w:World):Calls prog 278 #[.agg #[.slice a n cap]] w fun e w'=>e=.returned (.int .u8 7)∧Below w.heap.size w w':=by
 go_enter func278,ntmps278
 go_wp2_with fail
 go_ret
 exact⟨rfl,zr.alloc lr _⟩
theorem bytes_row (k:Nat) (r:ByteArray) (w:World):Calls prog 303 #[.agg #[.int .u8 k,.string r]] w fun e w'=>e=.returned (.string r)∧Below w.heap.size w w':=by
 go_enter func303,ntmps303
 go_wp2_with fail
 go_ret
 exact⟨rfl,zr.alloc lr _⟩
theorem len_tuple (a:Option Addr) (n cap:Nat) (w:World):Calls prog 279 #[.agg #[.slice a n cap]] w fun e w'=>e=.returned (.int .i64 n)∧Below w.heap.size w w':=by
 go_enter func279,ntmps279
 go_wp2_with fail
 go_ret
 exact⟨rfl,zr.alloc lr _⟩
theorem num_whole (b:Bool) (m:ByteArray) (w:World):Calls prog 301 #[.agg #[.bool b,.string m]] w fun e w'=>e=.returned (.agg #[.bool b,.string m])∧Below w.heap.size w w':=by
 go_enter func301,ntmps301
 go_wp2_with fail
 exact bodyPost_ret (v:=.agg #[.bool b,.string m]) (by simp[results,Tryz.results301,go_sem]) rfl ⟨rfl,(zr.alloc lr _).alloc (by simp) _⟩
theorem at_in (g n cap j:Nat) (u:Value) (w:World) (hn:n≤9223372036854775807) (hj:j<n) (hc:w.cell? ⟨g,j,none⟩=some u) :
 Calls prog 277 #[.agg #[.slice (some ⟨g,0,none⟩) n cap],.int .i64 j] w fun e w'=>e=.returned u∧Below w.heap.size w w':=by
 have hlt:g<w.heap.size:=World.block_lt_of_cell? w _ hc
 have q1:decide ((n:Int)≤(j:Int))=false:=by simp;omega
 have q2:decide (n≤j)=false:=by simp;omega
 go_enter func277,ntmps277
 go_wp2_with fail
 go_ret
 exact⟨rfl,zr.alloc lr _⟩
theorem VI.nilOf {w:World} {lo hi:Nat} {p:Pt} {v:Value} (h:VI w lo hi p v) (h0:p.kind=0):v=.nilIface:=by
 cases h with
 | null _ _=>rfl
 | truth _ h=>omega
 | whole _ h=>omega
 | row _ h _ _ _=>omega
 | tuple _ h _ _ _ _ _ _=>omega
theorem VI.kindOf {w:World} {lo hi:Nat} {p:Pt} {v:Value} (h:VI w lo hi p v) (h0:p.kind≠0) :
 ∃ (T:TypeId) (V:Value) (f:FuncId),v=.iface T V∧(∀ w:World,(method 512 T V "Kind").run prog w=.ok (f,V) w)∧(∀ (args:Array Value) (w:World),(callFunc f args).run prog w=.ok (.enter f args) w)∧∀ w:World,Calls prog f #[V] w fun e w'=>e=.returned (.int .u8 p.kind)∧Below w.heap.size w w':=by
 cases h with
 | null _ h=>exact absurd h h0
 | truth _ h=>exact⟨_,_,282,rfl,fun _=>by kernel_rfl,fun _ _=>by kernel_rfl,fun w=>by rw[h];exact kind_truth _ w⟩
 | whole _ h=>exact⟨_,_,300,rfl,fun _=>by kernel_rfl,fun _ _=>by kernel_rfl,fun w=>by rw[h];exact kind_whole _ _ w⟩
 | row _ _ _ _ _=>exact⟨_,_,304,rfl,fun _=>by kernel_rfl,fun _ _=>by kernel_rfl,fun w=>kind_row _ _ w⟩
 | tuple _ h a cap _ _ _ _=>exact⟨_,_,278,rfl,fun _=>by kernel_rfl,fun _ _=>by kernel_rfl,fun w=>by rw[h];exact kind_tuple _ _ _ w⟩
