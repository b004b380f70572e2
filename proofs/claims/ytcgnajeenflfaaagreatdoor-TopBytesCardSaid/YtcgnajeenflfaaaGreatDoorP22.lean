import Derived.Test.YtcgnajeenflfaaaGreatDoorP18
import Derived.Test.YtcgnajeenflfaaaGreatDoorP19
import Derived.Test.YtcgnajeenflfaaaGreatDoorP20
import Derived.Test.YtcgnajeenflfaaaGreatDoorP21
set_option maxRecDepth 100000
set_option maxHeartbeats 4000000
set_option linter.all false
open Go.Proofs.Tryz Go.RowKit
namespace Go.Proofs.YtcgnajeenflfaaaGreatDoor
namespace Sc
open We (Co)
theorem odd_bad (nm:ByteArray) (k:Nat) (dn:Bool) (nu:Nat) (bd lb:Bool) (lm:ByteArray) (hb:Bool) (hm:ByteArray) (mo st:Int) (sh bk:Bool) (n:Nat) (a:Option Addr) (c:Nat) (w:World) (h:k<1∨7<k∨2<nu) :
 Calls prog 82 #[.agg #[.string nm,.int .u8 k,.bool dn,.int .u8 nu,.bool bd,.bool lb,.string lm,.bool hb,.string hm,.int .i64 mo,.int .i64 st,.bool sh,.bool bk,.slice a n c]] w (OddPost true w):=by
 by_cases h1:k<1
 · have q1:decide ((k:Int)<1)=true:=decide_eq_true (by omega)
   go_enter func82,ntmps82
   go_wp2_with fail
   go_ret
   exact⟨rfl,zr.alloc lr _⟩
 have q1:decide ((k:Int)<1)=false:=decide_eq_false (by omega)
 by_cases h2:7<k
 · have q2:decide (7<(k:Int))=true:=decide_eq_true (by omega)
   go_enter func82,ntmps82
   go_wp2_with fail
   go_ret
   exact⟨rfl,zr.alloc lr _⟩
 have q2:decide (7<(k:Int))=false:=decide_eq_false (by omega)
 have q3:decide (2<(nu:Int))=true:=decide_eq_true (by omega)
 go_enter func82,ntmps82
 go_wp2_with fail
 go_ret
 exact⟨rfl,zr.alloc lr _⟩
theorem odd_any (f:Fd) (a:Option Addr) (n c:Nat) (hn:n=f.fields.length) (hf:FFit f) (w:World):Calls prog 82 #[.agg (fcells f (.slice a n c)).toArray] w fun e w'=>e=.returned (.bool (oddM f))∧Below w.heap.size w w':=by
 subst hn
 have HK:=fun w=>oddFn_any f (.slice a f.fields.length c) ⟨_,_,_,rfl⟩ hf w
 rw[oddM_eq]
 obtain⟨nm,k,dn,nu,bd,lb,lm,hb,hm,mo,⟨st,sh,bk⟩,fs⟩:=f
 rw[fcells_mk] at HK ⊢
 simp only [Fd.kind,Fd.nulls,Fd.bnd,Fd.lob,Fd.lom,Fd.hib,Fd.him,Fd.most,Fd.co,Fd.fields] at HK ⊢
 by_cases hv:k<1∨7<k∨2<nu
 · rw[show oddX k nu bd lb lm hb hm mo ⟨st,sh,bk⟩ fs (oddKind (.mk nm k dn nu bd lb lm hb hm mo ⟨st,sh,bk⟩ fs))=true by unfold oddX;rw[if_pos hv]]
   exact odd_bad nm k dn nu bd lb lm hb hm mo st sh bk fs.length a c w hv
 · simp only [not_or,Nat.not_lt] at hv
   obtain⟨hk1,hk7,hnu⟩:=hv
   rcases (by omega:k=1∨k=2∨k=3∨k=4∨k=5∨k=6∨k=7) with rfl | rfl | rfl | rfl | rfl | rfl | rfl
   · exact odd_1 nm dn nu bd lb lm hb hm mo st sh bk fs a c w _ _ hnu HK rfl
   · exact odd_2 nm dn nu bd lb lm hb hm mo st sh bk fs a c w _ _ hnu HK rfl
   · exact odd_3 nm dn nu bd lb lm hb hm mo st sh bk fs a c w _ _ hnu HK rfl
   · exact odd_4 nm dn nu bd lb lm hb hm mo st sh bk fs a c w _ _ hnu HK rfl
   · exact odd_5 nm dn nu bd lb lm hb hm mo st sh bk fs a c w _ _ hnu HK rfl
   · exact odd_6 nm dn nu bd lb lm hb hm mo st sh bk fs a c w _ _ hnu HK rfl
   · exact odd_7 nm dn nu bd lb lm hb hm mo st sh bk fs a c w _ _ hnu HK rfl
open V (Same)
theorem FI.take {w:World} {lo hi n cap:Nat} {a:Option Addr} {l:List Fd} (h:FI w lo hi l (.slice a n cap)) (i:Nat) (hin:i≤n):FI w lo hi (l.take i) (.slice a i cap):=by
 generalize hv:Value.slice a n cap=v at h
 cases h with
 | mk _ a' cap' F hc cells fits deep =>
  injection hv with e1 e2 e3
  subst e1 e2 e3
  have hl:(l.take i).length=i:=by rw[List.length_take];omega
  have hg:∀ j (hj:j<(l.take i).length),(l.take i)[j]=l[j]'(by omega):=fun j hj=>List.getElem_take
  have:=FI.mk (w:=w) (lo:=lo) (hi:=hi) (l.take i) a cap F (by omega) (fun j hj=>by rw[hg j hj];exact cells j (by omega)) (fun j hj=>by rw[hg j hj];exact fits j (by omega)) (fun j hj=>by rw[hg j hj];exact deep j (by omega))
  rwa [hl] at this
theorem FI.len {w:World} {lo hi n cap:Nat} {a:Option Addr} {l:List Fd} (h:FI w lo hi l (.slice a n cap)):n=l.length:=by
 obtain⟨a',cap',he,_⟩:=h.open
 injection he with _ e2 _
theorem FI.xv {P:Nat→Prop} {w w':World} {lo hi:Nat} {l:List Fd} {v:Value} (h:FI w lo hi l v) (hm:Xv P w w') (hb:∀ k,lo≤k→k<hi→¬ P k) (hs:hi≤w.heap.size):FI w' lo hi l v:=h.same (hm.same hb hs)
def wrongE (c:Int) (pv:Value):Ending:=.panicked [{ v:=.iface 126 (.agg #[.int .i64 c,pv]),recovered:=false }]
def Wrong (e:Ending):Prop:=∃ c a n k,c≠0∧e=wrongE c (.slice a n k)
def DoPost (ok:Bool) (nb n:Nat) (w:World) (e:Ending) (w':World):Prop :=
 (if ok then e=.returned (.bool true) else Wrong e)∧Xv (· = nb) w w'∧Blk w' nb 3 #[.int .i64 ((n+1:Nat):Int)]
theorem FCells.all {w:World} {b o:Nat} {f:Fd} {v:Value} (h:FCells w b o f v) :
 w.cell? ⟨b,o,none⟩=some (.string f.name)∧w.cell? ⟨b,o+1,none⟩=some (.int .u8 f.kind)∧w.cell? ⟨b,o+2,none⟩=some (.bool f.down)∧w.cell? ⟨b,o+3,none⟩=some (.int .u8 f.nulls)∧w.cell? ⟨b,o+4,none⟩=some (.bool f.bnd) ∧
  w.cell? ⟨b,o+5,none⟩=some (.bool f.lob)∧w.cell? ⟨b,o+6,none⟩=some (.string f.lom)∧w.cell? ⟨b,o+7,none⟩=some (.bool f.hib)∧w.cell? ⟨b,o+8,none⟩=some (.string f.him)∧w.cell? ⟨b,o+9,none⟩=some (.int .i64 f.most) ∧
  w.cell? ⟨b,o+10,none⟩=some (.int .i64 f.co.str)∧w.cell? ⟨b,o+11,none⟩=some (.bool f.co.sh)∧w.cell? ⟨b,o+12,none⟩=some (.bool f.co.back)∧w.cell? ⟨b,o+13,none⟩=some v :=
 ⟨h 0 (by decide),h 1 (by decide),h 2 (by decide),h 3 (by decide),h 4 (by decide),h 5 (by decide),h 6 (by decide),h 7 (by decide),h 8 (by decide),h 9 (by decide),h 10 (by decide),h 11 (by decide),h 12 (by decide),h 13 (by decide)⟩
theorem DoPost.bad {X:Bool} {nb n:Nat} {w w':World} {c:Int} {a:Option Addr} {i k:Nat} (h:X=false) (hc:c≠0) (hx:Xv (· = nb) w w') (hb:Blk w' nb 3 #[.int .i64 ((n+1:Nat):Int)]):DoPost X nb n w (wrongE c (.slice a i k)) w':=by
 subst h
 exact⟨⟨c,a,i,k,hc,rfl⟩,hx,hb⟩
theorem names_snoc {al:List Fd} {nm:ByteArray} {j:Nat} (hj:j<al.length) (h:∀ x∈al.take j,(x.name.toList==nm.toList)=false) (h2:(al[j].name.toList==nm.toList)=false):∀ x∈al.take (j+1),(x.name.toList==nm.toList)=false:=by
 intro x hx
 rw[List.take_add_one,List.getElem?_eq_getElem hj] at hx
 rcases List.mem_append.1 hx with hx | hx
 · exact h x hx
 · simp only [Option.toList_some,List.mem_singleton] at hx;rw[hx];exact h2
theorem names_bad {al:List Fd} {nm:ByteArray} {j:Nat} (hj:j<al.length) (h2:(al[j].name.toList==nm.toList)=true):(al.all fun x=>!(x.name.toList==nm.toList))=false:=by
 rw[List.all_eq_false]
 exact⟨al[j],List.getElem_mem hj,by simp[h2]⟩
theorem names_ok {al:List Fd} {nm:ByteArray} (h:∀ x∈al,(x.name.toList==nm.toList)=false):(al.all fun x=>!(x.name.toList==nm.toList))=true:=by
 rw[List.all_eq_true]
 intro x hx
 rw[h x hx];rfl
theorem do_any (f:Fd) (a:Option Addr) (cf:Nat) (hf:FFit f) (al:List Fd) (aa:Option Addr) (ca:Nat) (pa:Option Addr) (d cp:Nat) (nb n:Nat) (hi:Nat) (w:World)
 (hn:n≤64) (hall:al.length≤140737488351232) (hnb:hi≤nb) (hhi:hi≤w.heap.size) (hal:FI w 0 hi al (.slice aa al.length ca)) (hB:Blk w nb 3 #[.int .i64 (n:Int)]) :
 Calls prog 80 #[.slice pa d cp,.agg (fcells f (.slice a f.fields.length cf)).toArray,.slice aa al.length ca,.pointer (some ⟨nb,0,none⟩)] w (DoPost (fineM (n+1) d al f) nb n w):=by
 obtain⟨X,hX⟩:∃ X,fineM (n+1) d al f=X:=⟨_,rfl⟩
 rw[hX]
 have HO:=fun w=>odd_any f a f.fields.length cf rfl hf w
 have HN:=fun w=>isName_any f.name hf.n w
 unfold fineM at hX
 obtain⟨O,hO⟩:∃ O,oddM f=O:=⟨_,rfl⟩
 obtain⟨N,hN⟩:∃ N,isNameM f.name.toList=N:=⟨_,rfl⟩
 rw[hO] at HO hX
 rw[hN] at HN hX
 obtain⟨nm,k,dn,nu,bd,lb,lm,hb,hm,mo,⟨st,sh,bk⟩,fs⟩:=f
 simp only [Fd.name,Fd.fields] at HN HO ⊢
 replace hX:(decide (n+1≤64)&&decide (d≤16)&&N&&al.all (fun x=>!(x.name.toList==nm.toList))&&!O&&!(k==7&&fs.isEmpty))=X:=hX
 rw[fcells_mk] at HO ⊢
 have c0:=hB.cell 0
 have z0:=hB.frozen 0
 have hXv:∀ o,Xv (· = nb) w ((w.setCell ⟨nb,0,none⟩ (.int .i64 ((n:Int)+1))).alloc o):=fun o=>((Xv.refl (· = nb) w).set_ (fun _=>rfl) _ _).alloc _
 have hBl:∀ o,Blk ((w.setCell ⟨nb,0,none⟩ (.int .i64 ((n:Int)+1))).alloc o) nb 3 #[.int .i64 ((n+1:Nat):Int)]:=fun o =>
  Blk.below (hB.set_ 0 (.int .i64 ((n:Int)+1))) (zr.alloc lr o) (hB.set_ 0 _).lt
 have hBf:∀ cs,Blk ((w.setCell ⟨nb,0,none⟩ (.int .i64 ((n:Int)+1))).alloc (.cells cs 79)) w.heap.size 79 cs:=fun cs=>by
  have:=Blk.new (w.setCell ⟨nb,0,none⟩ (.int .i64 ((n:Int)+1))) 79 cs
  rwa [show (w.setCell ⟨nb,0,none⟩ (.int .i64 ((n:Int)+1))).heap.size=w.heap.size by simp[World.setCell]] at this
 have HXV:=zh hXv
 have HBL:=zh hBl
 have HBF:=zh hBf
 have HAL:=zh hal
 have HX:=zh hX
 replace HO:=zh HO
 replace HN:=zh HN
 have hnl:=hB.lt
 clear hO hN hX hal hB hf hXv hBl hBf
 simp at c0
 go_enter func80,ntmps80
 by_cases h64:64<n+1
 · have q1:decide ((64:Int)<(n:Int)+1)=true:=decide_eq_true (by omega)
   go_wp2_with fail
   exact⟨rfl,DoPost.bad (by rw[← HX.out,decide_eq_false (show ¬ n+1≤64 by omega)];rfl) (by decide) (HXV.out _) (HBL.out _)⟩
 have q1:decide ((64:Int)<(n:Int)+1)=false:=decide_eq_false (by omega)
 by_cases h16:16<d
 · have q2:decide ((16:Int)<(d:Int))=true:=decide_eq_true (by omega)
   go_wp2_with fail
   exact⟨rfl,DoPost.bad (by rw[← HX.out,decide_eq_false (show ¬ d≤16 by omega),Bool.and_false];rfl) (by decide) (HXV.out _) (HBL.out _)⟩
 have q2:decide ((16:Int)<(d:Int))=false:=decide_eq_false (by omega)
 cases N with
 | false =>
  go_wp2_with (go_at_call 81;refine(HN.out _).mono ?_;rintro e w1 ⟨rfl,hb1⟩;have HB1:=zh hb1)
  exact⟨rfl,DoPost.bad (by rw[← HX.out];simp) (by decide) ((HXV.out _).then HB1.out) (Blk.below (HBL.out _) HB1.out (HBL.out _).lt)⟩
 | true =>
  go_wp2_with (go_at_call 81;refine(HN.out _).mono ?_;rintro e w1 ⟨rfl,hb1⟩;have HB1:=zh hb1)
  have HXV1:=zh ((HXV.out _).then HB1.out)
  have HBL1:=zh (Blk.below (HBL.out _) HB1.out (HBL.out _).lt)
  have HBF1:=zh (Blk.below (HBF.out _) HB1.out (HBF.out _).lt)
  clear hb1 HXV HBL HBF HN c0 z0 hnl HB1
  go_loopw [35] (fun i wr=>∃ j:Nat,j≤al.length∧i=.int .i64 (j:Int)∧Xv (· = nb) w wr∧Blk wr nb 3 #[.int .i64 ((n+1:Nat):Int)]∧Blk wr w.heap.size 79 #[.string nm,.int .u8 k,.bool dn,.int .u8 nu,.bool bd,.bool lb,.string lm,.bool hb,.string hm,.int .i64 mo,.int .i64 st,.bool sh,.bool bk,.slice a fs.length cf]∧Hid (∀ x∈al.take j,(x.name.toList==nm.toList)=false)) (fun i _=>al.length-(intOf i).toNat)
  case atStart=>exact⟨0,Nat.zero_le _,rfl,HXV1.out,HBL1.out,HBF1.out,zh (fun x hx=>by cases hx)⟩
  case round =>
   obtain⟨j,hj,rfl,hxv,hbl,hbf,hnm⟩:=hrel
   have c0:wr.cell? ⟨w.heap.size,0,none⟩=some (.string nm):=hbf.cell 0
   have hwl:=hbf.lt
   by_cases hlt:j<al.length
   · have q3:decide ((j:Int)<(al.length:Int))=true:=decide_eq_true (by omega)
     have hal:=HAL.out.xv hxv (fun k _ h e=>by omega) hhi
     obtain⟨aa',ca',he,hca,hpl⟩:=hal.open
     injection he with e1 e2 e3
     subst e1 e3
     obtain⟨b,off,u,rfl,_,hbh,hcl,_,hfi⟩:=hpl j hlt
     obtain⟨k0,k1,k2,k3,k4,k5,k6,k7,k8,k9,k10,k11,k12,k13⟩:=hcl.all
     obtain⟨au,cu,rfl,_,_⟩:=hfi.open
     clear hal hcl hfi hpl
     obtain⟨x,hx⟩:∃ x,al[j]=x:=⟨_,rfl⟩
     rw[hx] at k0 k1 k2 k3 k4 k5 k6 k7 k8 k9 k10 k11 k12 k13
     obtain⟨xm,xk,xdn,xnu,xbd,xlb,xlm,xhb,xhm,xmo,⟨xst,xsh,xbk⟩,xfs⟩:=x
     have HSN:=zh (show (xm.toList==nm.toList)=false→∀ x∈al.take (j+1),(x.name.toList==nm.toList)=false from fun h2=>names_snoc (nm:=nm) hlt hnm.out (by rw[hx];exact h2))
     have HBD:=zh (show (xm.toList==nm.toList)=true→(al.all fun x=>!(x.name.toList==nm.toList))=false from fun h2=>names_bad (nm:=nm) hlt (by rw[hx];exact h2))
     simp only [Fd.name,Fd.kind,Fd.down,Fd.nulls,Fd.bnd,Fd.lob,Fd.lom,Fd.hib,Fd.him,Fd.most,Fd.co,Fd.fields] at k0 k1 k2 k3 k4 k5 k6 k7 k8 k9 k10 k11 k12 k13
     clear hx hnm
     cases hq:(xm.toList==nm.toList) with
     | true =>
      go_wp2_with fail
      exact⟨rfl,DoPost.bad (by rw[← HX.out,HBD.out hq];simp) (by decide) (hxv.alloc _) (Blk.below hbl (zr.alloc lr _) hbl.lt)⟩
     | false =>
      go_wp2_with fail
      exact⟨⟨j+1,by omega,by simp,hxv.alloc _,Blk.below hbl (zr.alloc lr _) hbl.lt,Blk.below hbf (zr.alloc lr _) hwl,zh (HSN.out hq)⟩,by simp[intOf];omega⟩
   · obtain rfl:j=al.length:=by omega
     have q3:decide ((al.length:Int)<(al.length:Int))=false:=decide_eq_false (by omega)
     have HOK:=zh (names_ok (nm:=nm) (by have:=hnm.out;rwa [List.take_length] at this))
     have c1:wr.cell? ⟨w.heap.size,1,none⟩=some (.int .u8 k):=hbf.cell 1
     have c2:wr.cell? ⟨w.heap.size,2,none⟩=some (.bool dn):=hbf.cell 2
     have c3:wr.cell? ⟨w.heap.size,3,none⟩=some (.int .u8 nu):=hbf.cell 3
     have c4:wr.cell? ⟨w.heap.size,4,none⟩=some (.bool bd):=hbf.cell 4
     have c5:wr.cell? ⟨w.heap.size,5,none⟩=some (.bool lb):=hbf.cell 5
     have c6:wr.cell? ⟨w.heap.size,6,none⟩=some (.string lm):=hbf.cell 6
     have c7:wr.cell? ⟨w.heap.size,7,none⟩=some (.bool hb):=hbf.cell 7
     have c8:wr.cell? ⟨w.heap.size,8,none⟩=some (.string hm):=hbf.cell 8
     have c9:wr.cell? ⟨w.heap.size,9,none⟩=some (.int .i64 mo):=hbf.cell 9
     have c10:wr.cell? ⟨w.heap.size,10,none⟩=some (.int .i64 st):=hbf.cell 10
     have c11:wr.cell? ⟨w.heap.size,11,none⟩=some (.bool sh):=hbf.cell 11
     have c12:wr.cell? ⟨w.heap.size,12,none⟩=some (.bool bk):=hbf.cell 12
     have c13:wr.cell? ⟨w.heap.size,13,none⟩=some (.slice a fs.length cf):=hbf.cell 13
     have HBF2:=zh hbf
     have HBL2:=zh hbl
     have HXV2:=zh hxv
     clear hbf hbl hxv hnm
     cases O with
     | true =>
      go_wp2_with (go_at_call 82;refine(HO.out _).mono ?_;rintro e w2 ⟨rfl,hb2⟩;have HB2:=zh hb2)
      exact⟨rfl,DoPost.bad (by rw[← HX.out];simp) (by decide) (HXV2.out.then HB2.out) (Blk.below HBL2.out HB2.out HBL2.out.lt)⟩
     | false =>
      have H64:=zh h64
      have H16:=zh h16
      by_cases hk7:k=7
      · subst hk7
        cases fs with
        | nil =>
         go_wp2_with (go_at_call 82;refine(HO.out _).mono ?_;rintro e w2 ⟨rfl,hb2⟩;have HB2:=zh hb2;have c21:=(Blk.below HBF2.out hb2 hwl).cell 1;have c213:=(Blk.below HBF2.out hb2 hwl).cell 13;simp at c21 c213)
         exact⟨rfl,DoPost.bad (by rw[← HX.out];simp) (by decide) (HXV2.out.then HB2.out) (Blk.below HBL2.out HB2.out HBL2.out.lt)⟩
        | cons x xs =>
         obtain⟨m,hm⟩:∃ m,(x::xs).length=m:=⟨_,rfl⟩
         have q5:((m:Int)==0)=false:=by simp;rw[← hm];simp
         rw[hm] at c13 HO HBF2
         clear hm
         go_wp2_with (go_at_call 82;refine(HO.out _).mono ?_;rintro e w2 ⟨rfl,hb2⟩;have HB2:=zh hb2;have c21:=(Blk.below HBF2.out hb2 hwl).cell 1;have c213:=(Blk.below HBF2.out hb2 hwl).cell 13;simp at c21 c213)
         refine bodyPost_ret (v:=.bool true) (by simp[results,Tryz.f80]) rfl ?_
         refine⟨?_,HXV2.out.then HB2.out,Blk.below HBL2.out HB2.out HBL2.out.lt⟩
         rw[← HX.out,HOK.out,decide_eq_true (show n+1≤64 by have:=H64.out;omega),decide_eq_true (show d≤16 by have:=H16.out;omega)]
         simp
      · have q4:((k:Int)==7)=false:=by simp;omega
        have HK7:=zh hk7
        clear hk7
        go_wp2_with (go_at_call 82;refine(HO.out _).mono ?_;rintro e w2 ⟨rfl,hb2⟩;have HB2:=zh hb2;have c21:=(Blk.below HBF2.out hb2 hwl).cell 1;have c213:=(Blk.below HBF2.out hb2 hwl).cell 13;simp at c21 c213)
        refine bodyPost_ret (v:=.bool true) (by simp[results,Tryz.f80]) rfl ?_
        refine⟨?_,HXV2.out.then HB2.out,Blk.below HBL2.out HB2.out HBL2.out.lt⟩
        rw[← HX.out,HOK.out,decide_eq_true (show n+1≤64 by omega),decide_eq_true (show d≤16 by omega)]
        rw[show (k==7)=false by simpa using HK7.out]
        simp
def WalkPost (r:Option Nat) (nb:Nat) (w:World) (e:Ending) (w':World):Prop :=
 (match r with
  | some m=>e=.returned (.bool true)∧Blk w' nb 3 #[.int .i64 (m:Int)]
  | none=>Wrong e)∧Xv (· = nb) w w'
def WalkAt (l:List Fd):Prop:=l.length≤140737488351232→∀ (a:Option Addr) (c:Nat) (pv:Value) (lp:List Int) (nb n hi:Nat) (w:World),n≤64→lp.length≤16→hi≤nb→hi≤w.heap.size→FI w 0 hi l (.slice a l.length c)→Blk w nb 3 #[.int .i64 (n:Int)]→IntsP w (· = nb) pv lp →
 Calls prog 79 #[.slice a l.length c,pv,.func (.func 80) #[] #[.pointer (some ⟨nb,0,none⟩)]] w (WalkPost (walkL n lp.length [] l) nb w)
theorem ownEmpty (w:World) (base:Nat) (hb:base≤w.heap.size):OwnN (w.alloc (.cells #[] 3)) base (.slice (some ⟨w.heap.size,0,none⟩) 0 0) []:=by
 refine⟨rfl,.inr ⟨w.heap.size,0,#[],rfl,hb,heap_alloc_new w _,?_,?_,?_,?_⟩⟩<;>simp[nv]
theorem drop_one {l:List Fd} {i:Nat} (h:i<l.length):l.drop i=l[i]::l.drop (i+1):=List.drop_eq_getElem_cons h
theorem take_one {l:List Fd} {i:Nat} (h:i<l.length):l.take (i+1)=l.take i++[l[i]]:=by
 rw[List.take_add_one,List.getElem?_eq_getElem h];rfl
theorem walk_list (l:List Fd) (IH:∀ f∈l,WalkAt f.fields):WalkAt l:=by
 intro hl a c pv lp nb n hi w hn hlp hnb hhi hfi hbl hpv
 obtain⟨d,hd⟩:∃ d,lp.length=d:=⟨_,rfl⟩
 obtain⟨R,hR⟩:∃ R,walkL n lp.length [] l=R:=⟨_,rfl⟩
 rw[hR]
 rw[hd] at hlp hR
 obtain⟨pa,pc,rfl,_⟩:=hpv.form
 rw[hd] at hpv ⊢
 have HFI:=zh hfi
 have HPV:=zh hpv
 have HBL:=zh hbl
 have HR:=zh hR
 have HD:=zh hd
 have HIH:=zh IH
 have hnl:=hbl.lt
 have HNL:=zh hnl
 clear hfi hpv hbl hR hd IH hnl
 go_enter func79,ntmps79
 go_wp2_with fail
 go_loopw [12] (fun iv wr=>∃ i m:Nat,i≤l.length∧iv=.int .i64 (i:Int)∧Xv (· = nb) w wr∧Blk wr nb 3 #[.int .i64 (m:Int)]∧m≤64∧Hid (walkL m d (l.take i) (l.drop i)=R)) (fun iv _=>l.length-(intOf iv).toNat)
 case atStart=>exact⟨0,n,Nat.zero_le _,rfl,Xv.refl _ _,HBL.out,hn,zh HR.out⟩
 case round =>
  obtain⟨i,m,hi2,rfl,hxv,hbl,hm,hw⟩:=hrel
  by_cases hlt:i<l.length
  · have q1:decide ((i:Int)<(l.length:Int))=true:=decide_eq_true (by omega)
    have hfi:=HFI.out.xv hxv (fun k _ h e=>by omega) hhi
    have htk:=hfi.take i (by omega)
    obtain⟨a',c',he,hc,hpl⟩:=hfi.open
    injection he with e1 e2 e3
    subst e1 e3
    obtain⟨b,off,u,rfl,_,hbh,hcl,hff,hsub⟩:=hpl i hlt
    have hfm:=List.getElem_mem hlt
    obtain⟨k0,k1,k2,k3,k4,k5,k6,k7,k8,k9,k10,k11,k12,k13⟩:=hcl.all
    replace hw:=hw.out
    rw[drop_one hlt,walkL_cons,walkF_eq] at hw
    have htk1:=take_one hlt
    rw[← htk1] at hw
    obtain⟨f,hf⟩:∃ f,l[i]=f:=⟨_,rfl⟩
    rw[hf] at k0 k1 k2 k3 k4 k5 k6 k7 k8 k9 k10 k11 k12 hff hsub hw hfm
    obtain⟨au,cu,rfl,_,_⟩:=hsub.open
    have HW:=zh hw
    have HTK:=zh htk
    have HFF:=zh hff
    have HSUB:=zh hsub
    have HFM:=zh hfm
    have HPW:=zh (HPV.out.keep hxv.size (fun k hk hp=>hxv.block k hk hp) (fun _ _ e=>e))
    have HXV:=zh hxv
    have HBL2:=zh hbl
    have HNL2:=zh hbl.lt
    clear hfi hpl hcl hff hsub hw htk hf hxv hbl htk1 hfm
    have HE:=zh (show ∀ cs,OwnN ((wr.alloc (.cells cs 79)).alloc (.cells #[] 3)) (wr.heap.size+1) (.slice (some ⟨wr.heap.size+1,0,none⟩) 0 0) [] from fun cs=>by simpa using ownEmpty (wr.alloc (.cells cs 79)) (wr.heap.size+1) (by simp))
    have HI:=zh (show ∀ o1 o2,IntsIn ((wr.alloc o1).alloc o2) 0 wr.heap.size (.slice pa d pc) lp from fun o1 o2=>HPW.out.reads.later ((zr.alloc lr _).alloc (by simp) _))
    have HBB:=zh (show ∀ o1 o2,Below (wr.heap.size+1) (wr.alloc o1) ((wr.alloc o1).alloc o2) from fun o1 o2=>zr.alloc (by simp) _)
    go_wp2_with (first
     | (at_builtin;refine wpList_append_ints rfl (.tmp 17) (.tmp 18) rfl rfl (HE.out _) rfl (HI.out _ _) (by rw[HD.out];simp;omega) (HBB.out _ _) (by simp) ?_;intro c1 cap1 w1 hO1 hB1 hs1 hz1;simp only [List.length_nil,Nat.zero_add,List.nil_append] at hO1)
     | (at_builtin;refine wpList_append_ints rfl (.tmp 19) (.tmp 21) rfl rfl (hO1.alloc _) rfl (OwnN.one _ w1.heap.size _ lr).reads (by simp[HD.out];omega) (hB1.alloc hs1 _) (by simp;omega) ?_;intro c2 cap2 w2 hO2 hB2 hs2 hz2))
    have hbw:Below wr.heap.size wr w2:=((Below.refl _ wr).alloc lr _).trans (hB2.mono (Nat.le_succ _))
    have hzw:=Nat.le_trans HXV.out.size hbw.size
    have HXW:=zh (HXV.out.then hbw)
    have HBL3:=zh (Blk.below HBL2.out hbw HNL2.out)
    have HTK3:=zh (HTK.out.same (Same.of_below hbw (Nat.le_trans hhi HXV.out.size)))
    have HSUB3:=zh (HSUB.out.same (Same.of_below hbw (Nat.le_trans hhi HXV.out.size)))
    have HPP:=zh (IntsP.of (bad:=(· = nb)) (OwnN.reads hO2) lr (fun k h1 _ e=>by have:=HNL2.out;omega))
    have htl:(l.take i).length=i:=by rw[List.length_take];omega
    have qs:(i:Int)≤(c:Int):=by omega
    have k0:w2.cell? ⟨wr.heap.size,0,none⟩=some (.string f.name):=(hB2.cell (p:=⟨wr.heap.size,0,none⟩) (Nat.lt_succ_self _)).trans (by simp)
    have k1:w2.cell? ⟨wr.heap.size,1,none⟩=some (.int .u8 f.kind):=(hB2.cell (p:=⟨wr.heap.size,1,none⟩) (Nat.lt_succ_self _)).trans (by simp)
    have k2:w2.cell? ⟨wr.heap.size,2,none⟩=some (.bool f.down):=(hB2.cell (p:=⟨wr.heap.size,2,none⟩) (Nat.lt_succ_self _)).trans (by simp)
    have k3:w2.cell? ⟨wr.heap.size,3,none⟩=some (.int .u8 f.nulls):=(hB2.cell (p:=⟨wr.heap.size,3,none⟩) (Nat.lt_succ_self _)).trans (by simp)
    have k4:w2.cell? ⟨wr.heap.size,4,none⟩=some (.bool f.bnd):=(hB2.cell (p:=⟨wr.heap.size,4,none⟩) (Nat.lt_succ_self _)).trans (by simp)
    have k5:w2.cell? ⟨wr.heap.size,5,none⟩=some (.bool f.lob):=(hB2.cell (p:=⟨wr.heap.size,5,none⟩) (Nat.lt_succ_self _)).trans (by simp)
    have k6:w2.cell? ⟨wr.heap.size,6,none⟩=some (.string f.lom):=(hB2.cell (p:=⟨wr.heap.size,6,none⟩) (Nat.lt_succ_self _)).trans (by simp)
    have k7:w2.cell? ⟨wr.heap.size,7,none⟩=some (.bool f.hib):=(hB2.cell (p:=⟨wr.heap.size,7,none⟩) (Nat.lt_succ_self _)).trans (by simp)
    have k8:w2.cell? ⟨wr.heap.size,8,none⟩=some (.string f.him):=(hB2.cell (p:=⟨wr.heap.size,8,none⟩) (Nat.lt_succ_self _)).trans (by simp)
    have k9:w2.cell? ⟨wr.heap.size,9,none⟩=some (.int .i64 f.most):=(hB2.cell (p:=⟨wr.heap.size,9,none⟩) (Nat.lt_succ_self _)).trans (by simp)
    have k10:w2.cell? ⟨wr.heap.size,10,none⟩=some (.int .i64 f.co.str):=(hB2.cell (p:=⟨wr.heap.size,10,none⟩) (Nat.lt_succ_self _)).trans (by simp)
    have k11:w2.cell? ⟨wr.heap.size,11,none⟩=some (.bool f.co.sh):=(hB2.cell (p:=⟨wr.heap.size,11,none⟩) (Nat.lt_succ_self _)).trans (by simp)
    have k12:w2.cell? ⟨wr.heap.size,12,none⟩=some (.bool f.co.back):=(hB2.cell (p:=⟨wr.heap.size,12,none⟩) (Nat.lt_succ_self _)).trans (by simp)
    have k13:w2.cell? ⟨wr.heap.size,13,none⟩=some (.slice au f.fields.length cu):=(hB2.cell (p:=⟨wr.heap.size,13,none⟩) (Nat.lt_succ_self _)).trans (by simp)
    clear HXV HBL2 HTK HSUB HPW hO1 hB1 hs1 hz1 hs2 hz2 hB2 hO2 hbw HE HI HBB
    refine wp_region_held_drew (S:=fun w'=>w'.cell? ⟨wr.heap.size,0,none⟩=some (.string f.name)∧w'.cell? ⟨wr.heap.size,1,none⟩=some (.int .u8 f.kind)∧w'.cell? ⟨wr.heap.size,2,none⟩=some (.bool f.down)∧w'.cell? ⟨wr.heap.size,3,none⟩=some (.int .u8 f.nulls)∧w'.cell? ⟨wr.heap.size,4,none⟩=some (.bool f.bnd)∧w'.cell? ⟨wr.heap.size,5,none⟩=some (.bool f.lob)∧w'.cell? ⟨wr.heap.size,6,none⟩=some (.string f.lom)∧w'.cell? ⟨wr.heap.size,7,none⟩=some (.bool f.hib)∧w'.cell? ⟨wr.heap.size,8,none⟩=some (.string f.him)∧w'.cell? ⟨wr.heap.size,9,none⟩=some (.int .i64 f.most)∧w'.cell? ⟨wr.heap.size,10,none⟩=some (.int .i64 f.co.str)∧w'.cell? ⟨wr.heap.size,11,none⟩=some (.bool f.co.sh)∧w'.cell? ⟨wr.heap.size,12,none⟩=some (.bool f.co.back)∧w'.cell? ⟨wr.heap.size,13,none⟩=some (.slice au f.fields.length cu)∧Xv (· = nb) w2 w') (by kernel_rfl) ⟨k0,k1,k2,k3,k4,k5,k6,k7,k8,k9,k10,k11,k12,k13,(Xv.refl _ w2).drew⟩ (fun hHeld=>?_)
    refine tx 0 ?v0 rfl (by kernel_rfl) tq (by rfl) ?hy0 (by assumption) ?rest0
    case hy0=>(rintro wS ⟨k0,k1,k2,k3,k4,k5,k6,k7,k8,k9,k10,k11,k12,k13,kb⟩;go_simp;try with_reducible rfl)
    try simp[Act.put]
    refine tx 1 ?v1 rfl (by kernel_rfl) tq (by rfl) ?hy1 (by assumption) ?rest1
    case hy1=>(rintro wS ⟨k0,k1,k2,k3,k4,k5,k6,k7,k8,k9,k10,k11,k12,k13,kb⟩;go_simp;try with_reducible rfl)
    try simp[Act.put]
    refine tx 2 ?v2 rfl (by kernel_rfl) tq (by rfl) ?hy2 (by assumption) ?rest2
    case hy2=>(rintro wS ⟨k0,k1,k2,k3,k4,k5,k6,k7,k8,k9,k10,k11,k12,k13,kb⟩;go_simp;try with_reducible rfl)
    try simp[Act.put]
    refine tx 3 ?v3 rfl (by kernel_rfl) tq (by rfl) ?hy3 (by assumption) ?rest3
    case hy3=>(rintro wS ⟨k0,k1,k2,k3,k4,k5,k6,k7,k8,k9,k10,k11,k12,k13,kb⟩;go_simp;try with_reducible rfl)
    try simp[Act.put]
    refine tx 4 ?v4 rfl (by kernel_rfl) tq (by rfl) ?hy4 (by assumption) ?rest4
    case hy4=>(rintro wS ⟨k0,k1,k2,k3,k4,k5,k6,k7,k8,k9,k10,k11,k12,k13,kb⟩;go_simp;try with_reducible rfl)
    try simp[Act.put]
    refine tx 5 ?v5 rfl (by kernel_rfl) tq (by rfl) ?hy5 (by assumption) ?rest5
    case hy5=>(rintro wS ⟨k0,k1,k2,k3,k4,k5,k6,k7,k8,k9,k10,k11,k12,k13,kb⟩;go_simp;try with_reducible rfl)
    try simp[Act.put]
    refine wpAnyH_ready (rs:=[6]) (by kernel_rfl) (by simp) ?_
    refine AllReadyH.cons rfl (fun K hK=>?_) AllReadyH.nil
    go_simp
    obtain⟨k0,k1,k2,k3,k4,k5,k6,k7,k8,k9,k10,k11,k12,k13,kb⟩:=hHeld
    have hdo:=do_any f au cu HFF.out (l.take i) (some ⟨b,off,none⟩) c c2 (lp.length+1) cap2 nb m hi w2.drew hm (by rw[htl];omega) hnb (Nat.le_trans hhi hzw) (by rw[htl];exact HTK3.out.same (fun _ _ _=>rfl)) HBL3.out
    rw[htl] at hdo
    refine hdo.mono ?_
    rintro e w9 ⟨he,hx9,hb9⟩
    cases hfine:fineM (m+1) (lp.length+1) (l.take i) f with
    | false =>
     rw[hfine,if_neg (by decide)] at he
     obtain⟨cc,ca,cn,ck,hcc,rfl⟩:=he
     have hRn:R=none:=by rw[← HW.out,← HD.out,hfine];rfl
     unfold wrongE
     go_wp2_with fail
     rw[hRn]
     exact⟨rfl,⟨cc,ca,cn,ck,hcc,rfl⟩,HXW.out.trans hx9.undrew (fun _ _ e=>e)⟩
    | true =>
     rw[hfine,if_pos rfl] at he
     subst he
     replace k0:=hx9.cell (fun e=>by have:=HNL2.out;simp only at e;omega) k0
     replace k1:=hx9.cell (fun e=>by have:=HNL2.out;simp only at e;omega) k1
     replace k2:=hx9.cell (fun e=>by have:=HNL2.out;simp only at e;omega) k2
     replace k3:=hx9.cell (fun e=>by have:=HNL2.out;simp only at e;omega) k3
     replace k4:=hx9.cell (fun e=>by have:=HNL2.out;simp only at e;omega) k4
     replace k5:=hx9.cell (fun e=>by have:=HNL2.out;simp only at e;omega) k5
     replace k6:=hx9.cell (fun e=>by have:=HNL2.out;simp only at e;omega) k6
     replace k7:=hx9.cell (fun e=>by have:=HNL2.out;simp only at e;omega) k7
     replace k8:=hx9.cell (fun e=>by have:=HNL2.out;simp only at e;omega) k8
     replace k9:=hx9.cell (fun e=>by have:=HNL2.out;simp only at e;omega) k9
     replace k10:=hx9.cell (fun e=>by have:=HNL2.out;simp only at e;omega) k10
     replace k11:=hx9.cell (fun e=>by have:=HNL2.out;simp only at e;omega) k11
     replace k12:=hx9.cell (fun e=>by have:=HNL2.out;simp only at e;omega) k12
     replace k13:=hx9.cell (fun e=>by have:=HNL2.out;simp only at e;omega) k13
     replace kb:=kb.trans hx9 (fun _ _ e=>e)
     go_wp2_with fail
     refine hK.out _ _ ⟨k0,k1,k2,k3,k4,k5,k6,k7,k8,k9,k10,k11,k12,k13,kb⟩ (fun hHeld=>?_)
     try simp[Act.put]
     refine tx 7 ?v7 rfl (by kernel_rfl) tq (by rfl) ?hy7 (by assumption) ?rest7
     case hy7=>(rintro wS ⟨k0,k1,k2,k3,k4,k5,k6,k7,k8,k9,k10,k11,k12,k13,kb⟩;go_simp;try with_reducible rfl)
     try simp[Act.put]
     refine tx 8 ?v8 rfl (by kernel_rfl) tq (by rfl) ?hy8 (by assumption) ?rest8
     case hy8=>(rintro wS ⟨k0,k1,k2,k3,k4,k5,k6,k7,k8,k9,k10,k11,k12,k13,kb⟩;go_simp;try with_reducible rfl)
     try simp[Act.put]
     refine tx 9 ?v9 rfl (by kernel_rfl) tq (by rfl) ?hy9 (by assumption) ?rest9
     case hy9=>(rintro wS ⟨k0,k1,k2,k3,k4,k5,k6,k7,k8,k9,k10,k11,k12,k13,kb⟩;go_simp;try with_reducible rfl)
     try simp[Act.put]
     refine tx 10 ?v10 rfl (by kernel_rfl) tq (by rfl) ?hy10 (by assumption) ?rest10
     case hy10=>(rintro wS ⟨k0,k1,k2,k3,k4,k5,k6,k7,k8,k9,k10,k11,k12,k13,kb⟩;go_simp;try with_reducible rfl)
     try simp[Act.put]
     refine tx 11 ?v11 rfl (by kernel_rfl) tq (by rfl) ?hy11 (by assumption) ?rest11
     case hy11=>(rintro wS ⟨k0,k1,k2,k3,k4,k5,k6,k7,k8,k9,k10,k11,k12,k13,kb⟩;go_simp;try with_reducible rfl)
     try simp[Act.put]
     refine tx 12 ?v12 rfl (by kernel_rfl) tq (by rfl) ?hy12 (by assumption) ?rest12
     case hy12=>(rintro wS ⟨k0,k1,k2,k3,k4,k5,k6,k7,k8,k9,k10,k11,k12,k13,kb⟩;go_simp;try with_reducible rfl)
     try simp[Act.put]
     refine wpAnyH_ready (rs:=[13]) (by kernel_rfl) (by simp) ?_
     refine AllReadyH.cons rfl (fun K hK=>?_) AllReadyH.nil
     go_simp
     obtain⟨k0,k1,k2,k3,k4,k5,k6,k7,k8,k9,k10,k11,k12,k13,kb⟩:=hHeld
     have hf2:=hfine
     simp only [fineM,Bool.and_eq_true,decide_eq_true_eq] at hf2
     have hfa:m+1≤64∧lp.length+1≤16:=⟨hf2.1.1.1.1.1,hf2.1.1.1.1.2⟩
     have hwk:=HIH.out f HFM.out HFF.out.l au cu (.slice c2 (lp.length+1) cap2) (lp++[(i:Int)]) nb (m+1) hi w9 hfa.1 (by simpa using hfa.2) hnb (Nat.le_trans (Nat.le_trans hhi hzw) hx9.size) (HSUB3.out.same (hx9.undrew.same (fun k _ h e=>by omega) (Nat.le_trans hhi hzw))) hb9 (HPP.out.keep hx9.size (fun k hk hp=>hx9.block k hk hp) (fun _ _ e=>e))
     obtain⟨Z,hZ⟩:∃ Z,walkL (m+1) (lp++[(i:Int)]).length [] f.fields=Z:=⟨_,rfl⟩
     rw[hZ] at hwk
     have hW2:=HW.out
     rw[← HD.out,hfine,if_pos rfl,show lp.length+1=(lp++[(i:Int)]).length by simp,hZ] at hW2
     refine hwk.mono ?_
     rintro e w8 ⟨he2,hx8⟩
     cases Z with
     | none =>
      obtain⟨cc,ca,cn,ck,hcc,rfl⟩:=he2
      have hRn:R=none:=by rw[← hW2];rfl
      unfold wrongE
      go_wp2_with fail
      rw[hRn]
      exact⟨rfl,⟨cc,ca,cn,ck,hcc,rfl⟩,(HXW.out.trans hx9.undrew (fun _ _ e=>e)).trans hx8 (fun _ _ e=>e)⟩
     | some q =>
      obtain⟨rfl,hb8⟩:=he2
      have hq:=(walkL_ok _ f.fields _ _ _ hfa.1 hZ).2.1
      replace k0:=hx8.cell (fun e=>by have:=HNL2.out;simp only at e;omega) k0
      replace k1:=hx8.cell (fun e=>by have:=HNL2.out;simp only at e;omega) k1
      replace k2:=hx8.cell (fun e=>by have:=HNL2.out;simp only at e;omega) k2
      replace k3:=hx8.cell (fun e=>by have:=HNL2.out;simp only at e;omega) k3
      replace k4:=hx8.cell (fun e=>by have:=HNL2.out;simp only at e;omega) k4
      replace k5:=hx8.cell (fun e=>by have:=HNL2.out;simp only at e;omega) k5
      replace k6:=hx8.cell (fun e=>by have:=HNL2.out;simp only at e;omega) k6
      replace k7:=hx8.cell (fun e=>by have:=HNL2.out;simp only at e;omega) k7
      replace k8:=hx8.cell (fun e=>by have:=HNL2.out;simp only at e;omega) k8
      replace k9:=hx8.cell (fun e=>by have:=HNL2.out;simp only at e;omega) k9
      replace k10:=hx8.cell (fun e=>by have:=HNL2.out;simp only at e;omega) k10
      replace k11:=hx8.cell (fun e=>by have:=HNL2.out;simp only at e;omega) k11
      replace k12:=hx8.cell (fun e=>by have:=HNL2.out;simp only at e;omega) k12
      replace k13:=hx8.cell (fun e=>by have:=HNL2.out;simp only at e;omega) k13
      replace kb:=kb.trans hx8 (fun _ _ e=>e)
      go_wp2_with fail
      refine hK.out _ _ ⟨k0,k1,k2,k3,k4,k5,k6,k7,k8,k9,k10,k11,k12,k13,kb⟩ (fun hHeld=>?_)
      try simp[Act.put]
      refine tx 14 ?v14 rfl (by kernel_rfl) tq (by rfl) ?hy14 (by assumption) ?rest14
      case hy14=>(rintro wS ⟨k0,k1,k2,k3,k4,k5,k6,k7,k8,k9,k10,k11,k12,k13,kb⟩;go_simp;try with_reducible rfl)
      try simp[Act.put]
      refine tx 15 ?v15 rfl (by kernel_rfl) tq (by rfl) ?hy15 (by assumption) ?rest15
      case hy15=>(rintro wS ⟨k0,k1,k2,k3,k4,k5,k6,k7,k8,k9,k10,k11,k12,k13,kb⟩;go_simp;try with_reducible rfl)
      try simp[Act.put]
      refine wpAnyH_done (by kernel_rfl) ?_ _
      go_wp2_with fail
      obtain⟨k0,k1,k2,k3,k4,k5,k6,k7,k8,k9,k10,k11,k12,k13,kb⟩:=hHeld
      exact⟨⟨i+1,q,by omega,by simp,HXW.out.trans kb (fun _ _ e=>e),hb8,hq,zh (by rw[← HD.out];exact hW2)⟩,by simp[intOf];omega⟩
  · obtain rfl:i=l.length:=by omega
    have q1:decide ((l.length:Int)<(l.length:Int))=false:=decide_eq_false (by omega)
    have hRm:R=some m:=by
     have h:=hw.out
     rw[List.drop_length,walkL_nil] at h
     exact h.symm
    go_wp2_with fail
    refine bodyPost_ret (v:=.bool true) (by simp[results,Tryz.f79]) rfl ?_
    rw[hRm]
    exact⟨⟨rfl,hbl⟩,hxv⟩
theorem walk_all (f:Fd):WalkAt f.fields:=Fd.ind (C:=fun f=>WalkAt f.fields) (fun f ih=>walk_list f.fields ih) f
theorem walk_any (l:List Fd):WalkAt l:=walk_list l (fun f _=>walk_all f)
