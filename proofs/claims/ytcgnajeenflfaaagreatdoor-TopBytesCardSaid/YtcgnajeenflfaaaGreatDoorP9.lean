import Derived.Deep.LoopGhost
import Derived.Deep.RegionHeld3
import Derived.Test.YtcgnajeenflfaaaGreatDoorP8
set_option maxRecDepth 100000
set_option maxHeartbeats 4000000
set_option linter.all false
open Go.Proofs.Tryz Go.RowKit
namespace Go.Proofs.YtcgnajeenflfaaaGreatDoor
namespace Ma
open Ta (Tm El findM impM TabAt Find_any FindPost)
open So (Fine)
open D (Dm Wf DataAt classM classM_le Class_any isI64)
def Beside (w:World) (bad:Nat→Prop) (sv:Value) (rv:Value) (R:List Int):Prop:=IntsP w (fun k=>bad k∨sv.ownBlock=some k) rv R
theorem Beside.below {w w':World} {bad:Nat→Prop} {sv rv:Value} {R:List Int} (h:Beside w bad sv rv R) (hb:Below w.heap.size w w'):Beside w' bad sv rv R:=IntsP.below h hb fun _ _ e=>e
theorem Beside.stay {w w':World} {o:Obj} {bad:Nat→Prop} {sv sv' rv:Value} {R:List Int} (h:Beside w bad sv rv R) (ha:sv'.ownBlock=sv.ownBlock∨sv'.ownBlock=some (w.alloc o).heap.size) (hg:(w.alloc o).grownBy w' sv.ownBlock):Beside w' bad sv' rv R:=by
 have h1:IntsP (w.alloc o) (fun k=>bad k∨sv.ownBlock=some k) rv R:=IntsP.below h (zr.alloc lr _) fun _ _ e=>e
 refine h1.keep hg.size (fun k hk hn=>hg.block k hk fun e=>hn (.inr e.symm)) fun k hk e=>?_
 rcases e with e | e
 · exact .inl e
 · rcases ha with h2 | h2
   · exact .inr (h2.symm.trans e)
   · rw[h2] at e
     have:=Option.some.inj e
     omega
theorem Below.grownA {W w w':World} {o:Obj} {base:Nat} {e:TypeId} {size n:Nat} {v:Value} {xs:List Value} (h:Below base W w) (hO:w.ownsRow base e size v n xs) (hz:base≤w.heap.size) (hg:(w.alloc o).grownBy w' v.ownBlock):Below base W w' :=
 (h.alloc hz o).grown hg (by simp;omega) fun k hk=>(World.ownsRow.lt hO k hk).1
theorem own_bad {w:World} {base:Nat} {v:Value} {l:List Int} (h:OwnN w base v l):∀ k,v.ownBlock=some k→base≤k∧k<w.heap.size:=World.ownsRow.lt h
theorem own_app {w:World} {base:Nat} {v:Value} {S m:List Int} {n:Nat} (hn:m.length=n) (h:w.ownsRow base 3 1 v (S.length+n) (nv S++nv m)):OwnN w base v (S++m):=by
 unfold OwnN;rw[← nv_append,List.length_append,hn];exact h
def FurPost (bad:Nat→Prop) (r:List Int×List Int) (w:World) (e:Ending) (w':World):Prop:=∃ u1 u2,e=.returned (.tuple #[u1,u2])∧IntsP w' bad u1 r.1∧IntsP w' bad u2 r.2∧Below w.heap.size w w'
theorem further_any {D:Dm} (wf:Wf D) (T:Tm) (h0:T.ent []=none) (v t rv0 s:Value) (bad:Nat→Prop) (row L:List Int) (w:World) (hd:DataAt w 0 w.heap.size v D) (ht:TabAt w 0 w.heap.size t T) (hr:IntsP w bad rv0 row) (hs:IntsP w bad s L)
 (hbad:∀ k,bad k→k<w.heap.size) (hrf:Fine row) (hlf:Fine L) (hrl:row.length≤4194304) (hll:L.length≤4194304) :
 Calls prog 239 #[v,t,rv0,s] w (FurPost bad (furM (classM D) T L row [] 0) w):=by
 obtain⟨pd,hpd⟩:∃ pd,v=.pointer (some pd):=by obtain⟨pd,_,_,_,h,_⟩:=hd;exact⟨_,h⟩
 subst hpd
 obtain⟨pt,hpt⟩:∃ pt,t=.pointer (some pt):=by obtain⟨pt,_,_,_,_,_,_,h,_⟩:=ht;exact⟨_,h⟩
 subst hpt
 obtain⟨a,cap,hsv,hcap,han,hcell⟩:=hs.form
 subst hsv
 have HS:=zh hs
 have HD:=zh hd
 have HT:=zh ht
 have HW:=zh wf
 have H0:=zh h0
 have HBD:=zh hbad
 have HLF:=zh hlf
 have HRF:=zh hrf
 obtain⟨Z,hZ⟩:∃ Z,furM (classM D) T L row [] 0=Z:=⟨_,rfl⟩
 have HZ:=zh hZ
 rw[hZ]
 have HR0:=zh (show Beside w bad (.slice none 0 0) rv0 row from hr.mono fun k _ e=>by rcases e with e | e;exact e;cases e)
 have HCL:=zh hcell
 have HP:=zh (show ∀ e w',(∃ u1 u2,e=.returned (.tuple #[u1,u2])∧IntsP w' bad u1 Z.1∧IntsP w' bad u2 Z.2∧Below w.heap.size w w')→FurPost bad Z w e w' from fun _ _ h=>h)
 clear hd ht wf h0 hbad hlf hrf hZ hs hr hcell han
 go_enter func239,ntmps239
 go_wp2_with fail
 go_loopw [2,10,11,20] (fun rv sv hv iv wr=>∃ (j:Nat) (R S:List Int) (hi:Int),j≤L.length∧iv=.int .i64 (j:Int)∧hv=.int .i64 hi∧Beside wr bad sv rv R∧OwnN wr w.heap.size sv S∧Below w.heap.size w wr∧S.length≤j∧R.length≤4194304∧(0≤hi∧hi≤254)∧RowKit.Hid (Fine R)∧RowKit.Hid (furM (classM D) T (L.drop j) R S hi=Z)) (fun _ _ _ iv _=>L.length-(intOf iv).toNat)
 case atStart=>exact⟨0,row,[],0,Nat.zero_le _,rfl,rfl,HR0.out,OwnN.nil _ _,zr,Nat.zero_le _,hrl,by omega,HRF,HZ⟩
 case round =>
  obtain⟨j,R,S,hi,hj,rfl,rfl,hRP,hO,hB,hSl,hRl,hhi,HRf,HO⟩:=hrel
  obtain⟨a10,cap10,rfl⟩:=row_slice hO
  have hsz:=hB.size
  have HRP:=zh hRP
  have HOw:=zh hO
  have HBw:=zh hB
  by_cases hlt:j<L.length
  · have q1:decide ((j:Int)<(L.length:Int))=true:=by simp;omega
    obtain⟨g,off,rfl,hg,hgb,hc⟩:=HCL.out j hlt
    have hc':=(hB.cell (p:=⟨g,off+j,none⟩) hg).trans hc
    obtain⟨p,hp⟩:∃ p,L[j]=p:=⟨_,rfl⟩
    have hpi:isI64 p:=by rw[← hp];exact HLF.out _ (List.getElem_mem hlt)
    rw[hp] at hc' hc
    have HPI:=zh hpi
    have HDR:=zh (show L.drop j=p::L.drop (j+1) by rw[← hp];exact List.drop_eq_getElem_cons hlt)
    have hcl:=classM_le HW.out p
    clear hp hpi hc hRP hO
    go_wp2_with fail
    refine(Class_any _ D p HPI.out wr wr.heap.size ((HD.out.later hB lr).wide lr hsz)).mono ?_
    rintro e wr ⟨rfl,rfl⟩
    clear hB
    by_cases hc0:classM D p=0
    · have q2:(classM D p==0)=true:=by simpa using hc0
      rw[HDR.out,furM_stop hc0] at HO
      have HO1:=zh (show R=Z.1∧S++L.drop j=Z.2 by rw[← HO.out,HDR.out];exact⟨rfl,rfl⟩)
      have hsd:=(HS.out.drop j hj)
      have hsd2:=RowIn.ints ((hsd.reads).later HBw.out) (List.length_drop ..)
      have jL:(j:Int)≤(L.length:Int):=by omega
      have jc:j<cap:=by omega
      clear hc0 hsd HO
      go_wp2_with (at_builtin;refine wpList_append_at rfl (.tmp 31) (.tmp 34) 42 rfl 3 (.int .i64 0) 1 8 underlying42 infoInt rfl (by decide) rfl HOw.out rfl hsd2 (nv_one _) (by omega) (by decide) hsz ?_;intro c9 cap9 w9 hO9 hg9 hat9)
      have hB9:=HBw.out.grown hg9 hsz fun k hk=>(own_bad HOw.out k hk).1
      have hR9:=HRP.out.grown hg9 (fun k hk=>.inr hk) (bad':=bad) (fun k _ e=>.inl e)
      have hO9':=own_app (List.length_drop ..) hO9
      rw[HO1.out.1] at hR9
      rw[HO1.out.2] at hO9'
      exact bodyPost_ret (v:=.tuple #[u2,.slice c9 (S.length+(L.length-j)) cap9]) (by simp[results,Tryz.f239]) rfl ⟨u2,_,rfl,hR9,hO9'.place fun k _ hk _ e=>absurd (HBD.out k e) (by omega),hB9⟩
    · have q2:(classM D p==0)=false:=by simpa using hc0
      rw[HDR.out] at HO
      by_cases hh:hi<classM D p
      · have q3:decide (hi<classM D p)=true:=by simpa using hh
        have HC0:=zh hc0
        have HHH:=zh hh
        clear hc0 hh
        go_wp2_with fail
        refine(cloneN_any u2 R wr 0 wr.heap.size HRP.out.reads lr (by omega)).mono ?_
        rintro e w2 ⟨u,rfl,hu,hb2⟩
        have hone2:=(OwnN.one w2 w2.heap.size p lr).reads
        simp only [World.size_alloc] at hone2
        have hz2:=hb2.size
        have hb2a:=hb2.alloc hz2 (.cells #[.int .i64 p] 3)
        have hsz2:wr.heap.size≤(w2.alloc (.cells #[.int .i64 p] 3)).heap.size:=by simp;omega
        go_wp2_with (at_builtin;refine wpList_append_ints rfl (.tmp 40) (.tmp 42) rfl rfl (hu.alloc _) rfl hone2 (by simp;omega) hb2a hsz2 ?_;intro c3 cap3 w3 hO3 hB3 hsz3 _)
        have HO3:=zh hO3
        have HB3:=zh hB3
        have HRF1:=zh (show Fine (R++[p]) from HRf.out.app fun x hx=>by rw[List.mem_singleton.1 hx];exact HPI.out)
        clear hO3 hu hb2 hb2a hone2 hsz2
        refine(Find_any (.pointer (some pt)) _ T (R++[p]) w3 ((HT.out.later (HBw.out.trans (hB3.mono hsz)) lr).wide lr (Nat.le_trans hsz hsz3)) (HO3.out.reads.wide (Nat.zero_le _) lr) HRF1.out H0.out).mono ?_
        rintro e w4 ⟨u',rfl,_,hb4⟩
        have HB4:=zh (hB3.trans (hb4.mono hsz3))
        have HO4:=zh (OwnN.below HO3.out hb4)
        have hz4:wr.heap.size≤w4.heap.size:=Nat.le_trans hsz3 hb4.size
        clear hB3 hb4 HO3 HB3
        cases hfm:(findM T (R++[p])).isSome with
        | true =>
         have HZ1:=zh (show furM (classM D) T (L.drop (j+1)) (R++[p]) S hi=Z by rw[← HO.out];exact(furM_take HC0.out HHH.out hfm).symm)
         have hlen8:=findM_short hfm
         have HB5:=zh (HBw.out.trans (HB4.out.mono hsz))
         have HOs:=zh (OwnN.below HOw.out HB4.out)
         have HRn:=zh (show Beside w4 bad (.slice a10 S.length cap10) (.slice c3 (R.length+[p].length) cap3) (R++[p]) from HO4.out.place fun k _ hk _ e=>by
          rcases e with e | e
          · have:=HBD.out k e;omega
          · have:=(own_bad HOw.out k e).2;omega)
         clear hfm
         go_wp2_with fail
         exact⟨⟨j+1,R++[p],S,hi,by omega,by simp,rfl,HRn.out,HOs.out,HB5.out,by omega,by omega,hhi,HRF1,HZ1⟩,by simp[intOf];omega⟩
        | false =>
         have HSTAY:=zh (show furM (classM D) T (L.drop (j+1)) R (S++[p]) (max hi (classM D p))=Z by rw[← HO.out];exact(furM_stay HC0.out (fun e=>by rw[hfm] at e;cases e.2)).symm)
         have HRs:=zh (HRP.out.below HB4.out)
         have HBs:=zh (HBw.out.trans (HB4.out.mono hsz))
         have HOs:=zh (OwnN.below HOw.out HB4.out)
         clear hfm
         have hone:=(OwnN.one w4 w4.heap.size p lr).reads
         simp only [World.size_alloc] at hone
         have hsz9:w.heap.size≤w4.heap.size:=HBs.out.size
         go_wp2_with (at_builtin;refine wpList_append_at rfl (.tmp 52) (.tmp 54) 42 rfl 3 (.int .i64 0) 1 8 underlying42 infoInt rfl (by decide) rfl (HOs.out.alloc (.cells #[.int .i64 p] 3)) rfl (RowIn.ints hone rfl) (nv_one _) (by simp;omega) (by decide) (by simp;omega) ?_;intro c9 cap9 w9 hO9 hg9 hat9)
         have hR9:=HRs.out.stay hat9 hg9
         have hB9:=Below.grownA HBs.out HOs.out hsz9 hg9
         have hO9':=own_app rfl hO9
         clear hO9 hat9 hg9 hone
         refine⟨⟨j+1,R,S++[p],max hi (classM D p),by omega,by simp,?_,hR9,by simpa using hO9',hB9,by simp;omega,by omega,by omega,HRf,HSTAY⟩,by simp[intOf];omega⟩
         congr 1
         first
          | omega
          | (split<;>omega)
      · have q3:decide (hi<classM D p)=false:=by simpa using hh
        have HSTAY:=zh (show furM (classM D) T (L.drop (j+1)) R (S++[p]) (max hi (classM D p))=Z by rw[← HO.out];exact(furM_stay hc0 (fun e=>hh e.1)).symm)
        have HRs:=HRP
        have HBs:=HBw
        have HOs:=HOw
        clear hc0 hh
        have hone:=(OwnN.one wr wr.heap.size p lr).reads
        simp only [World.size_alloc] at hone
        have hsz9:w.heap.size≤wr.heap.size:=HBs.out.size
        go_wp2_with (at_builtin;refine wpList_append_at rfl (.tmp 52) (.tmp 54) 42 rfl 3 (.int .i64 0) 1 8 underlying42 infoInt rfl (by decide) rfl (HOs.out.alloc (.cells #[.int .i64 p] 3)) rfl (RowIn.ints hone rfl) (nv_one _) (by simp;omega) (by decide) (by simp;omega) ?_;intro c9 cap9 w9 hO9 hg9 hat9)
        have hR9:=HRs.out.stay hat9 hg9
        have hB9:=Below.grownA HBs.out HOs.out hsz9 hg9
        have hO9':=own_app rfl hO9
        clear hO9 hat9 hg9 hone
        refine⟨⟨j+1,R,S++[p],max hi (classM D p),by omega,by simp,?_,hR9,by simpa using hO9',hB9,by simp;omega,by omega,by omega,HRf,HSTAY⟩,by simp[intOf];omega⟩
        congr 1
        first
         | omega
         | (split<;>omega)
  · obtain rfl:j=L.length:=by omega
    have q1:decide ((L.length:Int)<(L.length:Int))=false:=by simp
    rw[List.drop_length,furM_nil] at HO
    have hR9:=IntsP.mono HRP.out (bad':=bad) (fun k _ e=>.inl e)
    have h1:R=Z.1:=by rw[← HO.out]
    have h2:S=Z.2:=by rw[← HO.out]
    rw[h1] at hR9
    have hO9:=hO.place (bad:=bad) fun k _ hk _ e=>absurd (HBD.out k e) (by omega)
    rw[h2] at hO9
    have HE:=zh h2
    clear h1 h2 hO hRP
    go_wp2_with fail
    rw[HE.out]
    exact bodyPost_ret (v:=.tuple #[u2,.slice a10 Z.2.length cap10]) (by simp[results,Tryz.f239]) rfl ⟨u2,_,rfl,hR9,hO9,hB⟩
open Ta (Tm El findM impM TabAt Find_any FindPost Longest_any)
open D (Dm Wf DataAt classM classM_le Class_any isI64 formM Form_any formM_ok)
def RowsP (w:World) (bad:Nat→Prop) (us:List Value) (ls:List (List Int)):Prop:=us.length=ls.length∧∀ j (h:j<ls.length),∃ u,us[j]?=some u∧IntsP w bad u ls[j]
theorem RowsP.nil (w:World) (bad:Nat→Prop):RowsP w bad [] []:=⟨rfl,fun j h=>by cases h⟩
theorem RowsP.keep {w w':World} {bad bad':Nat→Prop} {us:List Value} {ls:List (List Int)} (h:RowsP w bad us ls) (hz:w.heap.size≤w'.heap.size) (hk:∀ k,k<w.heap.size→¬ bad k→w'.heap[k]?=w.heap[k]?) (hb:∀ k,k<w.heap.size→bad' k→bad k):RowsP w' bad' us ls :=
 ⟨h.1,fun j hj=>by obtain⟨u,h1,h2⟩:=h.2 j hj;exact⟨u,h1,h2.keep hz hk hb⟩⟩
theorem RowsP.push {w:World} {bad:Nat→Prop} {us:List Value} {ls:List (List Int)} {u:Value} {l:List Int} (h:RowsP w bad us ls) (hu:IntsP w bad u l):RowsP w bad (us++[u]) (ls++[l]):=by
 refine⟨by simp[h.1],fun j hj=>?_⟩
 by_cases hjl:j<ls.length
 · obtain⟨x,h1,h2⟩:=h.2 j hjl
   refine⟨x,?_,?_⟩
   · rw[List.getElem?_append_left (by rw[h.1];exact hjl)];exact h1
   · rw[List.getElem_append_left hjl];exact h2
 · obtain rfl:j=ls.length:=by simp at hj;omega
   refine⟨u,?_,?_⟩
   · rw[List.getElem?_append_right (by rw[h.1];exact Nat.le_refl _),h.1];simp
   · rw[List.getElem_append_right lr];simpa using hu
theorem RowsP.one {w:World} {bad:Nat→Prop} {us:List Value} {ls:List (List Int)} (h:RowsP w bad us ls):∀ u∈us,u.oneCell'=true:=by
 intro u hu
 obtain⟨j,hj,rfl⟩:=List.getElem_of_mem hu
 obtain⟨x,h1,h2⟩:=h.2 j (by rw[← h.1];exact hj)
 rw[List.getElem?_eq_getElem hj] at h1
 cases h1
 obtain⟨a,cap,e,_⟩:=h2
 rw[e];rfl
theorem infoNN:(prog.info? 42).map (fun i=>(i.zero,i.size,i.bytes))=some (some (.slice none 0 0),1,24):=by kernel_rfl
theorem push_bad {W2:World} {ov ov':Value} (hat:ov'.ownBlock=ov.ownBlock∨ov'.ownBlock=some W2.heap.size) (k:Nat) (hk:k<W2.heap.size) (e:ov'.ownBlock=some k):ov.ownBlock=some k:=by
 rcases hat with h2 | h2
 · exact h2.symm.trans e
 · rw[h2] at e;have:=Option.some.inj e;omega
theorem ints_push {W2 w9:World} {ov ov' v:Value} {l:List Int} (h:IntsP W2 (fun k=>ov.ownBlock=some k) v l) (hg:W2.grownBy w9 ov.ownBlock) (hat:ov'.ownBlock=ov.ownBlock∨ov'.ownBlock=some W2.heap.size):IntsP w9 (fun k=>ov'.ownBlock=some k) v l :=
 h.keep hg.size (fun k hk hn=>hg.block k hk (fun e=>hn e.symm)) (push_bad hat)
theorem rows_push {wr W2 w9:World} {ov ov' u:Value} {us:List Value} {ls:List (List Int)} {r:List Int} (h:RowsP wr (fun k=>ov.ownBlock=some k) us ls) (hb:Below wr.heap.size wr W2) (hu:IntsP W2 (fun k=>ov.ownBlock=some k) u r) (hg:W2.grownBy w9 ov.ownBlock) (hat:ov'.ownBlock=ov.ownBlock∨ov'.ownBlock=some W2.heap.size) :
 RowsP w9 (fun k=>ov'.ownBlock=some k) (us++[u]) (ls++[r]) :=
 ((h.keep hb.size (fun k hk _=>hb.block k hk) (fun _ _ e=>e)).keep hg.size (fun k hk hn=>hg.block k hk (fun e=>hn e.symm)) (push_bad hat)).push (ints_push hu hg hat)
theorem IntsP.none {w:World} {bad:Nat→Prop} {g off cap:Nat}:IntsP w bad (.slice (some ⟨g,off,Option.none⟩) 0 cap) []:=⟨_,cap,rfl,Nat.zero_le _,fun e=>by(cases e),fun j h=>by cases h⟩
def StepsPost (r:List (List Int)) (w:World) (e:Ending) (w':World):Prop:=∃ v us,e=.returned v∧w'.ownsRow w.heap.size 42 1 v us.length us∧RowsP w' (fun _=>False) us r∧Below w.heap.size w w'
theorem Steps_any {D:Dm} (wf:Wf D) (T:Tm) (h0:T.ent []=none) (hlong:∀ x,0≤T.long x∧T.long x≤8) (v t s:Value) (L:List Int) (w:World) (hd:DataAt w 0 w.heap.size v D) (ht:TabAt w 0 w.heap.size t T) (hs:IntsIn w 0 w.heap.size s L) (hlf:Fine L) (hll:L.length≤65536) :
 Calls prog 221 #[v,t,s] w (StepsPost (stepsM (classM D) T (formM D L).length (formM D L)) w):=by
 obtain⟨pd,hpd⟩:∃ pd,v=.pointer (some pd):=by obtain⟨pd,_,_,_,h,_⟩:=hd;exact⟨_,h⟩
 subst hpd
 obtain⟨pt,hpt⟩:∃ pt,t=.pointer (some pt):=by obtain⟨pt,_,_,_,_,_,_,h,_⟩:=ht;exact⟨_,h⟩
 subst hpt
 obtain⟨a,cap,rfl,hcap,_⟩:=hs.form
 have HS:=zh hs
 have HD:=zh hd
 have HT:=zh ht
 have HW:=zh wf
 have H0:=zh h0
 have HLO:=zh hlong
 have HLF:=zh hlf
 have hfo:=formM_ok wf hlf
 have hF1:(formM D L).length≤4194304:=by omega
 have HF2:=zh hfo.2
 obtain⟨F,hF⟩:∃ F,formM D L=F:=⟨_,rfl⟩
 have HFF:=zh hF
 rw[hF] at hF1 HF2 ⊢
 obtain⟨Z,hZ⟩:∃ Z,stepsM (classM D) T F.length F=Z:=⟨_,rfl⟩
 have hZl:=stepsM_len (classM D) T F.length F
 rw[hZ] at hZl
 have HZ:=zh hZ
 rw[hZ]
 clear hs hd ht wf h0 hlong hlf hfo hF hZ
 go_enter func221,ntmps221
 go_wp2_with fail
 go_step3
 go_wp2_with fail
 refine(Form_any HW.out (.pointer (some pd)) _ L w HD.out HS.out HLF.out hll).mono ?_
 rintro e w1 ⟨fo,rfl,hfo,hb1⟩
 rw[HFF.out] at hfo
 have hfp:=hfo.place (bad:=fun _=>False) (fun _ _ _ _ h=>h)
 obtain⟨af,capf,rfl⟩:=row_slice hfo
 have HB1:=zh hb1
 have hsz1:=hb1.size
 clear hb1 hfo
 go_wp2_with fail
 go_step3
 go_wp2_with fail
 go_loopg [7,8] F.length (fun f ov rv wr=>∃ (l:List Int) (us:List Value) (done:List (List Int)),wr.ownsRow w.heap.size 42 1 ov us.length us∧RowsP wr (fun k=>ov.ownBlock=some k) us done∧IntsP wr (fun k=>ov.ownBlock=some k) rv l∧Below w.heap.size w wr∧l.length≤f∧l.length≤4194304∧done.length+f≤F.length ∧
  RowKit.Hid (Fine l)∧RowKit.Hid (done++stepsM (classM D) T f l=Z))
 case atStart=>exact⟨F,[],[],World.ownsRow_nil _ _ _ _,RowsP.nil _ _,hfp.mono (fun _ _ e=>by cases e),HB1.out,Nat.le_refl _,hF1,by simp,HF2,HZ⟩
 case round =>
  obtain⟨l,us,done,hO,hRs,hl,hB,hlf,hl4,hdl,HLf,HZr⟩:=hrel
  obtain⟨a7,cap7,rfl⟩:=row_slice hO
  have hsz:=hB.size
  have husl:us.length≤4194304:=by have:=hRs.1;omega
  have HO:=zh hO
  have HRs:=zh hRs
  have HB:=zh hB
  have HLI:=zh hl
  by_cases hpos:0<l.length
  · obtain⟨f,rfl⟩:∃ f,gk=f+1:=⟨gk-1,by omega⟩
    obtain⟨g,off,cap8,rfl,hlc,hgl,hgb,hc⟩:=hl.pos hpos
    have q1:decide ((0:Int)<(l.length:Int))=true:=by simp;omega
    obtain⟨x,hx⟩:∃ x,l[0]=x:=⟨_,rfl⟩
    have hc0:=hc 0 hpos
    rw[hx,Nat.add_zero] at hc0
    have hxi:isI64 x:=by rw[← hx];exact HLf.out _ (List.getElem_mem hpos)
    have hx0:l.getD 0 0=x:=by rw[So.getD_at hpos,hx]
    have HX0:=zh hx0
    have HXI:=zh hxi
    have hlo:=HLO.out x
    have p0:(0:Int)<(l.length:Int):=by omega
    clear hO hRs hl hB hx hx0 hxi hc
    go_wp2_with fail
    refine(Longest_any (.pointer (some pt)) T x HXI.out wr wr.heap.size ((HT.out.later HB.out lr).wide lr hsz)).mono ?_
    rintro e wr ⟨rfl,rfl⟩
    obtain⟨M,hM⟩:∃ M:Nat,T.long x=(M:Int):=⟨(T.long x).toNat,by omega⟩
    obtain⟨N0,hN0⟩:∃ N0,firstN T l=N0:=⟨_,rfl⟩
    have hN1:N0=min M l.length:=by rw[← hN0];unfold firstN;rw[HX0.out,hM];rfl
    obtain⟨N,hN⟩:∃ N,tryN T l N0=N:=⟨_,rfl⟩
    have hNl:=tryN_le T l N0
    rw[hN] at hNl
    have HN:=zh hN
    have HN0:=zh hN0
    have HN1:=zh hN1
    have hN0l:N0≤l.length:=by omega
    rw[hM] at hlo ⊢
    clear hN hN0 hN1 hM
    by_cases hmn:(l.length:Int)<(M:Int)
    all_goals go_wp2_with fail
    all_goals
     go_loopw [7,8,9] (fun v7 v8 vn w2=>∃ n:Nat,v7=.slice a7 us.length cap7∧v8=.slice (some ⟨g,off,none⟩) l.length cap8∧vn=.int .i64 (n:Int)∧n≤N0∧Below wr.heap.size wr w2∧RowKit.Hid (tryN T l n=N)) (fun _ _ vn _=>(intOf vn).toNat)
     case atStart=>exact⟨N0,rfl,rfl,by have:=HN1.out;congr 1;omega,Nat.le_refl _,zr,HN⟩
     case round =>
      rename World=>w2
      obtain⟨n,rfl,rfl,rfl,hn,hb2,HNn⟩:=hrel
      have HB2:=zh hb2
      have hsz2:=hb2.size
      have HT2:=zh (show TabAt w2 0 w2.heap.size (.pointer (some pt)) T from(HT.out.later (HB.out.trans (hb2.mono hsz)) lr).wide lr (Nat.le_trans hsz hsz2))
      have HLI2:=zh (show IntsP w2 (fun k=>Value.ownBlock (.slice a7 us.length cap7)=some k) (.slice (some ⟨g,off,none⟩) l.length cap8) l from HLI.out.below hb2 fun _ _ e=>e)
      clear hb2
      cases n with
      | zero =>
       have hc2:w2.cell? ⟨g,off,none⟩=some (.int .i64 x):=(HB2.out.cell (p:=⟨g,off,none⟩) hgl).trans hc0
       have hO2:=row_below HO.out HB2.out
       have HLIT:RowIn 1 ((w2.alloc (.cells #[.int .i64 x] 3)).alloc (.cells #[.slice (some ⟨w2.heap.size,0,none⟩) 1 1] 42)) (w2.heap.size+1) (w2.heap.size+1+1) (.slice (some ⟨w2.heap.size+1,0,none⟩) 1 1) 1 [.slice (some ⟨w2.heap.size,0,none⟩) 1 1]:=by
        simpa only [World.size_alloc] using RowIn.lit (w2.alloc (.cells #[.int .i64 x] 3)) 42 #[.slice (some ⟨w2.heap.size,0,none⟩) 1 1] 1 1 rfl
       have hN00:N=0:=HNn.out.symm
       by_cases hc1:cap8=1
       · have hl1:l.length=1:=by omega
         subst hc1
         go_wp2_with (at_builtin;refine wpList_append_at rfl (.tmp 66) (.tmp 71) 298 rfl 42 (.slice none 0 0) 1 24 underlying298 infoNN rfl (by decide) rfl ((hO2.alloc _).alloc _) rfl HLIT (fun u hu=>by rw[List.mem_singleton.1 hu];rfl) (by omega) (by decide) (by simp;omega) ?_;intro c9 cap9 w9 hO9 hg9 hat9)
         have hW2:Below wr.heap.size wr ((w2.alloc (.cells #[.int .i64 x] 3)).alloc (.cells #[.slice (some ⟨w2.heap.size,0,none⟩) 1 1] 42)):=(HB2.out.alloc hsz2 _).alloc (by simp;omega) _
         have hlt7:=fun k=>(World.ownsRow.lt HO.out k)
         have hux:IntsP ((w2.alloc (.cells #[.int .i64 x] 3)).alloc (.cells #[.slice (some ⟨w2.heap.size,0,none⟩) 1 1] 42)) (fun k=>Value.ownBlock (.slice a7 us.length cap7)=some k) (.slice (some ⟨w2.heap.size,0,none⟩) 1 1) [x] :=
          IntsP.of (((OwnN.one w2 w2.heap.size x lr).reads).alloc _ lr) (by simp) (fun k h1 _ e=>by have:=(hlt7 k e).2;omega)
         have hRs9:=rows_push HRs.out hW2 hux hg9 hat9
         have hB9:=(HB.out.trans (hW2.mono hsz)).grown hg9 (by simp;omega) (fun k e=>(hlt7 k e).1)
         have HZ9:=zh (show (done++[[x]])++stepsM (classM D) T f (l.drop 1)=Z by rw[← HZr.out,stepsM_one (by omega) (by rw[HN0.out,HN.out,hN00]),HX0.out,List.append_assoc];rfl)
         clear hux hW2 hlt7
         have hd1:l.drop 1=[]:=List.drop_eq_nil_of_le (by omega)
         have hl9:IntsP w9 (fun k=>Value.ownBlock (.slice c9 (us.length+1) cap9)=some k) (.slice (some ⟨g,off,none⟩) 0 0) (l.drop 1):=by rw[hd1];exact IntsP.none
         go_roundg f
         case rel=>exact⟨l.drop 1,us++[.slice (some ⟨w2.heap.size,0,none⟩) 1 1],done++[[x]],by simpa using hO9,hRs9,hl9,hB9,by rw[List.length_drop];omega,by rw[List.length_drop];omega,by simp;omega,zh (HLf.out.dp _),HZ9⟩
         case measure=>omega
       · have hc1':1<cap8:=by omega
         go_wp2_with (at_builtin;refine wpList_append_at rfl (.tmp 66) (.tmp 71) 298 rfl 42 (.slice none 0 0) 1 24 underlying298 infoNN rfl (by decide) rfl ((hO2.alloc _).alloc _) rfl HLIT (fun u hu=>by rw[List.mem_singleton.1 hu];rfl) (by omega) (by decide) (by simp;omega) ?_;intro c9 cap9 w9 hO9 hg9 hat9)
         have hW2:Below wr.heap.size wr ((w2.alloc (.cells #[.int .i64 x] 3)).alloc (.cells #[.slice (some ⟨w2.heap.size,0,none⟩) 1 1] 42)):=(HB2.out.alloc hsz2 _).alloc (by simp;omega) _
         have hlt7:=fun k=>(World.ownsRow.lt HO.out k)
         have hux:IntsP ((w2.alloc (.cells #[.int .i64 x] 3)).alloc (.cells #[.slice (some ⟨w2.heap.size,0,none⟩) 1 1] 42)) (fun k=>Value.ownBlock (.slice a7 us.length cap7)=some k) (.slice (some ⟨w2.heap.size,0,none⟩) 1 1) [x] :=
          IntsP.of (((OwnN.one w2 w2.heap.size x lr).reads).alloc _ lr) (by simp) (fun k h1 _ e=>by have:=(hlt7 k e).2;omega)
         have hRs9:=rows_push HRs.out hW2 hux hg9 hat9
         have hB9:=(HB.out.trans (hW2.mono hsz)).grown hg9 (by simp;omega) (fun k e=>(hlt7 k e).1)
         have HZ9:=zh (show (done++[[x]])++stepsM (classM D) T f (l.drop 1)=Z by rw[← HZr.out,stepsM_one (by omega) (by rw[HN0.out,HN.out,hN00]),HX0.out,List.append_assoc];rfl)
         clear hux hW2 hlt7
         have hl9:=ints_push ((HLI2.out.drop 1 (by omega)).below (bad':=fun k=>Value.ownBlock (.slice a7 us.length cap7)=some k) ((zr.alloc lr _).alloc (by simp) _) (fun _ _ e=>e)) hg9 hat9
         go_roundg f
         case rel=>exact⟨l.drop 1,us++[.slice (some ⟨w2.heap.size,0,none⟩) 1 1],done++[[x]],by simpa using hO9,hRs9,hl9,hB9,by rw[List.length_drop];omega,by rw[List.length_drop];omega,by simp;omega,zh (HLf.out.dp _),HZ9⟩
         case measure=>omega
      | succ n =>
       have q2:decide ((0:Int)<(n:Int)+1)=true:=decide_eq_true (by omega)
       have jn:(n:Int)+1≤(cap8:Int):=by omega
       have HTK:=zh (HLI2.out.take (n+1) (by omega))
       have HFT:=zh (show Fine (l.take (n+1)) from HLf.out.tk _)
       go_wp2_with fail
       refine(Find_any (.pointer (some pt)) _ T (l.take (n+1)) w2 HT2.out HTK.out.reads HFT.out H0.out).mono ?_
       rintro e w3 ⟨u',rfl,_,hb3⟩
       have HB3:=zh (HB2.out.trans (hb3.mono hsz2))
       have hsz3:=Nat.le_trans hsz2 hb3.size
       have HLI3:=zh (HLI2.out.below hb3 (bad':=fun k=>Value.ownBlock (.slice a7 us.length cap7)=some k) fun _ _ e=>e)
       clear hb3
       cases hfm:(findM T (l.take (n+1))).isSome with
       | false =>
        rw[tryN_no hfm] at HNn
        clear hfm
        go_wp2_with fail
        exact⟨⟨n,rfl,rfl,by simp,by omega,HB3.out,HNn⟩,by simp[intOf]⟩
       | true =>
        have hNe:n+1=N:=by rw[← HNn.out,tryN_yes hfm]
        have hN1:1≤N:=by omega
        have hN2:N≤l.length:=by omega
        rw[hNe] at HTK HFT ⊢
        have HDP3:=zh (HLI3.out)
        have HCK:=zh (show IntsIn w3 0 w3.heap.size (.slice (some ⟨g,off,none⟩) N cap8) (l.take N) from(HLI3.out.take N hN2).reads)
        have HCL:=zh (show (l.take N).length≤1099511627776 by rw[List.length_take];omega)
        have HL7:=zh (fun k=>(World.ownsRow.lt HO.out k))
        obtain⟨row,left,hrl⟩:∃ row left,furM (classM D) T (l.drop N) (l.take N) [] 0=(row,left):=⟨_,_,rfl⟩
        have hfk:=furM_ok (c:=classM D) (T:=T) (l.drop N) (l.take N) [] 0 (HLf.out.dp _) (HLf.out.tk _) (fun x hx=>by cases hx)
        rw[hrl] at hfk
        have HFK:=zh hfk
        have HRL:=zh hrl
        have HZ9:=zh (show (done++[row])++stepsM (classM D) T f left=Z by rw[← HZr.out,stepsM_row (by omega) (by rw[HN0.out,HN.out]) (by omega) hrl,List.append_assoc];rfl)
        clear hfm hNe hrl hfk
        have HLD:=zh (show (l.take N).length≤4194304∧(l.drop N).length≤4194304 by rw[List.length_take,List.length_drop];omega)
        have jN1:(N:Int)≤(l.length:Int):=by omega
        have jN2:(N:Int)≤(cap8:Int):=by omega
        by_cases hcn:cap8=N
        · have hl1:l.length=N:=by omega
          subst hcn
          have HRS:=zh (show IntsP w3 (fun k=>Value.ownBlock (.slice a7 us.length cap7)=some k) (.slice (some ⟨g,off,none⟩) 0 0) (l.drop cap8) by rw[List.drop_eq_nil_of_le (by omega)];exact IntsP.none)
          go_wp2_with fail
          go_region_held3 (fun _=>True) (trivial) (first
           | (go_at_call 90
              refine(cloneN_any (.slice (some ⟨g,off,none⟩) cap8 cap8) (l.take cap8) w3.drew 0 w3.heap.size HCK.out lr HCL.out).mono ?_
              rintro e w5 ⟨u,rfl,hu,hb5⟩
              have HB5:=zh (show Below w3.heap.size w3 w5 from⟨hb5.os,hb5.tape,hb5.output,hb5.size,hb5.block⟩)
              have HU:=zh (show IntsP w5 (fun k=>Value.ownBlock (.slice a7 us.length cap7)=some k) u (l.take cap8) from hu.place fun k _ hk _ e=>by have h1:=(HL7.out k e).2;have h2:w3.heap.size≤k:=hk;omega)
              have HR5:=zh (HRS.out.below HB5.out (bad':=(fun k=>Value.ownBlock (.slice a7 us.length cap7)=some k)) fun _ _ e=>e)
              have HW5:=zh (HB3.out.trans (HB5.out.mono hsz3))
              clear hu hb5)
           | (go_at_call 239
              refine(further_any HW.out T H0.out (.pointer (some pd)) (.pointer (some pt)) u (.slice (some ⟨g,off,none⟩) 0 0) (fun k=>Value.ownBlock (.slice a7 us.length cap7)=some k) (l.take cap8) (l.drop cap8) _ ((HD.out.later (HB.out.trans (HW5.out.mono hsz)) lr).wide lr (Nat.le_trans hsz HW5.out.size)) ((HT.out.later (HB.out.trans (HW5.out.mono hsz)) lr).wide lr (Nat.le_trans hsz HW5.out.size)) HU.out HR5.out (fun k e=>Nat.lt_of_lt_of_le (HL7.out k e).2 HW5.out.size) HFT.out (HLf.out.dp _) HLD.out.1 HLD.out.2).mono ?_
              rintro e w6 ⟨u1,u2,rfl,h1,h2,hb6⟩
              rw[HRL.out] at h1 h2
              have HW6:=zh (show Below wr.heap.size wr w6 from HW5.out.trans ((show Below w5.heap.size w5 w6 from⟨hb6.os,hb6.tape,hb6.output,hb6.size,hb6.block⟩).mono HW5.out.size))
              have H61:=zh h1
              have H62:=zh h2
              clear h1 h2 hb6))
          all_goals
           have hsz6:=HW6.out.size
           have hO6:=row_below HO.out HW6.out
           obtain⟨c1,cp1,e1,_⟩:=H61.out.form
           subst e1
           have HLIT:RowIn 1 (w6.alloc (.cells #[.slice c1 row.length cp1] 42)) w6.heap.size (w6.heap.size+1) (.slice (some ⟨w6.heap.size,0,none⟩) 1 1) 1 [.slice c1 row.length cp1]:=RowIn.lit w6 42 #[.slice c1 row.length cp1] 1 1 rfl
           go_wp2_with (at_builtin;refine wpList_append_at rfl (.tmp 61) (.tmp 63) 298 rfl 42 (.slice none 0 0) 1 24 underlying298 infoNN rfl (by decide) rfl (hO6.alloc _) rfl HLIT (fun u hu=>by rw[List.mem_singleton.1 hu];rfl) (by omega) (by decide) (by simp;omega) ?_;intro c9 cap9 w9 hO9 hg9 hat9)
           have hW2:Below wr.heap.size wr (w6.alloc (.cells #[.slice c1 row.length cp1] 42)):=HW6.out.alloc hsz6 _
           have hRs9:=rows_push HRs.out hW2 (H61.out.below (bad':=(fun k=>Value.ownBlock (.slice a7 us.length cap7)=some k)) (zr.alloc lr _) fun _ _ e=>e) hg9 hat9
           have hl9:=ints_push (H62.out.below (bad':=(fun k=>Value.ownBlock (.slice a7 us.length cap7)=some k)) (zr.alloc lr _) fun _ _ e=>e) hg9 hat9
           have hB9:=(HB.out.trans (hW2.mono hsz)).grown hg9 (by simp;omega) (fun k e=>(HL7.out k e).1)
           have hll9:=HFK.out.2.2.1
           rw[List.length_drop,List.length_nil] at hll9
           clear hW2 HLIT
           go_roundg f
           case rel=>exact⟨left,us++[.slice c1 row.length cp1],done++[row],by simpa using hO9,hRs9,hl9,hB9,by omega,by omega,by simp;omega,zh HFK.out.2.1,HZ9⟩
           case measure=>omega
        · have hcn':N<cap8:=by omega
          have HRS:=zh (HLI3.out.drop N hN2)
          go_wp2_with fail
          go_region_held3 (fun _=>True) (trivial) (first
           | (go_at_call 90
              refine(cloneN_any (.slice (some ⟨g,off,none⟩) N cap8) (l.take N) w3.drew 0 w3.heap.size HCK.out lr HCL.out).mono ?_
              rintro e w5 ⟨u,rfl,hu,hb5⟩
              have HB5:=zh (show Below w3.heap.size w3 w5 from⟨hb5.os,hb5.tape,hb5.output,hb5.size,hb5.block⟩)
              have HU:=zh (show IntsP w5 (fun k=>Value.ownBlock (.slice a7 us.length cap7)=some k) u (l.take N) from hu.place fun k _ hk _ e=>by have h1:=(HL7.out k e).2;have h2:w3.heap.size≤k:=hk;omega)
              have HR5:=zh (HRS.out.below HB5.out (bad':=(fun k=>Value.ownBlock (.slice a7 us.length cap7)=some k)) fun _ _ e=>e)
              have HW5:=zh (HB3.out.trans (HB5.out.mono hsz3))
              clear hu hb5)
           | (go_at_call 239
              refine(further_any HW.out T H0.out (.pointer (some pd)) (.pointer (some pt)) u (.slice (some ⟨g,off+N,none⟩) (l.length-N) (cap8-N)) (fun k=>Value.ownBlock (.slice a7 us.length cap7)=some k) (l.take N) (l.drop N) _ ((HD.out.later (HB.out.trans (HW5.out.mono hsz)) lr).wide lr (Nat.le_trans hsz HW5.out.size)) ((HT.out.later (HB.out.trans (HW5.out.mono hsz)) lr).wide lr (Nat.le_trans hsz HW5.out.size)) HU.out HR5.out (fun k e=>Nat.lt_of_lt_of_le (HL7.out k e).2 HW5.out.size) HFT.out (HLf.out.dp _) HLD.out.1 HLD.out.2).mono ?_
              rintro e w6 ⟨u1,u2,rfl,h1,h2,hb6⟩
              rw[HRL.out] at h1 h2
              have HW6:=zh (show Below wr.heap.size wr w6 from HW5.out.trans ((show Below w5.heap.size w5 w6 from⟨hb6.os,hb6.tape,hb6.output,hb6.size,hb6.block⟩).mono HW5.out.size))
              have H61:=zh h1
              have H62:=zh h2
              clear h1 h2 hb6))
          all_goals
           have hsz6:=HW6.out.size
           have hO6:=row_below HO.out HW6.out
           obtain⟨c1,cp1,e1,_⟩:=H61.out.form
           subst e1
           have HLIT:RowIn 1 (w6.alloc (.cells #[.slice c1 row.length cp1] 42)) w6.heap.size (w6.heap.size+1) (.slice (some ⟨w6.heap.size,0,none⟩) 1 1) 1 [.slice c1 row.length cp1]:=RowIn.lit w6 42 #[.slice c1 row.length cp1] 1 1 rfl
           go_wp2_with (at_builtin;refine wpList_append_at rfl (.tmp 61) (.tmp 63) 298 rfl 42 (.slice none 0 0) 1 24 underlying298 infoNN rfl (by decide) rfl (hO6.alloc _) rfl HLIT (fun u hu=>by rw[List.mem_singleton.1 hu];rfl) (by omega) (by decide) (by simp;omega) ?_;intro c9 cap9 w9 hO9 hg9 hat9)
           have hW2:Below wr.heap.size wr (w6.alloc (.cells #[.slice c1 row.length cp1] 42)):=HW6.out.alloc hsz6 _
           have hRs9:=rows_push HRs.out hW2 (H61.out.below (bad':=(fun k=>Value.ownBlock (.slice a7 us.length cap7)=some k)) (zr.alloc lr _) fun _ _ e=>e) hg9 hat9
           have hl9:=ints_push (H62.out.below (bad':=(fun k=>Value.ownBlock (.slice a7 us.length cap7)=some k)) (zr.alloc lr _) fun _ _ e=>e) hg9 hat9
           have hB9:=(HB.out.trans (hW2.mono hsz)).grown hg9 (by simp;omega) (fun k e=>(HL7.out k e).1)
           have hll9:=HFK.out.2.2.1
           rw[List.length_drop,List.length_nil] at hll9
           clear hW2 HLIT
           go_roundg f
           case rel=>exact⟨left,us++[.slice c1 row.length cp1],done++[row],by simpa using hO9,hRs9,hl9,hB9,by omega,by omega,by simp;omega,zh HFK.out.2.1,HZ9⟩
           case measure=>omega
  · have hl0:l.length=0:=by omega
    rw[stepsM_nil hl0,List.append_nil] at HZr
    have hd:done=Z:=HZr.out
    subst hd
    obtain⟨a8,cap8,rfl,_⟩:=hl.form
    have q1:decide ((0:Int)<(l.length:Int))=false:=decide_eq_false (by omega)
    have hr9:=hRs.keep lr (fun _ _ _=>rfl) (bad':=fun _=>False) (fun _ _ e=>e.elim)
    clear hRs hl HRs HLI HO HB HZr hpos
    go_wp2_with fail
    refine bodyPost_ret (v:=.slice a7 us.length cap7) (by simp[results,Tryz.f221]) rfl ?_
    exact⟨_,us,rfl,hO,hr9,hB⟩
