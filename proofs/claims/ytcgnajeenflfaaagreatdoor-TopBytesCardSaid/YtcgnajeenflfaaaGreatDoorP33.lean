import Derived.Test.YtcgnajeenflfaaaGreatDoorP32
set_option maxRecDepth 100000
set_option maxHeartbeats 4000000
set_option linter.all false
open Go.Proofs.Tryz Go.RowKit
namespace Go.Proofs.YtcgnajeenflfaaaGreatDoor
namespace Sc
open V (Same Pt VI mayB mayB_ok)
open We (Co TblAt WfT keyM)
open D (Dm Wf)
open Ta (Tm)
theorem rdKey_zero (l:List UInt8):rdKey l 0=some ([],l):=by cases l with
 | nil=>rw[rdKey]
 | cons a r=>cases r<;>rw[rdKey]
theorem rdKey_short {l:List UInt8} (n:Nat) (h:l.length<2):rdKey l (n+1)=none:=by
 match l,h with
 | [],_=>rw[rdKey];intros;contradiction
 | [a],_=>rw[rdKey];intros;simp_all
theorem rdKey_two (x y:UInt8) (r:List UInt8) (n:Nat):rdKey (x::y::r) (n+1)=if x=0∧y=0 then (rdKey r n).map fun z=>(x::y::z.1,z.2) else (rdKey r (n+1)).map fun z=>(x::y::z.1,z.2):=by rw[rdKey]
theorem GotPost.no {rb:Nat} {tv:Value} {b:ByteArray} {tn:Bool} {pv:Value} {R:Option (List UInt8×List UInt8)} {w w':World} {e:Ending} (h:R=none) (h2:Fails b.size w e w') (h3:Xv (· = rb) w w'):GotPost rb tv b tn pv R w e w':=by
 unfold GotPost;rw[h];exact⟨h2,h3⟩
theorem GotPost.yes {rb:Nat} {tv:Value} {b:ByteArray} {tn:Bool} {pv:Value} {R:Option (List UInt8×List UInt8)} {s:List UInt8} {S:ByteArray} {a:Nat} {w w':World} (h:R=some (s,leftL b a tn)) (hs:S=⟨s.toArray⟩) (ha:a≤b.size) (h2:Rdr w' rb tv b a tn pv) (h3:Xv (· = rb) w w'):GotPost rb tv b tn pv R w (.returned (.string S)) w':=by
 unfold GotPost;rw[h,hs];exact⟨⟨rfl,a,ha,rfl,h2⟩,h3⟩
theorem bl_undrew {w w':World} (h:Below w.drew.heap.size w.drew w'):Below w.heap.size w w':=⟨h.os,h.tape,h.output,h.size,h.block⟩
def textR (K:Co→ByteArray→List UInt8) (f:Fd) (L:List UInt8):Option (List UInt8×List UInt8):=(rdText K f L).map fun x=>(x.1.raw.toList,x.2)
theorem textR_mode (K:Co→ByteArray→List UInt8) (f:Fd) {c:UInt8} (r:List UInt8) (h:c≠modeB f.co):textR K f (c::r)=none:=by
 simp[textR,rdText,h]
theorem textR_key (K:Co→ByteArray→List UInt8) (f:Fd) {c:UInt8} (r:List UInt8) (h:c=modeB f.co) (h2:rdKey r f.co.str.toNat=none):textR K f (c::r)=none:=by
 simp[textR,rdText,h,h2]
theorem textR_esc (K:Co→ByteArray→List UInt8) (f:Fd) {c:UInt8} (r:List UInt8) {k r1:List UInt8} (h:c=modeB f.co) (h2:rdKey r f.co.str.toNat=some (k,r1)) (h3:rdEsc r1=none):textR K f (c::r)=none:=by
 simp[textR,rdText,h,h2,h3]
theorem textR_all (K:Co→ByteArray→List UInt8) (f:Fd) {c:UInt8} (r:List UInt8) {k r1 s r2:List UInt8} (h:c=modeB f.co) (h2:rdKey r f.co.str.toNat=some (k,r1)) (h3:rdEsc r1=some (s,r2)) :
 textR K f (c::r)=if s.length≤65536∧U.checkS ⟨s.toArray⟩<0∧K f.co ⟨s.toArray⟩=k then some (s,r2) else none:=by
 by_cases h4:s.length≤65536∧U.checkS ⟨s.toArray⟩<0∧K f.co ⟨s.toArray⟩=k
 · rw[if_pos h4]
   simp only [textR,rdText,h,h2,h3,ne_eq,not_true_eq_false,if_false,if_pos h4,Option.map_some]
   rw[show (Pt.mk 6 false false ByteArray.empty ⟨s.toArray⟩ []).raw.toList=s from toList_mk s]
 · rw[if_neg h4]
   simp only [textR,rdText,h,h2,h3,ne_eq,not_true_eq_false,if_false,if_neg h4,Option.map_none]
theorem text_any {D:Dm} (wf:Wf D) {T:Tm} (wt:WfT T) (t:Addr) (hi:Nat) (f:Fd) (a0:Option Addr) (k c0:Nat) (rb:Nat) (b:ByteArray) (at_:Nat) (tn:Bool) (pv:Value) (lp:List Int) (w:World) (hco:f.co.ok) (hb:b.size≤4194304) (hat:at_≤b.size) (hr:Rdr w rb (.pointer (some t)) b at_ tn pv) (hp:IntsP w (· = rb) pv lp) (hlp:lp.length≤17)
 (hhi:hi≤rb) (ht:TblAt w 0 hi (.pointer (some t)) D T) :
 Calls prog 97 #[.pointer (some ⟨rb,0,none⟩),.agg (fcells f (.slice a0 k c0)).toArray] w (GotPost rb (.pointer (some t)) b tn pv (textR (keyM D T) f (leftL b at_ tn)) w):=by
 obtain⟨L,hL⟩:∃ L,leftL b at_ tn=L:=⟨_,rfl⟩
 obtain⟨KM,hKM⟩:∃ KM,keyM D T=KM:=⟨_,rfl⟩
 rw[hL,hKM]
 have hrl:=hr.lt
 have HT:=zh ht
 have HM:=zh (fun w=>mode_any f.co hco w)
 have HCO:=zh hco
 rw[fcells_14]
 obtain⟨⟨st,sh,bk⟩,hce⟩:∃ co,f.co=co:=⟨_,rfl⟩
 obtain⟨n,rfl⟩:∃ n:Nat,st=(n:Int):=⟨st.toNat,by have:=hco.1;rw[hce] at this;simp only at this;omega⟩
 rw[hce] at HM HCO ⊢
 unfold Co.val at HM
 simp only at HM ⊢
 have HCE:=zh hce
 have hn4:n≤4:=by have:=HCO.out.2.1;simp only at this;omega
 obtain⟨mb,hmb⟩:∃ mb,modeB ⟨(n:Int),sh,bk⟩=mb:=⟨_,rfl⟩
 rw[hmb] at HM
 have HMB:=zh hmb
 have c2:w.cell? ⟨rb,2,none⟩=some (.int .i64 (at_:Int)):=hr.cell 2
 go_enter func97,ntmps97
 go_wp2_with fail
 generalize hW:w.alloc (.cells _ 79)=w1
 have hB1:Below w.heap.size w w1:=by rw[← hW];exact zr.alloc lr _
 have hFB:Blk w1 w.heap.size 79 #[.string f.name,.int .u8 f.kind,.bool f.down,.int .u8 f.nulls,.bool f.bnd,.bool f.lob,.string f.lom,.bool f.hib,.string f.him,.int .i64 f.most,.int .i64 (n:Int),.bool sh,.bool bk,.slice a0 k c0]:=by rw[← hW];exact Blk.new _ _ _
 have HR1:=zh (show Rdr w1 rb (.pointer (some t)) b at_ tn pv from Blk.below hr hB1 hrl)
 have HP1:=zh (hp.keep hB1.size (fun k hk _=>hB1.block k hk) (fun _ _ e=>e))
 have HX1:=zh (Xv.of_below (P:=(· = rb)) hB1)
 have HFB1:=zh hFB
 have hfl:=hFB.lt
 have hne:w.heap.size≠rb:=by omega
 have f10:=hFB.cell 10
 have f11:=hFB.cell 11
 have f12:=hFB.cell 12
 clear hW hB1 hFB hr hp c2 ht hco hce hmb
 by_cases hlt:at_<b.size
 · have HT1:=zh (take1_list rb (.pointer (some t)) b at_ tn pv w1.drew hb HR1.out hlt)
   obtain⟨c,hc⟩:∃ c,fl tn b[at_]=c:=⟨_,rfl⟩
   rw[hc] at HT1
   have HLC:=zh (show L=c::leftL b (at_+1) tn by rw[← hL,leftL_cons tn hlt,hc])
   have hbd:Xv (· = rb) w1 w1.drew:=(Xv.refl _ _).drew
   clear hc hL
   refine wp_region_held_drew (S:=fun w'=>w'.cell? ⟨w.heap.size,10,none⟩=some (.int .i64 (n:Int))∧w'.cell? ⟨w.heap.size,11,none⟩=some (.bool sh)∧w'.cell? ⟨w.heap.size,12,none⟩=some (.bool bk)∧Xv (· = rb) w1 w') (by kernel_rfl) ⟨f10,f11,f12,hbd⟩ (fun hHeld=>?_)
   refine tx 0 ?v0 rfl (by kernel_rfl) tq (by rfl) ?hy0 (by assumption) ?rest0
   case hy0=>(rintro wS ⟨k10,k11,k12,kb⟩;go_simp;try with_reducible rfl)
   try simp[Act.put]
   refine tx 3 ?v3 rfl (by kernel_rfl) tq (by rfl) ?hy3 (by assumption) ?rest3
   case hy3=>(rintro wS ⟨k10,k11,k12,kb⟩;go_simp;try with_reducible rfl)
   try simp[Act.put]
   refine tx 4 ?v4 rfl (by kernel_rfl) tq (by rfl) ?hy4 (by assumption) ?rest4
   case hy4=>(rintro wS ⟨k10,k11,k12,kb⟩;go_simp;try with_reducible rfl)
   try simp[Act.put]
   refine wpAnyH_ready (rs:=[1]) (by kernel_rfl) (by simp) ?_
   refine AllReadyH.cons rfl (fun K hK=>?_) AllReadyH.nil
   go_simp
   obtain⟨k10,k11,k12,kb⟩:=hHeld
   refine HT1.out.mono ?_
   rintro e w9 ⟨p,rfl,⟨hp1,hpc⟩,hpl,hr9,hx9⟩
   have HR9:=zh hr9
   replace k10:=hx9.cell (p:=⟨w.heap.size,10,none⟩) hne k10
   replace k11:=hx9.cell (p:=⟨w.heap.size,11,none⟩) hne k11
   replace k12:=hx9.cell (p:=⟨w.heap.size,12,none⟩) hne k12
   replace kb:=hx9.undrew
   clear hr9 hx9
   go_wp2_with fail
   refine hK.out _ _ ⟨k10,k11,k12,kb⟩ (fun hHeld=>?_)
   try simp[Act.put]
   refine tx 2 ?v2 rfl (by kernel_rfl) tq (by rfl) ?hy2 (by assumption) ?rest2
   case hy2=>(rintro wS ⟨k10,k11,k12,kb⟩;go_simp;try with_reducible rfl)
   try simp[Act.put]
   refine wpAnyH_ready (rs:=[5]) (by kernel_rfl) (by simp) ?_
   refine AllReadyH.cons rfl (fun K hK=>?_) AllReadyH.nil
   go_simp
   obtain⟨k10,k11,k12,kb⟩:=hHeld
   refine(HM.out _).mono ?_
   rintro e w8 ⟨rfl,hb8⟩
   replace k10:=V.keeps hb8 k10
   replace k11:=V.keeps hb8 k11
   replace k12:=V.keeps hb8 k12
   replace kb:=kb.then hb8
   have HB8:=zh hb8
   clear hb8
   go_wp2_with fail
   refine hK.out _ _ ⟨k10,k11,k12,kb⟩ (fun hHeld=>?_)
   try simp[Act.put]
   refine tx 6 ?v6 rfl (by kernel_rfl) tq (by rfl) ?hy6 (by assumption) ?rest6
   case hy6=>(rintro wS ⟨k10,k11,k12,kb⟩;go_simp;try with_reducible rfl)
   try simp[Act.put]
   refine wpAnyH_done (by kernel_rfl) ?_ _
   obtain⟨k10,k11,k12,kb2⟩:=hHeld
   have HR8:=zh (show Rdr w8 rb (.pointer (some t)) b (at_+1) tn pv from Blk.below HR9.out HB8.out HR9.out.lt)
   have HP8:=zh (HP1.out.keep kb2.size (fun k hk hp=>kb2.block k hk hp) (fun _ _ e=>e))
   have HX8:=zh (HX1.out.trans kb2 (fun _ _ e=>e))
   have HF8:=zh (kb2.blk hne HFB1.out)
   have hrl8:rb<w8.heap.size:=Nat.lt_of_lt_of_le hrl HX8.out.size
   have hfl8:w.heap.size<w8.heap.size:=HF8.out.lt
   clear k10 k11 k12 kb2 hbd HR9 HB8 hp1 hpc hpl HFB1 HR1 HT1
   by_cases hcm:c=mb
   case neg =>
    have q1:((c.toNat:Int) != (mb.toNat:Int))=true:=by
     have:c.toNat≠mb.toNat:=fun e=>hcm (UInt8.toNat_inj.1 e)
     simp;omega
    have HNO:=zh (show textR KM f L=none by rw[HLC.out];exact textR_mode KM f _ (by rw[HCE.out,HMB.out];exact hcm))
    have HF:=zh (fail_any rb (.pointer (some t)) b (at_+1) tn pv lp 143 at_ .nilIface w8 HR8.out HP8.out hlp (.inl rfl))
    clear hcm
    go_wp2_with fail
    refine HF.out.mono ?_
    rintro e w3 ⟨hf,hb3⟩
    obtain⟨ch,rfl⟩:=hf.form
    go_wp2_with fail
    exact⟨rfl,.no HNO.out ((hf.low HX8.out.size).to hat) (HX8.out.then hb3)⟩
   subst hcm
   have HCM:=zh (show c=modeB f.co by rw[HCE.out,HMB.out])
   rw[show ((c.toNat:Int) != (c.toNat:Int))=false by simp]
   have d2:w8.cell? ⟨rb,2,none⟩=some (.int .i64 ((at_+1:Nat):Int)):=HR8.out.cell 2
   go_wp2_with fail
   obtain⟨R,hR⟩:∃ R,rdKey (leftL b (at_+1) tn) n=R:=⟨_,rfl⟩
   have HKR:=zh hR
   clear hR d2
   go_loopw [6,7,8] (fun v v7 _ wr=>∃ (a i:Nat) (acc:List UInt8),i≤n∧a≤b.size∧acc.length≤a∧v7=.int .i64 (i:Int)∧OwnB wr w8.heap.size v acc∧Rdr wr rb (.pointer (some t)) b a tn pv∧Xv (· = rb) w8 wr∧Hid (R=(rdKey (leftL b a tn) (n-i)).map fun x=>(acc++x.1,x.2))) (fun _ _ _ wr=>b.size-(intOf ((wr.cell? ⟨rb,2,none⟩).getD .nilIface)).toNat)
   case atStart=>exact⟨at_+1,0,[],Nat.zero_le _,by omega,Nat.zero_le _,rfl,OwnB.nil _ _,HR8.out,Xv.refl _ _,zh (by rw[Nat.sub_zero,HKR.out];cases R<;>simp)⟩
   case round =>
    obtain⟨a,i,acc,hi2,ha,hal,rfl,hO,hR,hX,hrel⟩:=hrel
    have f10:=(hX.blk hne HF8.out).cell 10
    have hp:=HP8.out.keep hX.size (fun k hk hp=>hX.block k hk hp) (fun _ _ e=>e)
    have c2:wr.cell? ⟨rb,2,none⟩=some (.int .i64 (a:Int)):=hR.cell 2
    by_cases hlt2:i<n
    · have q2:decide ((i:Int)<(n:Int))=true:=decide_eq_true (by omega)
      have HTK:=zh (rtake_any rb (.pointer (some t)) b a 2 tn pv lp wr hb ha (by omega) hR hp hlp)
      by_cases hle:a+2≤b.size
      · have HO:=zh hO
        have HXX:=zh hX
        have HREL:=zh hrel.out
        have hcons:leftL b a tn=fl tn b[a]::fl tn b[a+1]::leftL b (a+2) tn:=by rw[leftL_cons tn (by omega),leftL_cons tn (by omega)]
        obtain⟨x,hx⟩:∃ x,fl tn b[a]=x:=⟨_,rfl⟩
        obtain⟨y,hy⟩:∃ y,fl tn b[a+1]=y:=⟨_,rfl⟩
        rw[hx,hy] at hcons
        rw[hcons,show n-i=(n-(i+1))+1 by omega,rdKey_two] at HREL
        have HCN:=zh hcons
        clear hO hX hrel hR hp hx hy hcons
        go_wp2_with fail
        refine HTK.out.mono ?_
        intro e w2 h2
        unfold TakePost at h2
        rw[if_pos hle,HCN.out] at h2
        obtain⟨rfl,hr2,hx2⟩:=h2
        obtain⟨p2,hp2⟩:∃ p2:ByteArray,⟨((x::y::leftL b (a+2) tn).take 2).toArray⟩=p2:=⟨_,rfl⟩
        rw[hp2]
        have HPL:=zh (show p2.toList=[x,y] by rw[← hp2,toList_mk];rfl)
        have HX2:=zh (HXX.out.trans hx2 (fun _ _ e=>e))
        have HO2:=zh (OwnB_xv HO.out hrl8 hx2)
        have HR2:=zh hr2
        have hpz:p2.size=2:=by rw[← V.size_of,HPL.out];rfl
        clear hp2 hr2 hx2
        have hal2:acc.length+2≤a+2:=by omega
        by_cases hxy:x=0∧y=0
        · rw[if_pos hxy] at HREL
          have qe:(p2.toList==[0,0])=true:=by rw[HPL.out,hxy.1,hxy.2];rfl
          clear hxy
          go_wp2_with (at_builtin;refine wpList_append_str rfl (.tmp 38) (.tmp 39) 99 9 rfl underlying99 underlying9 We.keyInfo5 rfl HO2.out p2 rfl (by omega) zr HX2.out.size ?_;intro v5 w5 hO5 hB5 hs5)
          have hR5:Rdr w5 rb (.pointer (some t)) b (a+2) tn pv:=Blk.below HR2.out hB5 hrl8
          have c5:w5.cell? ⟨rb,2,none⟩=some (.int .i64 ((a+2:Nat):Int)):=hR5.cell 2
          rw[HPL.out] at hO5
          exact⟨⟨a+2,i+1,acc++[x,y],by omega,hle,by simp;omega,by simp,hO5,hR5,Xv_low HX2.out hB5,zh (by rw[HREL.out];cases rdKey (leftL b (a+2) tn) (n-(i+1))<;>simp)⟩,meas c2 c5 (by omega) (by omega)⟩
        · have qe:(p2.toList==[0,0])=false:=by
           rw[HPL.out]
           simp only [beq_eq_false_iff_ne]
           intro e
           injection e with e1 e
           injection e with e2 e
           exact hxy ⟨e1,e2⟩
          rw[if_neg hxy] at HREL
          clear hxy
          go_wp2_with (at_builtin;refine wpList_append_str rfl (.tmp 38) (.tmp 39) 99 9 rfl underlying99 underlying9 We.keyInfo5 rfl HO2.out p2 rfl (by omega) zr HX2.out.size ?_;intro v5 w5 hO5 hB5 hs5)
          have hR5:Rdr w5 rb (.pointer (some t)) b (a+2) tn pv:=Blk.below HR2.out hB5 hrl8
          have c5:w5.cell? ⟨rb,2,none⟩=some (.int .i64 ((a+2:Nat):Int)):=hR5.cell 2
          rw[HPL.out] at hO5
          exact⟨⟨a+2,i,acc++[x,y],by omega,hle,by simp;omega,rfl,hO5,hR5,Xv_low HX2.out hB5,zh (by rw[HREL.out,show n-i=n-(i+1)+1 by omega];cases rdKey (leftL b (a+2) tn) (n-(i+1)+1)<;>simp)⟩,meas c2 c5 (by omega) (by omega)⟩
      · have hRn:R=none:=by
         rw[hrel.out,show n-i=(n-(i+1))+1 by omega,rdKey_short _ (by rw[leftL_len];omega)];rfl
        have HNO:=zh (show textR KM f L=none by
         rw[HLC.out]
         refine textR_key KM f _ HCM.out ?_
         rw[HCE.out]
         exact HKR.out.trans hRn)
        have HX2:=zh (HX8.out.trans hX (fun _ _ e=>e))
        clear hrel hO hX hR hp hRn
        go_wp2_with fail
        refine HTK.out.mono ?_
        intro e w2 h2
        unfold TakePost at h2
        rw[if_neg hle] at h2
        obtain⟨hf,hb3⟩:=h2
        obtain⟨ch,rfl⟩:=hf.form
        go_wp2_with fail
        exact⟨rfl,.no HNO.out (hf.low HX2.out.size) (HX2.out.then hb3)⟩
    · obtain rfl:i=n:=by omega
      have q2:decide ((i:Int)<(i:Int))=false:=decide_eq_false (by omega)
      have HRS:=zh (show rdKey (leftL b (at_+1) tn) i=some (acc,leftL b a tn) by
       rw[HKR.out,hrel.out,Nat.sub_self,rdKey_zero];simp)
      have HES:=zh (escaped_any rb (.pointer (some t)) b a tn pv lp wr hb ha hR hp hlp)
      obtain⟨E,hE⟩:∃ E,rdEsc (leftL b a tn)=E:=⟨_,rfl⟩
      rw[hE] at HES
      have HEE:=zh hE
      have HOO:=zh hO
      have HFR:=zh (hX.blk hne HF8.out)
      have HXW:=zh (HX8.out.trans hX (fun _ _ e=>e))
      have HPW:=zh hp
      have HX8R:=zh hX
      clear hrel hO hX hR hp hE
      cases E with
      | none =>
       have HNO:=zh (show textR KM f L=none by
        rw[HLC.out]
        refine textR_esc KM f _ (k:=acc) HCM.out ?_ HEE.out
        rw[HCE.out];exact HRS.out)
       go_wp2_with fail
       refine HES.out.mono ?_
       rintro e w3 ⟨hf,hx3⟩
       obtain⟨ch,rfl⟩:=hf.form
       go_wp2_with fail
       exact⟨rfl,.no HNO.out (hf.low HXW.out.size) (HXW.out.trans hx3 (fun _ _ e=>e))⟩
      | some x =>
       obtain⟨s,r2⟩:=x
       have HTR:=zh (show textR KM f L=if s.length≤65536∧U.checkS ⟨s.toArray⟩<0∧KM f.co ⟨s.toArray⟩=acc then some (s,r2) else none by
        rw[HLC.out]
        refine textR_all KM f _ HCM.out ?_ HEE.out
        rw[HCE.out];exact HRS.out)
       obtain⟨S,hS⟩:∃ S,(⟨s.toArray⟩:ByteArray)=S:=⟨_,rfl⟩
       have hsz:S.size=s.length:=by rw[← hS];rfl
       have HSL:=zh (show S.toList=s by rw[← hS,toList_mk])
       have HSM:=zh (show S=⟨s.toArray⟩ from hS.symm)
       rw[hS] at HTR
       have HSS:=zh hS
       clear hS
       go_wp2_with fail
       refine HES.out.mono ?_
       rintro e w3 ⟨⟨rfl,a3,ha3,rfl,hr3⟩,hx3⟩
       rw[HSS.out]
       have HR3:=zh hr3
       have HX3:=zh (HXW.out.trans hx3 (fun _ _ e=>e))
       have HP3:=zh (HPW.out.keep hx3.size (fun k hk hp=>hx3.block k hk hp) (fun _ _ e=>e))
       have HO3:=zh (OwnB_xv HOO.out hrl8 hx3)
       have HF3:=zh (hx3.blk hne HFR.out)
       have HY3:=zh hx3
       clear hr3 hx3 HSS
       by_cases hbig:65536<S.size
       · have q3:decide ((65536:Int)<(S.size:Int))=true:=decide_eq_true (by omega)
         have HNO:=zh (show textR KM f L=none by rw[HTR.out,if_neg (by omega)])
         have HFA:=zh (fail_any rb (.pointer (some t)) b a3 tn pv lp 124 a .nilIface w3 HR3.out HP3.out hlp (.inl rfl))
         go_wp2_with fail
         refine HFA.out.mono ?_
         rintro e w4 ⟨hf,hb4⟩
         obtain⟨ch,rfl⟩:=hf.form
         go_wp2_with fail
         exact⟨rfl,.no HNO.out ((hf.low HX3.out.size).to ha) (HX3.out.then hb4)⟩
       have q3:decide ((65536:Int)<(S.size:Int))=false:=decide_eq_false (by omega)
       have HCK:=zh (fun w=>U.Check_any S (by omega) w)
       obtain⟨C,hC⟩:∃ C,U.checkS S=C:=⟨_,rfl⟩
       have HCC:=zh hC
       rw[hC] at HTR HCK
       clear hC
       by_cases hck:C<0
       case neg =>
        have q4:decide ((0:Int)≤C)=true:=decide_eq_true (by omega)
        have HNO:=zh (show textR KM f L=none by rw[HTR.out,if_neg (fun e=>hck e.2.1)])
        have HFA:=zh (fun w4 (hb4:Below w3.heap.size w3 w4)=>fail_any rb (.pointer (some t)) b a3 tn pv lp 125 a (.iface 41 (.int .i64 30)) w4 (Blk.below HR3.out hb4 HR3.out.lt) (HP3.out.keep hb4.size (fun k hk _=>hb4.block k hk) (fun _ _ e=>e)) hlp (.inr ⟨_,_,rfl⟩))
        clear hck
        go_wp2_with fail
        refine(HCK.out _).mono ?_
        rintro e w4 ⟨rfl,hb4⟩
        have HB4:=zh hb4
        clear hb4
        go_wp2_with fail
        refine(HFA.out _ HB4.out).mono ?_
        rintro e w5 ⟨hf,hb5⟩
        obtain⟨ch,rfl⟩:=hf.form
        have HX4:=HX3.out.then HB4.out
        go_wp2_with fail
        exact⟨rfl,.no HNO.out ((hf.low HX4.size).to ha) (HX4.then hb5)⟩
       have q4:decide ((0:Int)≤C)=false:=decide_eq_false (by omega)
       have HKY:=zh (fun w4 (hx:Xv (· = rb) w w4)=>We.Key_any wf wt (.pointer (some t)) ⟨(i:Int),sh,bk⟩ HCO.out S w4 ((HT.out.later (hx.below (B:=hi) (fun k hk e=>by omega) (by omega)) lr).wide lr (by have:=hx.size;omega)) (by omega) (good_of (by rw[HCC.out];exact hck)))
       rw[hKM] at HKY
       obtain⟨KS,hKS⟩:∃ KS,KM ⟨(i:Int),sh,bk⟩ S=KS:=⟨_,rfl⟩
       rw[HCE.out,hKS] at HTR
       rw[hKS] at HKY
       unfold Co.val at HKY
       simp only at HKY
       clear hKS
       go_wp2_with fail
       refine(HCK.out _).mono ?_
       rintro e w4 ⟨rfl,hb4⟩
       have HX4:=zh (HX3.out.then hb4)
       have HR4:=zh (show Rdr w4 rb (.pointer (some t)) b a3 tn pv from Blk.below HR3.out hb4 HR3.out.lt)
       have HO4:=zh (HO3.out.below hb4)
       have HP4:=zh (HP3.out.keep hb4.size (fun k hk _=>hb4.block k hk) (fun _ _ e=>e))
       have hF4:=Blk.below HF3.out hb4 HF3.out.lt
       have f10:=hF4.cell 10
       have f11:=hF4.cell 11
       have f12:=hF4.cell 12
       have r0:w4.cell? ⟨rb,0,none⟩=some (.pointer (some t)):=HR4.out.cell 0
       clear hb4 hF4
       go_wp2_with fail
       refine wp_region_held_drew (S:=fun w'=>w'.cell? ⟨w.heap.size,10,none⟩=some (.int .i64 (i:Int))∧w'.cell? ⟨w.heap.size,11,none⟩=some (.bool sh)∧w'.cell? ⟨w.heap.size,12,none⟩=some (.bool bk)∧w'.cell? ⟨rb,0,none⟩=some (.pointer (some t))∧Below w4.heap.size w4 w') (by kernel_rfl) ⟨f10,f11,f12,r0,zr.drew⟩ (fun hHeld=>?_)
       refine tx 0 ?v0b rfl (by kernel_rfl) tq (by rfl) ?hy0b (by assumption) ?rest0b
       case hy0b=>(rintro wS ⟨k10,k11,k12,kr,kb⟩;go_simp;try with_reducible rfl)
       try simp[Act.put]
       refine tx 1 ?v1b rfl (by kernel_rfl) tq (by rfl) ?hy1b (by assumption) ?rest1b
       case hy1b=>(rintro wS ⟨k10,k11,k12,kr,kb⟩;go_simp;try with_reducible rfl)
       try simp[Act.put]
       refine tx 2 ?v2b rfl (by kernel_rfl) tq (by rfl) ?hy2b (by assumption) ?rest2b
       case hy2b=>(rintro wS ⟨k10,k11,k12,kr,kb⟩;go_simp;try with_reducible rfl)
       try simp[Act.put]
       refine tx 3 ?v3b rfl (by kernel_rfl) tq (by rfl) ?hy3b (by assumption) ?rest3b
       case hy3b=>(rintro wS ⟨k10,k11,k12,kr,kb⟩;go_simp;try with_reducible rfl)
       try simp[Act.put]
       refine tx 4 ?v4b rfl (by kernel_rfl) tq (by rfl) ?hy4b (by assumption) ?rest4b
       case hy4b=>(rintro wS ⟨k10,k11,k12,kr,kb⟩;go_simp;try with_reducible rfl)
       try simp[Act.put]
       refine tx 5 ?v5b rfl (by kernel_rfl) tq (by rfl) ?hy5b (by assumption) ?rest5b
       case hy5b=>(rintro wS ⟨k10,k11,k12,kr,kb⟩;go_simp;try with_reducible rfl)
       try simp[Act.put]
       refine tx 6 ?v6b rfl (by kernel_rfl) tq (by rfl) ?hy6b (by assumption) ?rest6b
       case hy6b=>(rintro wS ⟨k10,k11,k12,kr,kb⟩;go_simp;try with_reducible rfl)
       try simp[Act.put]
       refine wpAnyH_ready (rs:=[7]) (by kernel_rfl) (by simp) ?_
       refine AllReadyH.cons rfl (fun K hK=>?_) AllReadyH.nil
       go_simp
       obtain⟨k10,k11,k12,kr,kb⟩:=hHeld
       refine(HKY.out _ HX4.out.drew).mono ?_
       rintro e w5 ⟨rfl,hb5⟩
       replace k10:=V.keeps hb5 k10
       replace k11:=V.keeps hb5 k11
       replace k12:=V.keeps hb5 k12
       replace kr:=V.keeps hb5 kr
       replace kb:=V.two kb hb5
       clear hb5
       go_wp2_with fail
       refine hK.out _ _ ⟨k10,k11,k12,kr,kb⟩ (fun hHeld=>?_)
       try simp[Act.put]
       refine tx 8 ?v8b rfl (by kernel_rfl) tq (by rfl) ?hy8b (by assumption) ?rest8b
       case hy8b=>(rintro wS ⟨k10,k11,k12,kr,kb⟩;go_simp;try with_reducible rfl)
       try simp[Act.put]
       refine tx 9 ?v9b rfl (by kernel_rfl) tq (by rfl) ?hy9b (by assumption) ?rest9b
       case hy9b=>(rintro wS ⟨k10,k11,k12,kr,kb⟩;go_simp;try with_reducible rfl)
       try simp[Act.put]
       refine tx 10 ?v10b rfl (by kernel_rfl) tq (by rfl) ?hy10b (by assumption) ?rest10b
       case hy10b=>(rintro wS ⟨k10,k11,k12,kr,kb⟩;go_simp;try with_reducible rfl)
       try simp[Act.put]
       refine tx 11 ?v11b rfl (by kernel_rfl) tq (by rfl) ?hy11b (by assumption) ?rest11b
       case hy11b=>(rintro wS ⟨k10,k11,k12,kr,kb⟩;go_simp;try with_reducible rfl)
       try simp[Act.put]
       refine tx 12 ?v12b rfl (by kernel_rfl) tq (by rfl) ?hy12b (by assumption) ?rest12b
       case hy12b=>(rintro wS ⟨k10,k11,k12,kr,kb⟩;go_simp;try with_reducible rfl)
       try simp[Act.put]
       refine wpAnyH_done (by kernel_rfl) ?_ _
       obtain⟨k10,k11,k12,kr,kb⟩:=hHeld
       have HX5:=zh (HX4.out.then kb)
       have HR5:=zh (show Rdr w5 rb (.pointer (some t)) b a3 tn pv from Blk.below HR4.out kb HR4.out.lt)
       have HP5:=zh (HP4.out.keep kb.size (fun k hk _=>kb.block k hk) (fun _ _ e=>e))
       have HO5:=zh (HO4.out.below kb)
       have hcv:=HO5.out.conv 99 9 underlying99 underlying5 underlying9
       clear kb k10 k11 k12 kr
       by_cases hka:KS=acc
       · have qk:(!KS==acc)=false:=by simp[hka]
         have HTY:=zh (show textR KM f L=some (s,leftL b a3 tn) by rw[HTR.out,if_pos ⟨by omega,hck,hka⟩])
         clear hka hck
         go_wp2_with fail
         go_ret
         exact .yes HTY.out HSM.out ha3 HR5.out HX5.out
       · have qk:(!KS==acc)=true:=by simp[hka]
         have HNO:=zh (show textR KM f L=none by rw[HTR.out,if_neg (fun e=>hka e.2.2)])
         have HFA:=zh (fail_any rb (.pointer (some t)) b a3 tn pv lp 144 (at_+1) .nilIface w5 HR5.out HP5.out hlp (.inl rfl))
         rw[show ((at_+1:Nat):Int)=(at_:Int)+1 by omega] at HFA
         clear hka hck
         go_wp2_with fail
         refine HFA.out.mono ?_
         rintro e w6 ⟨hf,hb6⟩
         obtain⟨ch,rfl⟩:=hf.form
         go_wp2_with fail
         exact⟨rfl,.no HNO.out ((hf.low HX5.out.size).to (by omega)) (HX5.out.then hb6)⟩
 · have HF:=zh (take1_no rb (.pointer (some t)) b at_ tn pv lp w1.drew hb HR1.out HP1.out hlp hat hlt)
   have HNO:=zh (show textR KM f L=none by rw[← hL,leftL_end tn (by omega)];rfl)
   refine wp_region_held_drew (S:=fun w'=>w'.cell? ⟨w.heap.size,10,none⟩=some (.int .i64 (n:Int))∧w'.cell? ⟨w.heap.size,11,none⟩=some (.bool sh)∧w'.cell? ⟨w.heap.size,12,none⟩=some (.bool bk)) (by kernel_rfl) ⟨f10,f11,f12⟩ (fun hHeld=>?_)
   refine tx 0 ?v0c rfl (by kernel_rfl) tq (by rfl) ?hy0c (by assumption) ?rest0c
   case hy0c=>(rintro wS ⟨k10,k11,k12⟩;go_simp;try with_reducible rfl)
   try simp[Act.put]
   refine tx 3 ?v3c rfl (by kernel_rfl) tq (by rfl) ?hy3c (by assumption) ?rest3c
   case hy3c=>(rintro wS ⟨k10,k11,k12⟩;go_simp;try with_reducible rfl)
   try simp[Act.put]
   refine tx 4 ?v4c rfl (by kernel_rfl) tq (by rfl) ?hy4c (by assumption) ?rest4c
   case hy4c=>(rintro wS ⟨k10,k11,k12⟩;go_simp;try with_reducible rfl)
   try simp[Act.put]
   refine wpAnyH_ready (rs:=[1]) (by kernel_rfl) (by simp) ?_
   refine AllReadyH.cons rfl (fun K hK=>?_) AllReadyH.nil
   go_simp
   refine HF.out.mono ?_
   rintro e w3 ⟨hf,hb3⟩
   obtain⟨ch,rfl⟩:=hf.form
   go_wp2_with fail
   exact⟨rfl,.no HNO.out (hf.low HX1.out.size) (HX1.out.then (bl_undrew hb3))⟩
open V (Same Pt VI mayB mayB_ok PS)
def PartGot (rb:Nat) (tv:Value) (b:ByteArray) (tn:Bool) (lp:List Int) (pv:Value) (R:Option (Pt×List UInt8)) (w:World) (e:Ending) (w':World):Prop :=
 (match R with
  | some (p,l)=>∃ u a pv',e=.returned (.agg (V.cellsOf p u))∧a≤b.size∧l=leftL b a tn∧Rdr w' rb tv b a tn pv'∧OwnN w' (rb+1) pv' lp∧(∀ k,pv'.ownBlock=some k→pv.ownBlock=some k∨w.heap.size≤k)∧PS w' (fun k=>w.heap.size≤k∧pv'.ownBlock≠some k) p.items u
  | none=>Fails b.size w e w')∧Xv (fun k=>k=rb∨pv.ownBlock=some k) w w'
theorem own_ints {w:World} {rb:Nat} {pv:Value} {lp:List Int} (h:OwnN w (rb+1) pv lp):IntsP w (· = rb) pv lp:=h.place fun k _ h1 _ e=>by omega
theorem own_rb {w w':World} {rb:Nat} {pv:Value} {lp:List Int} (h:OwnN w (rb+1) pv lp) (hx:Xv (· = rb) w w'):OwnN w' (rb+1) pv lp:=h.xv hx fun k hk e=>by
 have:=(h.lt hk).1
 omega
section
variable {rb:Nat} {tv:Value} {b:ByteArray} {tn:Bool} {lp:List Int} {pv:Value} {R:Option (Pt×List UInt8)} {w w':World} {e:Ending}
theorem PartGot.no (h:R=none) (hf:Fails b.size w e w') (hx:Xv (fun k=>k=rb∨pv.ownBlock=some k) w w'):PartGot rb tv b tn lp pv R w e w':=by
 unfold PartGot;rw[h];exact⟨hf,hx⟩
theorem PartGot.no1 (h:R=none) (hf:Fails b.size w e w') (hx:Xv (· = rb) w w'):PartGot rb tv b tn lp pv R w e w':=.no h hf (hx.mono fun _ _ e=>.inl e)
theorem PartGot.flat {p:Pt} {l:List UInt8} {a:Nat} (h:R=some (p,l)) (hl:l=leftL b a tn) (ha:a≤b.size) (hi:p.items=[]) (hr:Rdr w' rb tv b a tn pv) (hp:OwnN w (rb+1) pv lp) (hx:Xv (· = rb) w w') :
 PartGot rb tv b tn lp pv R w (.returned (.agg (V.cellsOf p (.slice none 0 0)))) w':=by
 unfold PartGot
 rw[h]
 exact⟨⟨_,a,pv,rfl,ha,hl,hr,own_rb hp hx,fun _ h=>.inl h,by rw[hi];exact PS.nil _ _⟩,hx.mono fun _ _ e=>.inl e⟩
end
theorem leftL_turn (b:ByteArray) (a:Nat) (tn d:Bool):flips d (leftL b a (xor tn d))=leftL b a tn:=by
 unfold leftL flips
 rw[List.map_map]
 congr 1
 funext c
 cases tn<;>cases d<;>simp[fl]
 exact u8_every (P:=fun c=>255-(255-c)=c) (by decide +kernel) c
theorem leftL_turn2 (b:ByteArray) (a:Nat) (tn d:Bool):leftL b a (xor tn d)=flips d (leftL b a tn) :=
 (flips_flips d _).symm.trans (congrArg (flips d) (leftL_turn b a tn d))
def put6 (w:World) (g:Nat) (v0 v1 v2 v3 v4 v5:Value):World:=(((((w.setCell ⟨g,0,none⟩ v0).setCell ⟨g,1,none⟩ v1).setCell ⟨g,2,none⟩ v2).setCell ⟨g,3,none⟩ v3).setCell ⟨g,4,none⟩ v4).setCell ⟨g,5,none⟩ v5
theorem blk_set {w:World} {g h:Nat} {t:TypeId} {cs:Array Value} (hb:Blk w g t cs) (hne:g≠h) (i:Nat) (v:Value):Blk (w.setCell ⟨h,i,none⟩ v) g t cs:=(Below.heap_setCell _ _ _ _ hne).trans hb
theorem put6_other {w:World} {g h:Nat} {t:TypeId} {cs:Array Value} (hb:Blk w h t cs) (hne:h≠g) (v0 v1 v2 v3 v4 v5:Value):Blk (put6 w g v0 v1 v2 v3 v4 v5) h t cs :=
 blk_set (blk_set (blk_set (blk_set (blk_set (blk_set hb hne _ _) hne _ _) hne _ _) hne _ _) hne _ _) hne _ _
theorem put6_xv {P:Nat→Prop} {w w':World} {g:Nat} (h:Xv P w w') (hg:g<w.heap.size→P g) (v0 v1 v2 v3 v4 v5:Value):Xv P w (put6 w' g v0 v1 v2 v3 v4 v5) :=
 (((((h.set_ hg 0 v0).set_ hg 1 v1).set_ hg 2 v2).set_ hg 3 v3).set_ hg 4 v4).set_ hg 5 v5
theorem f6 {w:World} {g:Nat} {t:TypeId} {v0 v1 v2 v3 v4 v5:Value} (h:Blk w g t #[v0,v1,v2,v3,v4,v5]):(w.cell? ⟨g,0,none⟩=some v0∧w.cell? ⟨g,1,none⟩=some v1∧w.cell? ⟨g,2,none⟩=some v2∧w.cell? ⟨g,3,none⟩=some v3∧w.cell? ⟨g,4,none⟩=some v4∧w.cell? ⟨g,5,none⟩=some v5) ∧
 w.frozen? ⟨g,0,none⟩=false∧w.frozen? ⟨g,1,none⟩=false∧w.frozen? ⟨g,2,none⟩=false∧w.frozen? ⟨g,3,none⟩=false∧w.frozen? ⟨g,4,none⟩=false∧w.frozen? ⟨g,5,none⟩=false :=
 ⟨⟨h.cell 0,h.cell 1,h.cell 2,h.cell 3,h.cell 4,h.cell 5⟩,h.frozen 0,h.frozen 1,h.frozen 2,h.frozen 3,h.frozen 4,h.frozen 5⟩
theorem Rdr.turn {w:World} {rb a:Nat} {tv pv:Value} {b:ByteArray} {tn tn2:Bool} {t:Int} (h:Rdr w rb tv b a tn pv) (e:(if tn2 then 255 else 0)=t):Rdr (w.setCell ⟨rb,3,none⟩ (.int .u8 t)) rb tv b a tn2 pv:=by
 subst e
 have:=Blk.set_ h 3 (.int .u8 (if tn2 then 255 else 0))
 simpa[Rdr] using this
def ReadAt (n:Nat) (R:List UInt8→Option (Pt×List UInt8)) (D:Dm) (T:Tm) (t:Addr) (f:Fd) (d:Nat):Prop :=
 ∀ (hi:Nat) (a0:Option Addr) (c0 rb:Nat) (b:ByteArray) (at_:Nat) (tn:Bool) (pv:Value) (lp:List Int) (w:World),b.size≤4194304→at_≤b.size→hi≤rb→lp.length≤d →
  Rdr w rb (.pointer (some t)) b at_ tn pv→OwnN w (rb+1) pv lp→TblAt w 0 hi (.pointer (some t)) D T→FI w 0 hi f.fields (.slice a0 f.fields.length c0) →
  Calls prog n #[.pointer (some ⟨rb,0,none⟩),.agg (fcells f (.slice a0 f.fields.length c0)).toArray] w (PartGot rb (.pointer (some t)) b tn lp pv (R (leftL b at_ tn)) w)
