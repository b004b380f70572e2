import Derived.Test.YtcgnajeenflfaaaGreatDoorP31
set_option maxRecDepth 100000
set_option maxHeartbeats 4000000
set_option linter.all false
open Go.Proofs.Tryz Go.RowKit
namespace Go.Proofs.YtcgnajeenflfaaaGreatDoor
namespace Sc
open V (Same Pt VI mayB mayB_ok)
def Rdr (w:World) (rb:Nat) (tv:Value) (b:ByteArray) (at_:Nat) (tn:Bool) (pv:Value):Prop:=Blk w rb 111 #[tv,.string b,.int .i64 (at_:Int),.int .u8 (if tn then 255 else 0),pv]
def Fails (m:Nat) (w:World) (e:Ending) (w':World):Prop :=
 ∃ fb c at_ pv lp why,w.heap.size≤fb∧e=.panicked [{ v:=.iface 39 (.pointer (some ⟨fb,0,none⟩)),recovered:=false }]∧Blk w' fb 44 #[.int .i64 c,.int .i64 at_,pv,why]∧IntsP w' (fun k=>k=fb∨k<w.heap.size) pv lp∧lp.length≤17∧(0≤at_∧at_≤m)∧(why=.nilIface∨∃ T V,why=.iface T V)
theorem fail_any (rb:Nat) (tv:Value) (b:ByteArray) (at_:Nat) (tn:Bool) (pv:Value) (lp:List Int) (c:Int) (k:Nat) (why:Value) (w:World) (hr:Rdr w rb tv b at_ tn pv) (hp:IntsP w (· = rb) pv lp) (hlp:lp.length≤17) (hwhy:why=.nilIface∨∃ T V,why=.iface T V) :
 Calls prog 69 #[.pointer (some ⟨rb,0,none⟩),.int .i64 c,.int .i64 (k:Int),why] w fun e w'=>Fails k w e w'∧Below w.heap.size w w':=by
 have c4:w.cell? ⟨rb,4,none⟩=some pv:=hr.cell 4
 have HP:=zh hp
 have HLP:=zh hlp
 obtain⟨pa,pc,rfl,_⟩:=hp.form
 clear hr hp hlp
 rcases hwhy with rfl | ⟨U,V,rfl⟩
 all_goals
  go_enter func69,ntmps69
  go_wp2_with fail
  refine(cloneN_any (.slice pa lp.length pc) lp w 0 w.heap.size HP.out.reads lr (by have:=HLP.out;omega)).mono ?_
  rintro e w1 ⟨u,rfl,hO,hb1⟩
  obtain⟨ua,uc,rfl,hu3,hu4⟩:=hO.reads.form
  have HO:=zh hO
  have HB:=zh hb1
  clear hO hb1 hu3 hu4
  go_wp2_with fail
  refine⟨rfl,⟨w1.heap.size,c,(k:Int),.slice ua lp.length uc,lp,_,HB.out.size,rfl,Blk.new _ _ _,?_,HLP.out,⟨Int.natCast_nonneg k,Int.le_refl _⟩,by first | exact .inl rfl | exact .inr ⟨_,_,rfl⟩⟩,HB.out.alloc HB.out.size _⟩
  exact IntsP.keep (bad:=fun k=>k=w1.heap.size∨k<w.heap.size) (IntsP.of (OwnN.reads HO.out) lr (fun k _ h2 e=>by omega)) (by simp) (fun k hk _=>by rw[Below.heap_alloc _ _ _ hk]) (fun _ _ e=>e)
def leftL (b:ByteArray) (at_:Nat) (tn:Bool):List UInt8:=flips tn (b.toList.drop at_)
theorem leftL_len {b:ByteArray} {at_:Nat} {tn:Bool}:(leftL b at_ tn).length=b.size-at_:=by
 unfold leftL
 rw[flips_len,List.length_drop,V.size_of]
def flTo (tn:Bool) (l:List UInt8) (k:Nat):List UInt8:=(l.take k).map (fl tn)++l.drop k
theorem flTo_zero (tn:Bool) (l:List UInt8):flTo tn l 0=l:=by simp[flTo]
theorem flTo_length (tn:Bool) (l:List UInt8) (k:Nat) (h:k≤l.length):(flTo tn l k).length=l.length:=by simp[flTo];omega
theorem flTo_end (tn:Bool) (l:List UInt8) (k:Nat) (h:l.length≤k):flTo tn l k=l.map (fl tn):=by simp[flTo,List.take_of_length_le h,List.drop_of_length_le h]
theorem flTo_get (tn:Bool) (l:List UInt8) (k:Nat) (h:k<l.length) (h2:k<(flTo tn l k).length):(flTo tn l k)[k]=l[k]:=by
 simp only [flTo]
 rw[List.getElem_append_right (by simp;omega)]
 simp[List.length_take,Nat.min_eq_left (Nat.le_of_lt h)]
theorem flTo_set (tn:Bool) (l:List UInt8) (k:Nat) (h:k<l.length):(flTo tn l k).set k (fl tn l[k])=flTo tn l (k+1):=by
 unfold flTo
 rw[List.set_append,if_neg (by simp;omega),List.length_map,List.length_take,Nat.min_eq_left (Nat.le_of_lt h),Nat.sub_self,List.drop_eq_getElem_cons h,List.set_cons_zero,List.take_succ_eq_append_getElem h,List.map_append,List.append_assoc]
 rfl
def SRow (w:World) (B:Nat) (l:List UInt8):Prop:=∃ cs fz,w.heap[B]?=some (.cells cs 5 fz)∧l.length≤fz.1∧∀ j (h:j<l.length),cs[j]?=some (.int .u8 (l[j].toNat:Int))
theorem SRow.lt {w:World} {B:Nat} {l:List UInt8} (h:SRow w B l):B<w.heap.size:=by
 obtain⟨cs,fz,h,_⟩:=h
 exact(Array.getElem?_eq_some_iff.1 h).1
theorem SRow.cell {w:World} {B:Nat} {l:List UInt8} (h:SRow w B l) (j:Nat) (hj:j<l.length):w.cell? ⟨B,j,none⟩=some (.int .u8 (l[j].toNat:Int)):=by
 obtain⟨cs,fz,h1,_,h3⟩:=h
 rw[cell_of_row w B j cs 5 fz h1]
 exact h3 j hj
theorem SRow.frozen {w:World} {B:Nat} {l:List UInt8} (h:SRow w B l) (j:Nat) (hj:j<l.length):w.frozen? ⟨B,j,none⟩=false:=by
 obtain⟨cs,fz,h1,h2,_⟩:=h
 simp[World.frozen?,h1]
 omega
theorem SRow.set_ {w:World} {B:Nat} {l:List UInt8} (h:SRow w B l) (k:Nat) (hk:k<l.length) (c:UInt8):SRow (w.setCell ⟨B,k,none⟩ (.int .u8 (c.toNat:Int))) B (l.set k c):=by
 obtain⟨cs,fz,h1,h2,h3⟩:=h
 refine⟨cs.setIfInBounds k (.int .u8 (c.toNat:Int)),fz,by simp[World.setCell,Array.getElem?_modify,h1],by simpa using h2,fun j hj=>?_⟩
 rw[List.length_set] at hj
 have hcs:k<cs.size:=(Array.getElem?_eq_some_iff.1 (h3 k hk)).1
 by_cases he:k=j
 · subst he
   simp[hcs]
 · rw[Array.getElem?_setIfInBounds_ne he,h3 j hj,List.getElem_set_ne he]
theorem SRow.new (w:World) (s:ByteArray):SRow (Lib.bytesWorld w 5 s) w.heap.size s.toList:=by
 refine⟨_,_,Lib.bytesWorld_at_new w 5 s,?_,fun j hj=>?_⟩
 · rw[V.size_of]
   simp[Lib.bytesCells]
 · have hj2:j<s.size:=by rw[← V.size_of];exact hj
   rw[← cell_of_row _ _ j _ 5 _ (Lib.bytesWorld_at_new w 5 s),Lib.bytesWorld_cell w 5 s j hj2]
   congr 3
   simp only [Lib.toList_data]
   rw[List.getD_eq_getElem?_getD,List.getElem?_eq_getElem (by simpa using hj2)]
   rfl
theorem addr_add (B j:Nat):(⟨B,0,none⟩:Addr).add j=⟨B,j,none⟩:=by cases j<;>simp[Addr.add]
theorem SRow.other {w:World} {B g i:Nat} {v:Value} {l:List UInt8} (h:SRow w B l) (hne:B≠g):SRow (w.setCell ⟨g,i,none⟩ v) B l:=by
 obtain⟨cs,fz,h1,h2,h3⟩:=h
 exact⟨cs,fz,(Below.heap_setCell _ _ _ _ hne).trans h1,h2,h3⟩
theorem wrap_small (n:Int) (h0:0≤n) (h1:n≤9223372036854775807):IntKind.i64.wrap n=n:=by
 simp[IntKind.wrap,IntKind.signed,IntKind.bits]
 omega
def TakePost (rb:Nat) (tv:Value) (b:ByteArray) (at_ n:Nat) (tn:Bool) (pv:Value) (w:World) (e:Ending) (w':World):Prop :=
 if at_+n≤b.size then e=.returned (.string ⟨((leftL b at_ tn).take n).toArray⟩)∧Rdr w' rb tv b (at_+n) tn pv∧Xv (· = rb) w w' else Fails b.size w e w'∧Below w.heap.size w w'
theorem rtake_no (rb:Nat) (tv:Value) (b:ByteArray) (at_ n:Nat) (tn:Bool) (pv:Value) (lp:List Int) (w:World) (hb:b.size≤4194304) (hat:at_≤b.size) (hn:n≤65536) (hr:Rdr w rb tv b at_ tn pv) (hp:IntsP w (· = rb) pv lp) (hlp:lp.length≤17) (h:¬ at_+n≤b.size) :
 Calls prog 66 #[.pointer (some ⟨rb,0,none⟩),.int .i64 (n:Int)] w (TakePost rb tv b at_ n tn pv w):=by
 refine Calls.mono (R:=fun e w'=>Fails b.size w e w'∧Below w.heap.size w w') ?_ (fun e w' h2=>by unfold TakePost;rw[if_neg h];exact h2)
 have c1:w.cell? ⟨rb,1,none⟩=some (.string b):=hr.cell 1
 have c2:w.cell? ⟨rb,2,none⟩=some (.int .i64 (at_:Int)):=hr.cell 2
 have q1:decide ((b.size:Int)-(at_:Int)<(n:Int))=true:=decide_eq_true (by omega)
 have HFA:=zh (fun nq=>fail_any rb tv b at_ tn pv lp 140 b.size .nilIface (w.drewN nq) hr hp hlp (.inl rfl))
 clear hr hp h
 go_enter func66,ntmps66
 go_wp2_with fail
 go_quiet (fail)
 go_wp2_with fail
 refine(HFA.out _).mono ?_
 rintro e w1 ⟨⟨fb,fc,fa,pv',lp',why,h1,rfl,h3⟩,hb1⟩
 exact⟨rfl,⟨fb,fc,fa,pv',lp',why,h1,rfl,h3⟩,⟨hb1.os,hb1.tape,hb1.output,hb1.size,hb1.block⟩⟩
theorem u8_every {P:UInt8→Prop} (h:∀ i:Fin 256,P (UInt8.ofNat i.val)) (c:UInt8):P c:=by
 have:=h ⟨c.toNat,c.toNat_lt⟩
 simpa using this
theorem xor_255 (c:UInt8):bits .xor .u8 (c.toNat:Int) 255=((fl true c).toNat:Int):=u8_every (P:=fun c=>bits .xor .u8 (c.toNat:Int) 255=((fl true c).toNat:Int)) (by decide +kernel) c
theorem xor_0 (c:UInt8):bits .xor .u8 (c.toNat:Int) 0=((fl false c).toNat:Int):=u8_every (P:=fun c=>bits .xor .u8 (c.toNat:Int) 0=((fl false c).toNat:Int)) (by decide +kernel) c
theorem rtake_ok (rb:Nat) (tv:Value) (b:ByteArray) (at_ n:Nat) (tn:Bool) (pv:Value) (w:World) (hb:b.size≤4194304) (hr:Rdr w rb tv b at_ tn pv) (h:at_+n≤b.size) :
 Calls prog 66 #[.pointer (some ⟨rb,0,none⟩),.int .i64 (n:Int)] w (TakePost rb tv b at_ n tn pv w):=by
 refine Calls.mono (R:=fun e w'=>e=.returned (.string ⟨((leftL b at_ tn).take n).toArray⟩)∧Rdr w' rb tv b (at_+n) tn pv∧Xv (· = rb) w w') ?_ (fun e w' h2=>by unfold TakePost;rw[if_pos h];exact h2)
 have c1:w.cell? ⟨rb,1,none⟩=some (.string b):=hr.cell 1
 have c2:w.cell? ⟨rb,2,none⟩=some (.int .i64 (at_:Int)):=hr.cell 2
 have q1:decide ((b.size:Int)-(at_:Int)<(n:Int))=false:=decide_eq_false (by omega)
 have HR:=zh hr
 have hrl:=hr.lt
 have g1:(at_:Int)≤(at_:Int)+(n:Int):=by omega
 have g2:(at_:Int)+(n:Int)≤(b.size:Int):=by omega
 have hwr:IntKind.i64.wrap ((at_:Int)+(n:Int))=((at_+n:Nat):Int):=by
  rw[wrap_small _ (by omega) (by omega)];omega
 obtain⟨sub,hsub⟩:∃ sub,b.extract at_ (at_+n)=sub:=⟨_,rfl⟩
 have hcv:∀ w:World,(convert 9 99 (.string sub)).run prog w=.ok (.slice (some ⟨w.heap.size,0,none⟩) sub.size (grownCap w sub.size 0 5)) (Lib.bytesWorld w 5 sub):=fun w=>Lib.run_convert_string_bytes w 9 99 5 sub underlying9 underlying99 underlying5
 clear hr
 go_enter func66,ntmps66
 go_wp2_with fail
 go_quiet (fail)
 go_wp2_with fail
 go_region
 have hNW:(w.drewN (nq+1)).heap.size=w.heap.size:=rfl
 have hS:=SRow.new (w.drewN (nq+1)) sub
 rw[hNW] at hS
 have hX:Xv (· = rb) w (Lib.bytesWorld (w.drewN (nq+1)) 5 sub):=⟨rfl,rfl,rfl,by rw[Lib.bytesWorld_size];exact Nat.le_succ _,fun k hk _=>Lib.bytesWorld_at_old _ _ _ k hk⟩
 have hRd:Rdr (Lib.bytesWorld (w.drewN (nq+1)) 5 sub) rb tv b at_ tn pv:=(Lib.bytesWorld_at_old (w.drewN (nq+1)) 5 sub rb hrl).trans HR.out
 generalize hgc:grownCap (w.drewN (nq+1)) sub.size 0 5=gcap
 generalize Lib.bytesWorld (w.drewN (nq+1)) 5 sub=w3 at hS hX hRd
 clear hNW hcv
 have hsl:sub.toList=(b.toList.drop at_).take n:=by
  rw[← hsub,Lib.toList_data,Lib.toList_data]
  simp[ByteArray.extract,ByteArray.copySlice]
 have hsz:sub.size=n:=by
  rw[← V.size_of,hsl,List.length_take,List.length_drop,V.size_of];omega
 rw[hsz]
 have HX:=zh hX
 have HRd:=zh hRd
 have HS:=zh hS
 clear hX hRd hS hgc c1 c2 g1 g2 hwr hsub
 go_wp2_with fail
 go_loopw [6,44] (fun _ iv wr=>∃ k:Nat,k≤n∧iv=.int .i64 (k:Int)∧SRow wr w.heap.size (flTo tn sub.toList k)∧Rdr wr rb tv b at_ tn pv∧Xv (· = rb) w wr) (fun _ iv _=>n-(intOf iv).toNat)
 case atStart=>exact⟨0,Nat.zero_le _,rfl,by rw[flTo_zero];exact HS.out,HRd.out,HX.out⟩
 case round =>
  obtain⟨k,hk,rfl,hS,hR,hX⟩:=hrel
  have hlen:sub.toList.length=n:=by rw[V.size_of,hsz]
  have hfl:(flTo tn sub.toList k).length=n:=by rw[flTo_length _ _ _ (by omega),hlen]
  by_cases hlt:k<n
  · have q2:decide ((k:Int)<(n:Int))=true:=decide_eq_true (by omega)
    have d0:=hS.cell k (by omega)
    rw[flTo_get tn sub.toList k (by omega)] at d0
    have d1:=hS.frozen k (by omega)
    have d3:wr.cell? ⟨rb,3,none⟩=some (.int .u8 (if tn then 255 else 0)):=hR.cell 3
    have hst:=hS.set_ k (by omega) (fl tn (sub.toList[k]'(by omega)))
    rw[flTo_set tn sub.toList k (by omega)] at hst
    obtain⟨ch,hch⟩:∃ ch,sub.toList[k]'(by omega)=ch:=⟨_,rfl⟩
    rw[hch] at d0 hst
    have HST:=zh hst
    have HR3:=zh hR
    have HX3:=zh hX
    have hBl:=hS.lt
    clear hst hS hR hX hch hfl hlen hsl
    cases tn with
    | true =>
     go_wp2_with fail
     go_region
     rw[xor_255]
     go_wp2_with fail
     have hne:rb≠w.heap.size:=by omega
     exact⟨⟨k+1,by omega,by simp,HST.out,(Below.heap_setCell _ _ _ _ hne).trans HR3.out,(HX3.out.set_ (fun h=>absurd h (Nat.lt_irrefl _)) _ _).drew⟩,by simp[intOf];omega⟩
    | false =>
     go_wp2_with fail
     go_region
     rw[xor_0]
     go_wp2_with fail
     have hne:rb≠w.heap.size:=by omega
     exact⟨⟨k+1,by omega,by simp,HST.out,(Below.heap_setCell _ _ _ _ hne).trans HR3.out,(HX3.out.set_ (fun h=>absurd h (Nat.lt_irrefl _)) _ _).drew⟩,by simp[intOf];omega⟩
  · obtain rfl:k=n:=by omega
    have q2:decide ((k:Int)<(k:Int))=false:=decide_eq_false (by omega)
    have hend:flTo tn sub.toList k=(leftL b at_ tn).take k:=by
     rw[flTo_end _ _ _ (by omega),hsl]
     unfold leftL flips
     rw[List.map_take]
    rw[hend] at hS
    have hll:((leftL b at_ tn).take k).length=k:=by rw[← hend,hfl]
    have hne:w.heap.size≠rb:=by omega
    have hcv2:∀ x,(convert 99 9 (.slice (some ⟨w.heap.size,0,none⟩) k gcap)).run prog (wr.setCell ⟨rb,2,none⟩ x)=.ok (.string ⟨((leftL b at_ tn).take k).toArray⟩) (wr.setCell ⟨rb,2,none⟩ x):=fun x=>by
     have h9:=run_convert_bytes_back (P:=prog) (wr.setCell ⟨rb,2,none⟩ x) 99 9 5 ⟨w.heap.size,0,none⟩ gcap ((leftL b at_ tn).take k) underlying99 underlying5 underlying9 (fun j hj=>by rw[addr_add];exact(hS.other hne).cell j hj)
     rwa [hll] at h9
    have d2:wr.cell? ⟨rb,2,none⟩=some (.int .i64 (at_:Int)):=hR.cell 2
    have e2:wr.frozen? ⟨rb,2,none⟩=false:=hR.frozen 2
    have hrw:=hR.lt
    have HR3:=zh hR
    have HX3:=zh hX
    clear hS hR hX hend hll hsl hfl hlen
    go_wp2_with fail
    go_ret
    refine⟨rfl,?_,HX3.out.set_ (fun _=>rfl) _ _⟩
    have:=HR3.out.set_ 2 (.int .i64 ((at_:Int)+(k:Int)))
    simpa[Rdr] using this
open Es (un un_ne un_zero un_bad un_code)
theorem rdEsc_nil:rdEsc []=none:=by unfold rdEsc;simp[un]
theorem rdEsc_ne {c:UInt8} (r:List UInt8) (h:c≠0):rdEsc (c::r)=(rdEsc r).map fun x=>(c::x.1,x.2):=by
 unfold rdEsc
 rw[un_ne c r h]
 by_cases h2:(un r).2.2=0
 · simp[h2]
 · simp[h2]
theorem rdEsc_zero (r:List UInt8):rdEsc (0::255::r)=(rdEsc r).map fun x=>(0::x.1,x.2):=by
 unfold rdEsc
 rw[un_zero r]
 by_cases h2:(un r).2.2=0
 · simp[h2]
 · simp[h2]
theorem rdEsc_end (r:List UInt8):rdEsc (0::1::r)=some ([],r):=by unfold rdEsc;simp[un]
theorem rdEsc_short:rdEsc [0]=none:=by unfold rdEsc;simp[un]
theorem rdEsc_bad {d:UInt8} (r:List UInt8) (h1:d≠1) (h2:d≠255):rdEsc (0::d::r)=none:=by unfold rdEsc;simp[un,h1,h2]
theorem leftL_cons {b:ByteArray} {a:Nat} (tn:Bool) (h:a<b.size):leftL b a tn=fl tn b[a]::leftL b (a+1) tn:=by
 unfold leftL flips
 rw[List.drop_eq_getElem_cons (by rw[V.size_of];exact h),List.map_cons]
 congr 2
 exact Option.some.inj ((List.getElem?_eq_getElem _).symm.trans (at_some b a h))
theorem leftL_end {b:ByteArray} {a:Nat} (tn:Bool) (h:b.size≤a):leftL b a tn=[]:=by
 unfold leftL
 rw[List.drop_of_length_le (by rw[V.size_of];exact h)];rfl
theorem rtake_any (rb:Nat) (tv:Value) (b:ByteArray) (at_ n:Nat) (tn:Bool) (pv:Value) (lp:List Int) (w:World) (hb:b.size≤4194304) (hat:at_≤b.size) (hn:n≤65536) (hr:Rdr w rb tv b at_ tn pv) (hp:IntsP w (· = rb) pv lp) (hlp:lp.length≤17) :
 Calls prog 66 #[.pointer (some ⟨rb,0,none⟩),.int .i64 (n:Int)] w (TakePost rb tv b at_ n tn pv w):=by
 by_cases h:at_+n≤b.size
 · exact rtake_ok rb tv b at_ n tn pv w hb hr h
 · exact rtake_no rb tv b at_ n tn pv lp w hb hat hn hr hp hlp h
theorem take1_yes (rb:Nat) (tv:Value) (b:ByteArray) (a:Nat) (tn:Bool) (pv:Value) (w:World) (hb:b.size≤4194304) (hr:Rdr w rb tv b a tn pv) (h:a<b.size) :
 Calls prog 66 #[.pointer (some ⟨rb,0,none⟩),.int .i64 1] w fun e w'=>∃ p:ByteArray,e=.returned (.string p)∧(∃ h:0<p.size,p[0]=fl tn b[a])∧Rdr w' rb tv b (a+1) tn pv∧Xv (· = rb) w w':=by
 refine(rtake_ok rb tv b a 1 tn pv w hb hr (by omega)).mono fun e w' h2=>?_
 unfold TakePost at h2
 rw[if_pos (by omega),leftL_cons tn h] at h2
 exact⟨⟨#[fl tn b[a]]⟩,h2.1,⟨Nat.zero_lt_one,rfl⟩,h2.2⟩
theorem take1_no (rb:Nat) (tv:Value) (b:ByteArray) (a:Nat) (tn:Bool) (pv:Value) (lp:List Int) (w:World) (hb:b.size≤4194304) (hr:Rdr w rb tv b a tn pv) (hp:IntsP w (· = rb) pv lp) (hlp:lp.length≤17) (hat:a≤b.size) (h:¬ a<b.size) :
 Calls prog 66 #[.pointer (some ⟨rb,0,none⟩),.int .i64 1] w fun e w'=>Fails b.size w e w'∧Below w.heap.size w w':=by
 refine(rtake_no rb tv b a 1 tn pv lp w hb hat (by omega) hr hp hlp (by omega)).mono fun e w' h2=>?_
 unfold TakePost at h2
 rwa [if_neg (by omega)] at h2
def GotPost (rb:Nat) (tv:Value) (b:ByteArray) (tn:Bool) (pv:Value) (r:Option (List UInt8×List UInt8)) (w:World) (e:Ending) (w':World):Prop :=
 (match r with
  | some (s,l)=>e=.returned (.string ⟨s.toArray⟩)∧∃ a,a≤b.size∧l=leftL b a tn∧Rdr w' rb tv b a tn pv
  | none=>Fails b.size w e w')∧Xv (· = rb) w w'
theorem OwnB_xv {w w':World} {base rb:Nat} {v:Value} {l:List UInt8} (h:OwnB w base v l) (hb:rb<base) (hm:Xv (· = rb) w w'):OwnB w' base v l:=by
 refine⟨h.1,?_⟩
 rcases h.2 with hn | ⟨g,cap,cur,rfl,hg,hgg,rest⟩
 · exact .inl hn
 · exact .inr ⟨g,cap,cur,rfl,hg,(hm.block g (Array.getElem?_eq_some_iff.1 hgg).1 (fun e=>by omega)).trans hgg,rest⟩
theorem Xv_low {P:Nat→Prop} {w a b:World} (h:Xv P w a) (k:Below w.heap.size a b):Xv P w b :=
 ⟨k.os.trans h.os,k.tape.trans h.tape,k.output.trans h.output,Nat.le_trans h.size k.size,fun i hi hp=>(k.block i hi).trans (h.block i hi hp)⟩
theorem Fails.low {m:Nat} {w wr w':World} {e:Ending} (h:Fails m wr e w') (hs:w.heap.size≤wr.heap.size):Fails m w e w':=by
 obtain⟨fb,c,a,pv,lp,why,h1,h2,h3,h4,h5⟩:=h
 exact⟨fb,c,a,pv,lp,why,Nat.le_trans hs h1,h2,h3,h4.mono fun k _ e=>e.imp id fun e=>Nat.lt_of_lt_of_le e hs,h5⟩
theorem Fails.form {m:Nat} {w w':World} {e:Ending} (h:Fails m w e w'):∃ ch,e=.panicked ch:=by
 obtain⟨fb,c,a,pv,lp,why,h1,h2,_⟩:=h
 exact⟨_,h2⟩
theorem meas {b:ByteArray} {w w':World} {rb a a':Nat} (h:w.cell? ⟨rb,2,none⟩=some (.int .i64 (a:Int))) (h':w'.cell? ⟨rb,2,none⟩=some (.int .i64 (a':Int))) (hlt:a<b.size) (ha:a<a') :
 b.size-(intOf ((w'.cell? ⟨rb,2,none⟩).getD .nilIface)).toNat<b.size-(intOf ((w.cell? ⟨rb,2,none⟩).getD .nilIface)).toNat:=by
 rw[h,h']
 simp[intOf]
 omega
theorem escaped_any (rb:Nat) (tv:Value) (b:ByteArray) (at_:Nat) (tn:Bool) (pv:Value) (lp:List Int) (w:World) (hb:b.size≤4194304) (hat:at_≤b.size) (hr:Rdr w rb tv b at_ tn pv) (hp:IntsP w (· = rb) pv lp) (hlp:lp.length≤17) :
 Calls prog 98 #[.pointer (some ⟨rb,0,none⟩)] w (GotPost rb tv b tn pv (rdEsc (leftL b at_ tn)) w):=by
 obtain⟨R,hR⟩:∃ R,rdEsc (leftL b at_ tn)=R:=⟨_,rfl⟩
 rw[hR]
 have HR0:=zh hr
 have HP:=zh hp
 have HRR:=zh hR
 have hrl:=hr.lt
 clear hr hp hR
 go_enter func98,ntmps98
 go_wp2_with fail
 go_loopw [3] (fun v wr=>∃ (a:Nat) (acc:List UInt8),a≤b.size∧acc.length≤a∧OwnB wr w.heap.size v acc∧Rdr wr rb tv b a tn pv∧Xv (· = rb) w wr∧Hid (R=(rdEsc (leftL b a tn)).map fun x=>(acc++x.1,x.2))) (fun _ wr=>b.size-(intOf ((wr.cell? ⟨rb,2,none⟩).getD .nilIface)).toNat)
 case atStart=>exact⟨at_,[],hat,Nat.zero_le _,OwnB.nil _ _,HR0.out,Xv.refl _ _,zh (by rw[HRR.out];cases R<;>simp)⟩
 case round =>
  obtain⟨a,acc,ha,hal,hO,hR,hX,hrel⟩:=hrel
  have c2:wr.cell? ⟨rb,2,none⟩=some (.int .i64 (a:Int)):=hR.cell 2
  have hp:=HP.out.keep hX.size (fun k hk hp=>hX.block k hk hp) (fun _ _ e=>e)
  by_cases hlt:a<b.size
  · have H1:=zh (take1_yes rb tv b a tn pv wr hb hR hlt)
    have hcons:=leftL_cons tn hlt
    obtain⟨c,hc⟩:∃ c,fl tn b[a]=c:=⟨_,rfl⟩
    rw[hc] at H1 hcons
    rw[hcons] at hrel
    have HREL:=zh hrel.out
    have HOO:=zh hO
    have HXX:=zh hX
    have HPP:=zh hp
    clear hcons hc hrel hO hX hp hR
    by_cases hc0:c=0
    · subst hc0
      have q0:(((0:UInt8).toNat:Int)==0)=true:=rfl
      go_wp2_with fail
      refine H1.out.mono ?_
      rintro e w1 ⟨p1,rfl,⟨hp1,hpc⟩,hr1,hx1⟩
      have HXW:=zh (HXX.out.trans hx1 (fun _ _ e=>e))
      have hp1':=HPP.out.keep hx1.size (fun k hk hp=>hx1.block k hk hp) (fun _ _ e=>e)
      have HO1:=zh (OwnB_xv HOO.out hrl hx1)
      have hsz1:=HXW.out.size
      by_cases hlt2:a+1<b.size
      · have H2:=zh (take1_yes rb tv b (a+1) tn pv w1 hb hr1 hlt2)
        have hcons2:=leftL_cons tn hlt2
        obtain⟨d,hd⟩:∃ d,fl tn b[a+1]=d:=⟨_,rfl⟩
        rw[hd] at H2 hcons2
        rw[hcons2] at HREL
        have HP1:=zh hp1'
        clear hcons2 hd hr1 hx1 hp1'
        go_wp2_with fail
        refine H2.out.mono ?_
        rintro e w2 ⟨p2,rfl,⟨hp2,hpd⟩,hr2,hx2⟩
        have HXW2:=zh (HXW.out.trans hx2 (fun _ _ e=>e))
        have HO2:=zh (OwnB_xv HO1.out hrl hx2)
        have HP2:=zh (HP1.out.keep hx2.size (fun k hk hp=>hx2.block k hk hp) (fun _ _ e=>e))
        have HR2:=zh hr2
        have hsz2:=HXW2.out.size
        clear hr2 hx2
        by_cases hd1:d=1
        · subst hd1
          have q1:(((1:UInt8).toNat:Int)==1)=true:=rfl
          have hcv:=HO2.out.conv 99 9 underlying99 underlying5 underlying9
          go_wp2_with fail
          go_ret
          rw[HREL.out,rdEsc_end]
          exact⟨⟨by simp,a+2,by omega,rfl,HR2.out⟩,HXW2.out⟩
        · have q1:((d.toNat:Int)==1)=false:=by
           have:d.toNat≠1:=fun e=>hd1 (UInt8.toNat_inj.1 (by rw[e];rfl))
           simp;omega
          by_cases hd2:d=255
          · subst hd2
            have q2:(((255:UInt8).toNat:Int)==255)=true:=rfl
            have HN:=zh (rdEsc_zero (leftL b (a+1+1) tn))
            clear hd1
            go_wp2_with (at_builtin;refine wpList_append_bytes (W:=w2) rfl (.tmp 28) (.tmp 30) 99 rfl underlying99 We.keyInfo5 rfl (HO2.out.alloc _) _ [0] 1 _ rfl rfl (bv_cells_one _ 0 _) (by simp;omega) (zr.alloc hsz2 _) (by simp;omega) ?_;intro v5 w5 hO5 hB5 hs5)
            have hR5:Rdr w5 rb tv b (a+1+1) tn pv:=Blk.below HR2.out hB5 hrl
            have c5:w5.cell? ⟨rb,2,none⟩=some (.int .i64 ((a+1+1:Nat):Int)):=hR5.cell 2
            exact⟨⟨a+1+1,acc++[0],by omega,by simp;omega,hO5,hR5,Xv_low HXW2.out hB5,zh (by rw[HREL.out,HN.out];cases rdEsc (leftL b (a+1+1) tn)<;>simp)⟩,meas c2 c5 hlt (by omega)⟩
          · have q2:((d.toNat:Int)==255)=false:=by
             have:d.toNat≠255:=fun e=>hd2 (UInt8.toNat_inj.1 (by rw[e];rfl))
             simp;omega
            have hRn:R=none:=by rw[HREL.out,rdEsc_bad _ hd1 hd2];rfl
            have HF:=zh (fail_any rb tv b (a+1+1) tn pv lp 142 a (.iface 41 (.int .i64 10)) w2 HR2.out HP2.out hlp (.inr ⟨_,_,rfl⟩))
            clear hd1 hd2
            go_wp2_with fail
            refine HF.out.mono ?_
            rintro e w3 ⟨hf,hb3⟩
            obtain⟨fb,fc,fa,pv',lp',why,h1,rfl,h3,h4,h5,h6,h7⟩:=hf
            go_wp2_with fail
            rw[hRn]
            exact⟨rfl,⟨fb,fc,fa,pv',lp',why,Nat.le_trans hsz2 h1,rfl,h3,h4.mono fun k _ e=>e.imp id fun e=>Nat.lt_of_lt_of_le e hsz2,h5,⟨h6.1,Int.le_trans h6.2 (by omega)⟩,h7⟩,HXW2.out.then hb3⟩
      · have hRn:R=none:=by rw[HREL.out,leftL_end tn (show b.size≤a+1 by omega),rdEsc_short];rfl
        have HF:=zh (take1_no rb tv b (a+1) tn pv lp w1 hb hr1 hp1' hlp (by omega) hlt2)
        clear hr1 hx1 hp1'
        go_wp2_with fail
        refine HF.out.mono ?_
        rintro e w3 ⟨hf,hb3⟩
        obtain⟨ch,rfl⟩:=hf.form
        go_wp2_with fail
        rw[hRn]
        exact⟨rfl,hf.low hsz1,HXW.out.then hb3⟩
    · have q0:((c.toNat:Int)==0)=false:=by
       have:c.toNat≠0:=fun e=>hc0 (UInt8.toNat_inj.1 (by rw[e];rfl))
       simp;omega
      have HN:=zh (rdEsc_ne (leftL b (a+1) tn) hc0)
      clear hc0
      go_wp2_with fail
      refine H1.out.mono ?_
      rintro e w1 ⟨p1,rfl,⟨hp1,hpc⟩,hr1,hx1⟩
      have HR1:=zh hr1
      have HX1:=zh hx1
      have HO1:=zh (OwnB_xv HOO.out hrl hx1)
      have HXW:=zh (HXX.out.trans hx1 (fun _ _ e=>e))
      have hsz1:=HXW.out.size
      clear hr1 hx1
      go_wp2_with (at_builtin;refine wpList_append_bytes (W:=w1) rfl (.tmp 28) (.tmp 30) 99 rfl underlying99 We.keyInfo5 rfl (HO1.out.alloc _) _ [c] 1 _ rfl rfl (bv_cells_one _ c _) (by simp;omega) (zr.alloc hsz1 _) (by simp;omega) ?_;intro v5 w5 hO5 hB5 hs5)
      have hR5:Rdr w5 rb tv b (a+1) tn pv:=Blk.below HR1.out hB5 hrl
      have c5:w5.cell? ⟨rb,2,none⟩=some (.int .i64 ((a+1:Nat):Int)):=hR5.cell 2
      exact⟨⟨a+1,acc++[c],by omega,by simp;omega,hO5,hR5,Xv_low HXW.out hB5,zh (by rw[HREL.out,HN.out];cases rdEsc (leftL b (a+1) tn)<;>simp)⟩,meas c2 c5 hlt (by omega)⟩
  · have hRn:R=none:=by rw[hrel.out,leftL_end tn (by omega),rdEsc_nil];rfl
    have HF:=zh (take1_no rb tv b a tn pv lp wr hb hR hp hlp ha hlt)
    have HXX:=zh hX
    have hszr:=hX.size
    clear hrel hO hX hp hR
    go_wp2_with fail
    refine HF.out.mono ?_
    rintro e w3 ⟨hf,hb3⟩
    obtain⟨ch,rfl⟩:=hf.form
    go_wp2_with fail
    rw[hRn]
    exact⟨rfl,hf.low hszr,HXX.out.then hb3⟩
theorem lenNum_short {c:UInt8} (h:c=255∨c=1):lenNum [c]=none:=by simp[lenNum,h]
theorem lenNum_two {c:UInt8} (h:c=255∨c=1) (n:UInt8) (r:List UInt8):lenNum (c::n::r)=some (2+(if c=1 then 255-n.toNat else n.toNat)):=by simp[lenNum,h]
theorem lenNum_one {c:UInt8} (h:¬ (c=255∨c=1)) (r:List UInt8):lenNum (c::r)=some (1+(if 128≤c.toNat then c.toNat-128 else if 1<c.toNat then 128-c.toNat else 0)):=by simp only [lenNum,if_neg h]
def NumGot (f:Fd) (rb:Nat) (tv:Value) (b:ByteArray) (tn:Bool) (pv:Value) (L:List UInt8) (w:World) (e:Ending) (w':World):Prop :=
 (match rdNum f L with
  | some (p,l)=>e=.returned (.agg #[.bool p.neg,.string p.mag])∧∃ a,a≤b.size∧l=leftL b a tn∧Rdr w' rb tv b a tn pv
  | none=>Fails b.size w e w')∧Xv (· = rb) w w'
theorem NumGot.no {f:Fd} {rb:Nat} {tv:Value} {b:ByteArray} {tn:Bool} {pv:Value} {L:List UInt8} {w w':World} {e:Ending} (h:rdNum f L=none) (h2:Fails b.size w e w') (h3:Xv (· = rb) w w'):NumGot f rb tv b tn pv L w e w':=by
 unfold NumGot;rw[h];exact⟨h2,h3⟩
theorem NumGot.yes {f:Fd} {rb:Nat} {tv:Value} {b:ByteArray} {tn:Bool} {pv:Value} {L l m:List UInt8} {n:Bool} {p:ByteArray} {a:Nat} {w w':World} (h:rdNum f L=some (.mk 2 false n ⟨m.toArray⟩ .empty [],l)) (hp:(⟨m.toArray⟩:ByteArray)=p) (hl:l=leftL b a tn) (ha:a≤b.size)
 (hr:Rdr w' rb tv b a tn pv) (hx:Xv (· = rb) w w'):NumGot f rb tv b tn pv L w (.returned (.agg #[.bool n,.string p])) w':=by
 unfold NumGot;rw[h,hl];exact⟨⟨by rw[← hp];rfl,a,ha,rfl,hr⟩,hx⟩
theorem rdNum_none {f:Fd} {L:List UInt8} (h:lenNum L=none):rdNum f L=none:=by unfold rdNum;rw[h]
theorem take1_list (rb:Nat) (tv:Value) (b:ByteArray) (a:Nat) (tn:Bool) (pv:Value) (w:World) (hb:b.size≤4194304) (hr:Rdr w rb tv b a tn pv) (h:a<b.size) :
 Calls prog 66 #[.pointer (some ⟨rb,0,none⟩),.int .i64 1] w fun e w'=>∃ p:ByteArray,e=.returned (.string p)∧(∃ h:0<p.size,p[0]=fl tn b[a])∧Hid (p.toList=[fl tn b[a]])∧Rdr w' rb tv b (a+1) tn pv∧Xv (· = rb) w w':=by
 refine(rtake_ok rb tv b a 1 tn pv w hb hr (by omega)).mono fun e w' h2=>?_
 unfold TakePost at h2
 rw[if_pos (by omega),leftL_cons tn h] at h2
 exact⟨⟨#[fl tn b[a]]⟩,h2.1,⟨Nat.zero_lt_one,rfl⟩,zh (by rw[Lib.toList_data]),h2.2⟩
theorem leftL_drop (b:ByteArray) (a k:Nat) (tn:Bool):(leftL b a tn).drop k=leftL b (a+k) tn:=by
 unfold leftL flips
 rw[← List.map_drop,List.drop_drop]
theorem rdNum_at (f:Fd) {L:List UInt8} {n:Nat} (h:lenNum L=some n) (hn:n≤L.length):rdNum f L=match takeE (L.take n) 0 with
 | .error _=>none
 | .ok (b,m,k)=>if k=n∧inBnd f b m=true then some (.mk 2 false b ⟨m.toArray⟩ .empty [],L.drop n) else none:=by
 unfold rdNum
 simp only [h]
 rw[if_neg (by omega)]
 cases takeE (L.take n) 0<;>rfl
theorem rdNum_short (f:Fd) {L:List UInt8} {n:Nat} (h:lenNum L=some n) (hn:L.length<n):rdNum f L=none:=by
 unfold rdNum
 simp only [h]
 rw[if_pos hn]
theorem Fails.to {m k:Nat} {w w':World} {e:Ending} (h:Fails k w e w') (hk:k≤m):Fails m w e w':=by
 obtain⟨fb,c,a,pv,lp,why,h1,h2,h3,h4,h5,h6,h7⟩:=h
 exact⟨fb,c,a,pv,lp,why,h1,h2,h3,h4,h5,⟨h6.1,Int.le_trans h6.2 (by omega)⟩,h7⟩
theorem Rdr.keep4 {w w4:World} {rb a:Nat} {tv pv:Value} {b:ByteArray} {tn:Bool} (h:Rdr w rb tv b a tn pv) (hb:Below w.heap.size w w4) (o:Obj):Rdr (w4.alloc o) rb tv b a tn pv:=Blk.below h (hb.alloc hb.size o) h.lt
theorem _root_.Go.Proofs.YtcgnajeenflfaaaGreatDoor.IntsP.keep4 {w w4:World} {rb:Nat} {v:Value} {l:List Int} (h:IntsP w (· = rb) v l) (hb:Below w.heap.size w w4) (o:Obj):IntsP (w4.alloc o) (· = rb) v l :=
 h.keep (hb.alloc hb.size o).size (fun k hk _=>(hb.alloc hb.size o).block k hk) (fun _ _ e=>e)
theorem ba_app (p q:ByteArray):(p++q).toList=p.toList++q.toList:=by simp[Lib.toList_data]
theorem ba_get {p:ByteArray} {l:List UInt8} (h:p.toList=l) (i:Nat) (hi:i<l.length):∃ h:i<p.size,p[i]=l[i]:=by
 subst h
 have h2:i<p.size:=by rw[← V.size_of];exact hi
 refine⟨h2,?_⟩
 simp only [Lib.toList_data]
 rfl
theorem number_any (f:Fd) (a0:Option Addr) (k c0:Nat) (rb:Nat) (tv:Value) (b:ByteArray) (at_:Nat) (tn:Bool) (pv:Value) (lp:List Int) (w:World) (hf:f.kind=2) (ho:oddM f=false) (hb:b.size≤4194304) (hat:at_≤b.size) (hr:Rdr w rb tv b at_ tn pv) (hp:IntsP w (· = rb) pv lp) (hlp:lp.length≤17) :
 Calls prog 96 #[.pointer (some ⟨rb,0,none⟩),.agg (fcells f (.slice a0 k c0)).toArray] w (NumGot f rb tv b tn pv (leftL b at_ tn) w):=by
 obtain⟨L,hL⟩:∃ L,leftL b at_ tn=L:=⟨_,rfl⟩
 rw[hL]
 have HF:=zh (show f=f from rfl)
 obtain⟨nm,kd,dn,nu,bd,lb,lm,hib,hm,mo,⟨st,sh,bk⟩,fs⟩:=f
 rw[fcells_mk]
 obtain⟨f,hfe⟩:∃ f,Fd.mk nm kd dn nu bd lb lm hib hm mo ⟨st,sh,bk⟩ fs=f:=⟨_,rfl⟩
 rw[hfe]
 have HFE:=zh hfe
 rw[hfe] at hf ho
 have hrl:=hr.lt
 have hne1:rb≠w.heap.size:=by omega
 have hne2:rb≠w.heap.size+1:=by omega
 have HO:=zh ho
 have HKF:=zh hf
 generalize hW:(w.alloc (.cells #[.string nm,.int .u8 kd,.bool dn,.int .u8 nu,.bool bd,.bool lb,.string lm,.bool hib,.string hm,.int .i64 mo,.int .i64 st,.bool sh,.bool bk,.slice a0 k c0] 79)).alloc (.cells #[.bool false,.string ⟨#[]⟩] 54)=w0
 clear hfe hf ho HF
 subst hW
 have hXA:Xv (· = rb) w ((w.alloc (.cells #[.string nm,.int .u8 kd,.bool dn,.int .u8 nu,.bool bd,.bool lb,.string lm,.bool hib,.string hm,.int .i64 mo,.int .i64 st,.bool sh,.bool bk,.slice a0 k c0] 79)).alloc (.cells #[.bool false,.string ⟨#[]⟩] 54)):=((Xv.refl _ _).alloc _).alloc _
 have HFB:=zh (show Blk _ w.heap.size 79 _ from Blk.below (Blk.new w 79 #[.string nm,.int .u8 kd,.bool dn,.int .u8 nu,.bool bd,.bool lb,.string lm,.bool hib,.string hm,.int .i64 mo,.int .i64 st,.bool sh,.bool bk,.slice a0 k c0]) ((Below.refl _ (w.alloc (.cells #[.string nm,.int .u8 kd,.bool dn,.int .u8 nu,.bool bd,.bool lb,.string lm,.bool hib,.string hm,.int .i64 mo,.int .i64 st,.bool sh,.bool bk,.slice a0 k c0] 79))).alloc lr (.cells #[.bool false,.string ⟨#[]⟩] 54)) (by simp))
 have HRB:=zh (show Blk ((w.alloc (.cells #[.string nm,.int .u8 kd,.bool dn,.int .u8 nu,.bool bd,.bool lb,.string lm,.bool hib,.string hm,.int .i64 mo,.int .i64 st,.bool sh,.bool bk,.slice a0 k c0] 79)).alloc (.cells #[.bool false,.string ⟨#[]⟩] 54)) (w.heap.size+1) 54 #[.bool false,.string ⟨#[]⟩] by simpa using Blk.new (w.alloc (.cells #[.string nm,.int .u8 kd,.bool dn,.int .u8 nu,.bool bd,.bool lb,.string lm,.bool hib,.string hm,.int .i64 mo,.int .i64 st,.bool sh,.bool bk,.slice a0 k c0] 79)) 54 #[.bool false,.string ⟨#[]⟩])
 have HXA:=zh hXA
 have HR0:=zh (show Rdr _ rb tv b at_ tn pv from Blk.below hr ((zr.alloc lr (.cells #[.string nm,.int .u8 kd,.bool dn,.int .u8 nu,.bool bd,.bool lb,.string lm,.bool hib,.string hm,.int .i64 mo,.int .i64 st,.bool sh,.bool bk,.slice a0 k c0] 79)).alloc (by simp) (.cells #[.bool false,.string ⟨#[]⟩] 54)) hrl)
 have HP0:=zh (hp.keep hXA.size (fun k hk hp=>hXA.block k hk hp) (fun _ _ e=>e))
 have c2:w.cell? ⟨rb,2,none⟩=some (.int .i64 (at_:Int)):=hr.cell 2
 clear hr hp hXA
 by_cases hlt:at_<b.size
 case neg =>
  have hRn:=zh (show rdNum f L=none from rdNum_none (by rw[← hL,leftL_end tn (by omega)];rfl))
  have H1:=zh (take1_no rb tv b at_ tn pv lp _ hb HR0.out HP0.out hlp hat hlt)
  clear hL
  go_enter func96,ntmps96
  go_wp2_with fail
  refine H1.out.mono ?_
  rintro e w3 ⟨hf,hb3⟩
  obtain⟨ch,rfl⟩:=hf.form
  go_wp2_with fail
  exact⟨rfl,.no hRn.out (hf.low HXA.out.size) (HXA.out.then hb3)⟩
 obtain⟨c,hc⟩:∃ c,fl tn b[at_]=c:=⟨_,rfl⟩
 have H1:=zh (take1_list rb tv b at_ tn pv _ hb HR0.out hlt)
 rw[hc] at H1
 have HLC:=zh (show L=c::leftL b (at_+1) tn by rw[← hL,leftL_cons tn hlt,hc])
 have HLL:=zh (show L.length=b.size-at_ by rw[← hL,leftL_len])
 have HLB:=zh hL
 clear hc hL
 by_cases h2:c=255∨c=1
 case' pos =>
  by_cases hlt2:at_+1<b.size
  case neg =>
   have hRn:=zh (show rdNum f L=none from rdNum_none (by rw[HLC.out,leftL_end tn (by omega),lenNum_short h2]))
   rcases h2 with rfl | rfl
   all_goals
    go_enter func96,ntmps96
    go_wp2_with fail
    refine H1.out.mono ?_
    rintro e w1 ⟨p1,rfl,⟨hp1,hpc⟩,hpl1,hr1,hx1⟩
    have HX1:=zh (HXA.out.trans hx1 (fun _ _ e=>e))
    have HF:=zh (take1_no rb tv b (at_+1) tn pv lp w1 hb hr1 (HP0.out.keep hx1.size (fun k hk hp=>hx1.block k hk hp) (fun _ _ e=>e)) hlp (by omega) hlt2)
    clear hr1 hx1
    go_wp2_with fail
    refine HF.out.mono ?_
    rintro e w3 ⟨hf,hb3⟩
    obtain⟨ch,rfl⟩:=hf.form
    go_wp2_with fail
    exact⟨rfl,.no hRn.out (hf.low HX1.out.size) (HX1.out.then hb3)⟩
  obtain⟨d,hd⟩:∃ d,fl tn b[at_+1]=d:=⟨_,rfl⟩
  have HLC2:=zh (show leftL b (at_+1) tn=d::leftL b (at_+2) tn by rw[leftL_cons tn hlt2,hd])
  rcases h2 with rfl | rfl
  case' inl =>
   have HLN:=zh (lenNum_two (c:=255) (.inl rfl) d (leftL b (at_+2) tn))
   go_enter func96,ntmps96
   go_wp2_with fail
   refine H1.out.mono ?_
   rintro e w1 ⟨p1,rfl,⟨hp1,hpc⟩,hpl1,hr1,hx1⟩
   have HP1:=zh (HP0.out.keep hx1.size (fun k hk hp=>hx1.block k hk hp) (fun _ _ e=>e))
   have H2:=zh (take1_list rb tv b (at_+1) tn pv w1 hb hr1 hlt2)
   rw[hd] at H2
   have HY1:=zh hx1
   clear hr1 hx1 hd
   go_wp2_with fail
   refine H2.out.mono ?_
   rintro e w2 ⟨p2,rfl,⟨hp2,hpd⟩,hpl2,hr2,hx2⟩
   have HY2:=zh (HY1.out.trans hx2 (fun _ _ e=>e))
   have HP2:=zh (HP1.out.keep hx2.size (fun k hk hp=>hx2.block k hk hp) (fun _ _ e=>e))
   have HR2:=zh (show Rdr w2 rb tv b (at_+2) tn pv from hr2)
   obtain⟨S,hS⟩:∃ S,p1++p2=S:=⟨_,rfl⟩
   have HSL:=zh (show S.toList=[255,d] by rw[← hS,ba_app,hpl1.out,hpl2.out];rfl)
   have hsum:(9223372036854775807<p1.size+p2.size)=False:=by
    have z1:p1.size=1:=by rw[← V.size_of,hpl1.out];rfl
    have z2:p2.size=1:=by rw[← V.size_of,hpl2.out];rfl
    simp[z1,z2]
   obtain⟨hs1,hsd⟩:=ba_get HSL.out 1 (by simp)
   replace hsd:S[1]=d:=hsd
   have hwd:wrap64 (d.toNat:Int)=(d.toNat:Int):=by have:=d.toNat_lt;unfold wrap64;omega
   obtain⟨M,hM⟩:∃ M,d.toNat=M:=⟨_,rfl⟩
   have hM2:M≤255:=by have:=d.toNat_lt;omega
   have hwm:(d.toNat:Int)=(M:Int):=by rw[hM]
   replace HLN:=zh (show lenNum L=some (S.size+M) by rw[HLC.out,HLC2.out,HLN.out,← V.size_of,HSL.out,← hM];rfl)
   have HSP:=zh (show S.toList=L.take S.size by rw[← V.size_of,HSL.out,HLC.out,HLC2.out];rfl)
   have hsz:S.size=2:=by rw[← V.size_of,HSL.out];rfl
   obtain⟨a,ha⟩:∃ a,at_+2=a:=⟨_,rfl⟩
   have hab:a≤b.size:=by omega
   have HAS:=zh (show a=at_+S.size by omega)
   rw[ha] at HR2
   have HM:=zh hM
   have HT:=zh (rtake_any rb tv b a M tn pv lp w2 hb hab (by omega) HR2.out HP2.out hlp)
   clear hr2 hx2 hpl1 hpl2 hp1 hpc hp2 hpd hM hsz ha HLC2 HSL hlt2 H2
   go_wp2_with fail
  case' inr =>
   have HLN:=zh (lenNum_two (c:=1) (.inr rfl) d (leftL b (at_+2) tn))
   go_enter func96,ntmps96
   go_wp2_with fail
   refine H1.out.mono ?_
   rintro e w1 ⟨p1,rfl,⟨hp1,hpc⟩,hpl1,hr1,hx1⟩
   have HP1:=zh (HP0.out.keep hx1.size (fun k hk hp=>hx1.block k hk hp) (fun _ _ e=>e))
   have H2:=zh (take1_list rb tv b (at_+1) tn pv w1 hb hr1 hlt2)
   rw[hd] at H2
   have HY1:=zh hx1
   clear hr1 hx1 hd
   go_wp2_with fail
   refine H2.out.mono ?_
   rintro e w2 ⟨p2,rfl,⟨hp2,hpd⟩,hpl2,hr2,hx2⟩
   have HY2:=zh (HY1.out.trans hx2 (fun _ _ e=>e))
   have HP2:=zh (HP1.out.keep hx2.size (fun k hk hp=>hx2.block k hk hp) (fun _ _ e=>e))
   have HR2:=zh (show Rdr w2 rb tv b (at_+2) tn pv from hr2)
   obtain⟨S,hS⟩:∃ S,p1++p2=S:=⟨_,rfl⟩
   have HSL:=zh (show S.toList=[1,d] by rw[← hS,ba_app,hpl1.out,hpl2.out];rfl)
   have hsum:(9223372036854775807<p1.size+p2.size)=False:=by
    have z1:p1.size=1:=by rw[← V.size_of,hpl1.out];rfl
    have z2:p2.size=1:=by rw[← V.size_of,hpl2.out];rfl
    simp[z1,z2]
   obtain⟨hs1,hsd⟩:=ba_get HSL.out 1 (by simp)
   replace hsd:S[1]=d:=hsd
   have hwd:wrap64 (d.toNat:Int)=(d.toNat:Int):=by have:=d.toNat_lt;unfold wrap64;omega
   obtain⟨M,hM⟩:∃ M,255-d.toNat=M:=⟨_,rfl⟩
   have hM2:M≤255:=by have:=d.toNat_lt;omega
   have hwm:IntKind.i64.wrap (255-(d.toNat:Int))=(M:Int):=by rw[wrap_small _ (by have:=d.toNat_lt;omega) (by omega)];have:=d.toNat_lt;omega
   replace HLN:=zh (show lenNum L=some (S.size+M) by rw[HLC.out,HLC2.out,HLN.out,← V.size_of,HSL.out,← hM];rfl)
   have HSP:=zh (show S.toList=L.take S.size by rw[← V.size_of,HSL.out,HLC.out,HLC2.out];rfl)
   have hsz:S.size=2:=by rw[← V.size_of,HSL.out];rfl
   obtain⟨a,ha⟩:∃ a,at_+2=a:=⟨_,rfl⟩
   have hab:a≤b.size:=by omega
   have HAS:=zh (show a=at_+S.size by omega)
   rw[ha] at HR2
   have HM:=zh hM
   have HT:=zh (rtake_any rb tv b a M tn pv lp w2 hb hab (by omega) HR2.out HP2.out hlp)
   clear hr2 hx2 hpl1 hpl2 hp1 hpc hp2 hpd hM hsz ha HLC2 HSL hlt2 H2
   go_wp2_with fail
 case' neg =>
  have e1:((c.toNat:Int)==255)=false:=by
   have:c.toNat≠255:=fun e=>h2 (.inl (UInt8.toNat_inj.1 (by rw[e];rfl)))
   simp;omega
  have e2:((c.toNat:Int)==1)=false:=by
   have:c.toNat≠1:=fun e=>h2 (.inr (UInt8.toNat_inj.1 (by rw[e];rfl)))
   simp;omega
  have e3:wrap64 (c.toNat:Int)=(c.toNat:Int):=by have:=c.toNat_lt;unfold wrap64;omega
  have h2:=zh h2
  rcases Nat.lt_or_ge c.toNat 128 with h3 | h3
  case' inr =>
   have e4:decide ((128:Int)≤(c.toNat:Int))=true:=decide_eq_true (by omega)
   obtain⟨M,hM⟩:∃ M,c.toNat-128=M:=⟨_,rfl⟩
   have hM2:M≤255:=by have:=c.toNat_lt;omega
   have hwm:IntKind.i64.wrap ((c.toNat:Int)-128)=(M:Int):=by rw[wrap_small _ (by omega) (by omega)];omega
   have HLN:=zh (show lenNum L=some (1+M) by rw[HLC.out,lenNum_one h2.out,← hM];simp only [if_pos h3])
   have HM:=zh hM
   clear hM
   go_enter func96,ntmps96
   go_wp2_with fail
   refine H1.out.mono ?_
   rintro e w2 ⟨S,rfl,⟨hp1,hpc⟩,hpl1,hr1,hx1⟩
   have HP2:=zh (HP0.out.keep hx1.size (fun k hk hp=>hx1.block k hk hp) (fun _ _ e=>e))
   have HY2:=zh hx1
   have HSL:=hpl1
   have hsz:S.size=1:=by rw[← V.size_of,HSL.out];rfl
   replace HLN:=zh (show lenNum L=some (S.size+M) by rw[HLN.out,hsz])
   have HSP:=zh (show S.toList=L.take S.size by rw[hsz,HSL.out,HLC.out];rfl)
   obtain⟨a,ha⟩:∃ a,at_+1=a:=⟨_,rfl⟩
   have hab:a≤b.size:=by omega
   have HAS:=zh (show a=at_+S.size by omega)
   have HR2:=zh hr1
   rw[ha] at HR2
   have HT:=zh (rtake_any rb tv b a M tn pv lp w2 hb hab (by omega) HR2.out HP2.out hlp)
   clear hr1 hx1 hpl1 hsz ha HSL
   go_wp2_with fail
  case' inl =>
   rcases Nat.lt_or_ge 1 c.toNat with h4 | h4
   case' inl =>
    have e4:decide ((128:Int)≤(c.toNat:Int))=false:=decide_eq_false (by omega)
    have e5:decide ((1:Int)<(c.toNat:Int))=true:=decide_eq_true (by omega)
    obtain⟨M,hM⟩:∃ M,128-c.toNat=M:=⟨_,rfl⟩
    have hM2:M≤255:=by have:=c.toNat_lt;omega
    have hwm:IntKind.i64.wrap (128-(c.toNat:Int))=(M:Int):=by rw[wrap_small _ (by omega) (by omega)];omega
    have HLN:=zh (show lenNum L=some (1+M) by rw[HLC.out,lenNum_one h2.out,← hM];simp only [if_neg (show ¬ 128≤c.toNat by omega),if_pos h4])
    have HM:=zh hM
    clear hM
    go_enter func96,ntmps96
    go_wp2_with fail
    refine H1.out.mono ?_
    rintro e w2 ⟨S,rfl,⟨hp1,hpc⟩,hpl1,hr1,hx1⟩
    have HP2:=zh (HP0.out.keep hx1.size (fun k hk hp=>hx1.block k hk hp) (fun _ _ e=>e))
    have HY2:=zh hx1
    have HSL:=hpl1
    have hsz:S.size=1:=by rw[← V.size_of,HSL.out];rfl
    replace HLN:=zh (show lenNum L=some (S.size+M) by rw[HLN.out,hsz])
    have HSP:=zh (show S.toList=L.take S.size by rw[hsz,HSL.out,HLC.out];rfl)
    obtain⟨a,ha⟩:∃ a,at_+1=a:=⟨_,rfl⟩
    have hab:a≤b.size:=by omega
    have HAS:=zh (show a=at_+S.size by omega)
    have HR2:=zh hr1
    rw[ha] at HR2
    have HT:=zh (rtake_any rb tv b a M tn pv lp w2 hb hab (by omega) HR2.out HP2.out hlp)
    clear hr1 hx1 hpl1 hsz ha HSL
    go_wp2_with fail
   case' inr =>
    have e4:decide ((128:Int)≤(c.toNat:Int))=false:=decide_eq_false (by omega)
    have e5:decide ((1:Int)<(c.toNat:Int))=false:=decide_eq_false (by omega)
    obtain⟨M,hM⟩:∃ M,0=M:=⟨_,rfl⟩
    have hM2:M≤255:=by have:=c.toNat_lt;omega
    have hz:=zh (show Value.int IntKind.i64 (M:Int)=Value.int IntKind.i64 0 by rw[← hM];rfl)
    have HLN:=zh (show lenNum L=some (1+M) by rw[HLC.out,lenNum_one h2.out,← hM];simp only [if_neg (show ¬ 128≤c.toNat by omega),if_neg (show ¬ 1<c.toNat by omega)])
    have HM:=zh hM
    clear hM
    go_enter func96,ntmps96
    go_wp2_with fail
    refine H1.out.mono ?_
    rintro e w2 ⟨S,rfl,⟨hp1,hpc⟩,hpl1,hr1,hx1⟩
    have HP2:=zh (HP0.out.keep hx1.size (fun k hk hp=>hx1.block k hk hp) (fun _ _ e=>e))
    have HY2:=zh hx1
    have HSL:=hpl1
    have hsz:S.size=1:=by rw[← V.size_of,HSL.out];rfl
    replace HLN:=zh (show lenNum L=some (S.size+M) by rw[HLN.out,hsz])
    have HSP:=zh (show S.toList=L.take S.size by rw[hsz,HSL.out,HLC.out];rfl)
    obtain⟨a,ha⟩:∃ a,at_+1=a:=⟨_,rfl⟩
    have hab:a≤b.size:=by omega
    have HAS:=zh (show a=at_+S.size by omega)
    have HR2:=zh hr1
    rw[ha] at HR2
    have HT:=zh (rtake_any rb tv b a M tn pv lp w2 hb hab (by omega) HR2.out HP2.out hlp)
    rw[hz.out] at HT
    clear hr1 hx1 hpl1 hsz ha HSL
    go_wp2_with fail
 all_goals
  refine HT.out.mono ?_
  intro e w3 h3
  unfold TakePost at h3
  have hLs:=HLL.out
  have hSz:=HAS.out
  by_cases hle:a+M≤b.size
  · rw[if_pos hle] at h3
    obtain⟨rfl,hr3,hx3⟩:=h3
    obtain⟨q,hq⟩:∃ q:ByteArray,⟨((leftL b a tn).take M).toArray⟩=q:=⟨_,rfl⟩
    rw[hq]
    have hql:q.toList=(L.drop S.size).take M:=by
     rw[← hq,toList_mk,← HLB.out,leftL_drop,← hSz]
    obtain⟨U,hU⟩:∃ U,S++q=U:=⟨_,rfl⟩
    have hUL:U.toList=L.take (S.size+M):=by rw[← hU,ba_app,hql,HSP.out,List.take_add]
    have hUS:U.size=S.size+M:=by rw[← V.size_of,hUL,List.length_take];omega
    have hqs:q.size=M:=by rw[← V.size_of,hql,List.length_take,List.length_drop];omega
    have hsum2:(9223372036854775807<S.size+q.size)=False:=by simp;omega
    have HUL:=zh hUL
    have HLN2:=zh (rdNum_at f HLN.out (show S.size+M≤L.length by omega))
    have HLE:=zh hle
    have HY3:=zh (HY2.out.trans hx3 (fun _ _ e=>e))
    have HP3:=zh (HP2.out.keep hx3.size (fun k hk hp=>hx3.block k hk hp) (fun _ _ e=>e))
    have HR3:=zh hr3
    have HUS:=zh hUS
    have HTK:=zh (take_at U 0 w3 (by omega) (Nat.zero_le _))
    clear hq hql hUL hqs hr3 hx3 hUS hLs hSz HT hle
    go_wp2_with fail
    refine HTK.out.mono ?_
    intro e w4 h4
    unfold YtcgnajeenflfaaaGreatDoor.TakePost at h4
    rw[HUL.out] at h4
    have HRD:=HLN2
    have hle:=HLE.out
    cases htk:takeE (L.take (S.size+M)) 0 with
    | error p =>
     rw[htk] at h4 HRD
     obtain⟨rfl,hb4⟩:=h4
     have HF:=zh (fail_any rb tv b (a+M) tn pv lp 143 at_ (.iface 41 (.int .i64 20)) (w4.alloc (.cells #[.bool false,.string ⟨#[]⟩] 54)) (HR3.out.keep4 hb4 _) (HP3.out.keep4 hb4 _) hlp (.inr ⟨_,_,rfl⟩))
     have HX4:=zh ((HXA.out.trans (HY3.out.then hb4) (fun _ _ e=>e)).alloc (.cells #[.bool false,.string ⟨#[]⟩] 54))
     clear hb4
     go_wp2_with fail
     refine HF.out.mono ?_
     rintro e w5 ⟨hf,hb5⟩
     obtain⟨ch,rfl⟩:=hf.form
     go_wp2_with fail
     exact⟨rfl,.no HRD.out ((hf.low HX4.out.size).to (by omega)) (HX4.out.then hb5)⟩
    | ok x =>
     obtain⟨b',m,n⟩:=x
     rw[htk] at h4 HRD
     obtain⟨p,rfl,hpm,hb4⟩:=h4
     have HCH:=zh (takeE_reads htk).1
     rw[← hpm.out] at HCH
     have HX4:=zh ((HXA.out.trans (HY3.out.then hb4) (fun _ _ e=>e)).alloc (.cells #[.bool b',.string p] 54))
     have HR4:=zh (HR3.out.keep4 hb4 (.cells #[.bool b',.string p] 54))
     have HP4:=zh (HP3.out.keep4 hb4 (.cells #[.bool b',.string p] 54))
     by_cases hk:n=S.size+M
     case neg =>
      have q1:((n:Int) != (U.size:Int))=true:=by have:=HUS.out;simp;omega
      have HF:=zh (fail_any rb tv b (a+M) tn pv lp 143 at_ (.iface 41 (.int .i64 20)) _ HR4.out HP4.out hlp (.inr ⟨_,_,rfl⟩))
      have HNO:=zh (show rdNum f L=none by rw[HRD.out];exact if_neg (fun h=>hk h.1))
      clear hb4 hk HRD hpm
      go_wp2_with fail
      refine HF.out.mono ?_
      rintro e w5 ⟨hf,hb5⟩
      obtain⟨ch,rfl⟩:=hf.form
      go_wp2_with fail
      exact⟨rfl,.no HNO.out ((hf.low HX4.out.size).to (by omega)) (HX4.out.then hb5)⟩
     have q1:((n:Int) != (U.size:Int))=false:=by have:=HUS.out;simp;omega
     have HK:=zh hk
     have hsz4:=HX4.out.size
     have hb4a:=hb4.alloc hb4.size (.cells #[.bool b',.string p] 54)
     have hfb:Blk (w4.alloc (.cells #[.bool b',.string p] 54)) w.heap.size 79 #[.string nm,.int .u8 kd,.bool dn,.int .u8 nu,.bool bd,.bool lb,.string lm,.bool hib,.string hm,.int .i64 mo,.int .i64 st,.bool sh,.bool bk,.slice a0 k c0]:=Blk.below (HY3.out.blk (fun e=>hne1 e.symm) HFB.out) hb4a (Nat.lt_of_lt_of_le HFB.out.lt HY3.out.size)
     have hrb:Blk (w4.alloc (.cells #[.bool b',.string p] 54)) (w.heap.size+1) 54 #[.bool false,.string ⟨#[]⟩]:=Blk.below (HY3.out.blk (fun e=>hne2 e.symm) HRB.out) hb4a (Nat.lt_of_lt_of_le HRB.out.lt HY3.out.size)
     have hnb:Blk (w4.alloc (.cells #[.bool b',.string p] 54)) w4.heap.size 54 #[.bool b',.string p]:=Blk.new _ _ _
     have HFB4:=zh hfb
     have HRB4:=zh hrb
     have HNB4:=zh hnb
     have c4:=HFB4.out.cell 4
     have c5:=HFB4.out.cell 5
     have c6:=HFB4.out.cell 6
     have c7:=HFB4.out.cell 7
     have c8:=HFB4.out.cell 8
     have n0:=HNB4.out.cell 0
     have n1:=HNB4.out.cell 1
     have hnum:=odd_num HO.out HKF.out
     rw[← HFE.out] at hnum
     obtain⟨r1,hr1⟩:∃ r,ncmp b' p.toList lb lm.toList=r:=⟨_,rfl⟩
     obtain⟨r2,hr2⟩:∃ r,ncmp b' p.toList hib hm.toList=r:=⟨_,rfl⟩
     have H5:=zh (fun w=>compare_ok b' p lb lm w HCH.out hnum.1 r1 hr1)
     have H6:=zh (fun w=>compare_ok b' p hib hm w HCH.out hnum.2 r2 hr2)
     have HIB:=zh (show inBnd f b' m=(!bd || (decide (0≤r1)&&decide (r2≤0))) by rw[← HFE.out,← hr1,← hr2,hpm.out];rfl)
     clear hb4 hb4a hfb hrb hnb hk hnum hr1 hr2
     go_wp2_with fail
     refine(H5.out _).mono ?_
     rintro e w5 ⟨rfl,hb5⟩
     have HFB5:=zh (HFB4.out.below hb5 HFB4.out.lt)
     have HRB5:=zh (HRB4.out.below hb5 HRB4.out.lt)
     have HNB5:=zh (HNB4.out.below hb5 HNB4.out.lt)
     have HX5:=zh (HX4.out.then hb5)
     have HR5:=zh (show Rdr w5 rb tv b (a+M) tn pv from Blk.below HR4.out hb5 HR4.out.lt)
     have HP5:=zh (HP4.out.keep hb5.size (fun k hk _=>hb5.block k hk) (fun _ _ e=>e))
     have hsz5:=hb5.size
     simp only [World.size_alloc] at hsz5
     have hsz5':=HX5.out.size
     clear hb5 c4 c5 c6 c7 c8 n0 n1
     have c4:=HFB5.out.cell 4
     have c7:=HFB5.out.cell 7
     have c8:=HFB5.out.cell 8
     have n0:=HNB5.out.cell 0
     have n1:=HNB5.out.cell 1
     go_wp2_with fail
     refine(H6.out _).mono ?_
     rintro e w6 ⟨rfl,hb6⟩
     have HFB6:=zh (HFB5.out.below hb6 HFB5.out.lt)
     have HRB6:=zh (HRB5.out.below hb6 HRB5.out.lt)
     have HNB6:=zh (HNB5.out.below hb6 HNB5.out.lt)
     have HX6:=zh (HX5.out.then hb6)
     have HR6:=zh (show Rdr w6 rb tv b (a+M) tn pv from Blk.below HR5.out hb6 HR5.out.lt)
     have HP6:=zh (HP5.out.keep hb6.size (fun k hk _=>hb6.block k hk) (fun _ _ e=>e))
     have hsz6:=hb6.size
     have hsz6':=HX6.out.size
     have HFA:=zh (fail_any rb tv b (a+M) tn pv lp 123 at_ .nilIface w6 HR6.out HP6.out hlp (.inl rfl))
     clear hb6 c4 c7 c8 n0 n1
     have c4:=HFB6.out.cell 4
     have n0:=HNB6.out.cell 0
     have n1:=HNB6.out.cell 1
     have z0:=HRB6.out.frozen 0
     have z1:=HRB6.out.frozen 1
     have y0:=HRB6.out.cell 0
     have y1:=HRB6.out.cell 1
     cases hin:inBnd f b' m with
     | false =>
      have HNO:=zh (show rdNum f L=none by rw[HRD.out];exact if_neg (fun h=>by rw[hin] at h;exact absurd h.2 (by decide)))
      rw[hin] at HIB
      obtain⟨rfl,hrr⟩:bd=true∧(r1<0∨0<r2):=by
       have h:=HIB.out
       cases bd with
       | false=>simp at h
       | true =>
        refine⟨rfl,?_⟩
        by_cases g1:r1<0
        · exact .inl g1
        · by_cases g2:0<r2
          · exact .inr g2
          · rw[decide_eq_true (show 0≤r1 by omega),decide_eq_true (show r2≤0 by omega)] at h;cases h
      by_cases g1:r1<0
      · have e1:decide (r1<0)=true:=decide_eq_true g1
        clear g1 hrr
        go_wp2_with fail
        refine HFA.out.mono ?_
        rintro e w7 ⟨hf,hb7⟩
        obtain⟨ch,rfl⟩:=hf.form
        go_wp2_with fail
        exact⟨rfl,.no HNO.out ((hf.low HX6.out.size).to (by omega)) (HX6.out.then hb7)⟩
      · have e1:decide (r1<0)=false:=decide_eq_false g1
        have e2:decide (0<r2)=true:=decide_eq_true (by omega)
        clear g1 hrr
        go_wp2_with fail
        refine HFA.out.mono ?_
        rintro e w7 ⟨hf,hb7⟩
        obtain⟨ch,rfl⟩:=hf.form
        go_wp2_with fail
        exact⟨rfl,.no HNO.out ((hf.low HX6.out.size).to (by omega)) (HX6.out.then hb7)⟩
     | true =>
      have HYES:=zh (show rdNum f L=some (.mk 2 false b' ⟨m.toArray⟩ .empty [],L.drop (S.size+M)) by rw[HRD.out];exact if_pos ⟨HK.out,hin⟩)
      have HPM:=zh (show (⟨m.toArray⟩:ByteArray)=p by rw[← hpm.out];exact mk_toList p)
      have HDR:=zh (show L.drop (S.size+M)=leftL b (a+M) tn by rw[← HLB.out,leftL_drop,HAS.out,Nat.add_assoc])
      rw[hin] at HIB
      cases bd with
      | false =>
       go_wp2_with fail
       refine bodyPost_ret (v:=.agg #[.bool b',.string p]) (by simp[results,Tryz.f96,go_sem,y0,y1]) rfl ?_
       refine .yes HYES.out HPM.out HDR.out HLE.out ?_ ?_
       · exact(Below.heap_setCell _ _ _ _ hne2).trans ((Below.heap_setCell _ _ _ _ hne2).trans HR6.out)
       · exact(HX6.out.set_ (fun h=>absurd h (by omega)) _ _).set_ (fun h=>absurd h (by omega)) _ _
      | true =>
       have e1:decide (r1<0)=false:=by
        have h:=HIB.out
        apply decide_eq_false
        intro g
        rw[decide_eq_false (show ¬ 0≤r1 by omega)] at h;cases h
       have e2:decide (0<r2)=false:=by
        have h:=HIB.out
        apply decide_eq_false
        intro g
        rw[decide_eq_false (show ¬ r2≤0 by omega),Bool.and_false] at h;cases h
       go_wp2_with fail
       refine bodyPost_ret (v:=.agg #[.bool b',.string p]) (by simp[results,Tryz.f96,go_sem,y0,y1]) rfl ?_
       refine .yes HYES.out HPM.out HDR.out HLE.out ?_ ?_
       · exact(Below.heap_setCell _ _ _ _ hne2).trans ((Below.heap_setCell _ _ _ _ hne2).trans HR6.out)
       · exact(HX6.out.set_ (fun h=>absurd h (by omega)) _ _).set_ (fun h=>absurd h (by omega)) _ _
  · rw[if_neg hle] at h3
    obtain⟨hf,hb3⟩:=h3
    obtain⟨ch,rfl⟩:=hf.form
    have HRD:=zh (rdNum_short f HLN.out (by omega))
    have HX4:=zh (HXA.out.trans HY2.out (fun _ _ e=>e))
    go_wp2_with fail
    exact⟨rfl,.no HRD.out (hf.low HX4.out.size) (HX4.out.then hb3)⟩
