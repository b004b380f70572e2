import Derived.StillTailTactics
import Derived.Test.YtcgnajeenflfaaaGreatDoorP32
import Derived.Test.YtcgnajeenflfaaaGreatDoorP34
set_option maxRecDepth 100000
set_option maxHeartbeats 4000000
set_option linter.all false
open Go.Proofs.Tryz Go.RowKit
namespace Go.Proofs.YtcgnajeenflfaaaGreatDoor
namespace Sc
open V (Same Pt VI aL bE)
def gB (w:World) (rb:Nat) (tv:Value) (b:ByteArray) (at_:Nat) (tn:Bool) (pv:Value):Prop:=aC w rb 111 #[tv,.string b,.int .i64 (at_:Int),.int .u8 (if tn then 255 else 0),pv]
def Fails (m:Nat) (w:World) (e:Ending) (w':World):Prop :=
 ∃ fb c at_ pv lp why,w.heap.size≤fb∧e=.panicked [{ v:=.iface 39 (.pointer (some ⟨fb,0,none⟩)),recovered:=false }]∧aC w' fb 44 #[.int .i64 c,.int .i64 at_,pv,why]∧aH w' (fun k=>k=fb∨k<w.heap.size) pv lp∧lp.length≤17∧(0≤at_∧at_≤m)∧(why=.nilIface∨∃ T V,why=.iface T V)
theorem eO (rb:Nat) (tv:Value) (b:ByteArray) (at_:Nat) (tn:Bool) (pv:Value) (lp:List Int) (c:Int) (k:Nat) (why:Value) (w:World) (hr:gB w rb tv b at_ tn pv) (hp:aH w (· = rb) pv lp) (hlp:lp.length≤17) (aNy:why=.nilIface∨∃ T V,why=.iface T V) :
 Calls prog 69 #[.pointer (some ⟨rb,0,none⟩),.int .i64 c,.int .i64 (k:Int),why] w fun e w'=>Fails k w e w'∧Below w.heap.size w w':=by
 have c4:w.cell? ⟨rb,4,none⟩=some pv:=hr.cell 4;have HP:=zh hp;have HLP:=zh hlp;obtain⟨pa,pc,rfl,_⟩:=hp.form;clear hr hp hlp;rcases aNy with rfl | ⟨U,V,rfl⟩
 all_goals
  go_enter func69,ntmps69;go_wp2_with fail;refine(mJ (.slice pa lp.length pc) lp w 0 w.heap.size HP.out.reads lr (by have:=HLP.out;omega)).mono ?_;rintro e w1 ⟨u,rfl,hO,hb1⟩;obtain⟨ua,uc,rfl,hu3,hu4⟩:=hO.reads.form;have HO:=zh hO;have HB:=zh hb1;clear hO hb1 hu3 hu4;go_wp2_with fail;refine⟨rfl,⟨w1.heap.size,c,(k:Int),.slice ua lp.length uc,lp,_,HB.out.size,rfl,aC.new _ _ _,?_,HLP.out,⟨Int.natCast_nonneg k,Int.le_refl _⟩,by first | exact .inl rfl | exact .inr ⟨_,_,rfl⟩⟩,HB.out.alloc HB.out.size _⟩;exact aH.keep (bad:=fun k=>k=w1.heap.size∨k<w.heap.size) (aH.of (aJ.reads HO.out) lr (fun k _ h2 e=>by omega)) (by simp) (fun k hk _=>by rw[Below.heap_alloc _ _ _ hk]) (fun _ _ e=>e)
def aK (b:ByteArray) (at_:Nat) (tn:Bool):List UInt8:=flips tn (b.toList.drop at_)
theorem zD {b:ByteArray} {at_:Nat} {tn:Bool}:(aK b at_ tn).length=b.size-at_:=by
 unfold aK;rw[tQ,List.length_drop,V.aD]
def vN (tn:Bool) (l:List UInt8) (k:Nat):List UInt8:=(l.take k).map (fl tn)++l.drop k
theorem aUa (tn:Bool) (l:List UInt8):vN tn l 0=l:=by simp[vN]
theorem aLa (tn:Bool) (l:List UInt8) (k:Nat) (h:k≤l.length):(vN tn l k).length=l.length:=by simp[vN];omega
theorem aZf (tn:Bool) (l:List UInt8) (k:Nat) (h:l.length≤k):vN tn l k=l.map (fl tn):=by simp[vN,List.take_of_length_le h,List.drop_of_length_le h]
theorem aZg (tn:Bool) (l:List UInt8) (k:Nat) (h:k<l.length) (h2:k<(vN tn l k).length):(vN tn l k)[k]=l[k]:=by
 simp only [vN];rw[List.getElem_append_right (by simp;omega)];simp[List.length_take,Nat.min_eq_left (Nat.le_of_lt h)]
theorem aZh (tn:Bool) (l:List UInt8) (k:Nat) (h:k<l.length):(vN tn l k).set k (fl tn l[k])=vN tn l (k+1):=by
 unfold vN;rw[List.set_append,if_neg (by simp;omega),List.length_map,List.length_take,Nat.min_eq_left (Nat.le_of_lt h),Nat.sub_self,List.drop_eq_getElem_cons h,List.set_cons_zero,List.take_succ_eq_append_getElem h,List.map_append,List.append_assoc];rfl
def uM (w:World) (B:Nat) (l:List UInt8):Prop:=∃ cs fz,w.heap[B]?=some (.cells cs 5 fz)∧l.length≤fz.1∧∀ j (h:j<l.length),cs[j]?=some (.int .u8 (l[j].toNat:Int))
theorem uM.lt {w:World} {B:Nat} {l:List UInt8} (h:uM w B l):B<w.heap.size:=by
 obtain⟨cs,fz,h,_⟩:=h;exact(Array.getElem?_eq_some_iff.1 h).1
theorem uM.cell {w:World} {B:Nat} {l:List UInt8} (h:uM w B l) (j:Nat) (hj:j<l.length):w.cell? ⟨B,j,none⟩=some (.int .u8 (l[j].toNat:Int)):=by
 obtain⟨cs,fz,h1,_,h3⟩:=h;rw[cell_of_row w B j cs 5 fz h1];exact h3 j hj
theorem uM.frozen {w:World} {B:Nat} {l:List UInt8} (h:uM w B l) (j:Nat) (hj:j<l.length):w.frozen? ⟨B,j,none⟩=false:=by
 obtain⟨cs,fz,h1,h2,_⟩:=h;simp[World.frozen?,h1];omega
theorem uM.aU {w:World} {B:Nat} {l:List UInt8} (h:uM w B l) (k:Nat) (hk:k<l.length) (c:UInt8):uM (w.setCell ⟨B,k,none⟩ (.int .u8 (c.toNat:Int))) B (l.set k c):=by
 obtain⟨cs,fz,h1,h2,h3⟩:=h;refine⟨cs.setIfInBounds k (.int .u8 (c.toNat:Int)),fz,by simp[World.setCell,Array.getElem?_modify,h1],by simpa using h2,fun j hj=>?_⟩;rw[List.length_set] at hj;have hcs:k<cs.size:=(Array.getElem?_eq_some_iff.1 (h3 k hk)).1;by_cases he:k=j
 · subst he;simp[hcs]
 · rw[Array.getElem?_setIfInBounds_ne he,h3 j hj,List.getElem_set_ne he]
theorem uM.new (w:World) (s:ByteArray):uM (Lib.bytesWorld w 5 s) w.heap.size s.toList:=by
 refine⟨_,_,Lib.bytesWorld_at_new w 5 s,?_,fun j hj=>?_⟩
 · rw[V.aD];simp[Lib.bytesCells]
 · have hj2:j<s.size:=by rw[← V.aD];exact hj
   rw[← cell_of_row _ _ j _ 5 _ (Lib.bytesWorld_at_new w 5 s),Lib.bytesWorld_cell w 5 s j hj2];congr 3
   simp only [Lib.toList_data];rw[List.getD_eq_getElem?_getD,List.getElem?_eq_getElem (by simpa using hj2)];rfl
theorem addr_add (B j:Nat):(⟨B,0,none⟩:Addr).add j=⟨B,j,none⟩:=by cases j<;>simp[Addr.add]
theorem uM.other {w:World} {B g i:Nat} {v:Value} {l:List UInt8} (h:uM w B l) (hne:B≠g):uM (w.setCell ⟨g,i,none⟩ v) B l:=by
 obtain⟨cs,fz,h1,h2,h3⟩:=h;exact⟨cs,fz,(Below.heap_setCell _ _ _ _ hne).trans h1,h2,h3⟩
theorem wrap_small (n:Int) (h0:0≤n) (h1:n≤9223372036854775807):IntKind.i64.wrap n=n:=by
 simp[IntKind.wrap,IntKind.signed,IntKind.bits];omega
def bZ (rb:Nat) (tv:Value) (b:ByteArray) (at_ n:Nat) (tn:Bool) (pv:Value) (w:World) (e:Ending) (w':World):Prop :=
 if at_+n≤b.size then e=.returned (.string ⟨((aK b at_ tn).take n).toArray⟩)∧gB w' rb tv b (at_+n) tn pv∧Xv (· = rb) w w' else Fails b.size w e w'∧Below w.heap.size w w'
theorem aLb (rb:Nat) (tv:Value) (b:ByteArray) (at_ n:Nat) (tn:Bool) (pv:Value) (lp:List Int) (w:World) (hb:b.size≤4194304) (hat:at_≤b.size) (hn:n≤65536) (hr:gB w rb tv b at_ tn pv) (hp:aH w (· = rb) pv lp) (hlp:lp.length≤17) (h:¬ at_+n≤b.size) :
 Calls prog 66 #[.pointer (some ⟨rb,0,none⟩),.int .i64 (n:Int)] w (bZ rb tv b at_ n tn pv w):=by
 refine Calls.mono (R:=fun e w'=>Fails b.size w e w'∧Below w.heap.size w w') ?_ (fun e w' h2=>by unfold bZ;rw[if_neg h];exact h2);have c1:w.cell? ⟨rb,1,none⟩=some (.string b):=hr.cell 1;have c2:w.cell? ⟨rb,2,none⟩=some (.int .i64 (at_:Int)):=hr.cell 2;have q1:decide ((b.size:Int)-(at_:Int)<(n:Int))=true:=decide_eq_true (by omega);have HFA:=zh (fun nq=>eO rb tv b at_ tn pv lp 140 b.size .nilIface (w.drewN nq) hr hp hlp (.inl rfl));clear hr hp h;go_enter func66,ntmps66;go_wp2_with fail;go_quiet (fail);go_wp2_with fail;refine(HFA.out _).mono ?_;rintro e w1 ⟨⟨fb,fc,fa,pv',lp',why,h1,rfl,h3⟩,hb1⟩;exact⟨rfl,⟨fb,fc,fa,pv',lp',why,h1,rfl,h3⟩,⟨hb1.os,hb1.tape,hb1.output,hb1.size,hb1.block⟩⟩
theorem aCs {P:UInt8→Prop} (h:∀ i:Fin 256,P (UInt8.ofNat i.val)) (c:UInt8):P c:=by
 have:=h ⟨c.toNat,c.toNat_lt⟩;simpa using this
theorem bDk (c:UInt8):bits .xor .u8 (c.toNat:Int) 255=((fl true c).toNat:Int):=aCs (P:=fun c=>bits .xor .u8 (c.toNat:Int) 255=((fl true c).toNat:Int)) (by decide +kernel) c
theorem bLc (c:UInt8):bits .xor .u8 (c.toNat:Int) 0=((fl false c).toNat:Int):=aCs (P:=fun c=>bits .xor .u8 (c.toNat:Int) 0=((fl false c).toNat:Int)) (by decide +kernel) c
theorem aCt (rb:Nat) (tv:Value) (b:ByteArray) (at_ n:Nat) (tn:Bool) (pv:Value) (w:World) (hb:b.size≤4194304) (hr:gB w rb tv b at_ tn pv) (h:at_+n≤b.size) :
 Calls prog 66 #[.pointer (some ⟨rb,0,none⟩),.int .i64 (n:Int)] w (bZ rb tv b at_ n tn pv w):=by
 refine Calls.mono (R:=fun e w'=>e=.returned (.string ⟨((aK b at_ tn).take n).toArray⟩)∧gB w' rb tv b (at_+n) tn pv∧Xv (· = rb) w w') ?_ (fun e w' h2=>by unfold bZ;rw[if_pos h];exact h2);have c1:w.cell? ⟨rb,1,none⟩=some (.string b):=hr.cell 1;have c2:w.cell? ⟨rb,2,none⟩=some (.int .i64 (at_:Int)):=hr.cell 2;have q1:decide ((b.size:Int)-(at_:Int)<(n:Int))=false:=decide_eq_false (by omega);have HR:=zh hr;have hrl:=hr.lt;have g1:(at_:Int)≤(at_:Int)+(n:Int):=by omega
 have g2:(at_:Int)+(n:Int)≤(b.size:Int):=by omega
 have hwr:IntKind.i64.wrap ((at_:Int)+(n:Int))=((at_+n:Nat):Int):=by
  rw[wrap_small _ (by omega) (by omega)];omega
 obtain⟨sub,hsub⟩:∃ sub,b.extract at_ (at_+n)=sub:=⟨_,rfl⟩
 have hcv:∀ w:World,(convert 9 99 (.string sub)).run prog w=.ok (.slice (some ⟨w.heap.size,0,none⟩) sub.size (grownCap w sub.size 0 5)) (Lib.bytesWorld w 5 sub):=fun w=>Lib.run_convert_string_bytes w 9 99 5 sub underlying9 underlying99 underlying5
 clear hr;go_enter func66,ntmps66;go_wp2_with fail;go_quiet (fail);go_wp2_with fail;go_region;have hNW:(w.drewN (nq+1)).heap.size=w.heap.size:=rfl;have hS:=uM.new (w.drewN (nq+1)) sub;rw[hNW] at hS;have hX:Xv (· = rb) w (Lib.bytesWorld (w.drewN (nq+1)) 5 sub):=⟨rfl,rfl,rfl,by rw[Lib.bytesWorld_size];exact Nat.le_succ _,fun k hk _=>Lib.bytesWorld_at_old _ _ _ k hk⟩
 have hRd:gB (Lib.bytesWorld (w.drewN (nq+1)) 5 sub) rb tv b at_ tn pv:=(Lib.bytesWorld_at_old (w.drewN (nq+1)) 5 sub rb hrl).trans HR.out;generalize hgc:grownCap (w.drewN (nq+1)) sub.size 0 5=bLd;generalize Lib.bytesWorld (w.drewN (nq+1)) 5 sub=w3 at hS hX hRd;clear hNW hcv;have hsl:sub.toList=(b.toList.drop at_).take n:=by
  rw[← hsub,Lib.toList_data,Lib.toList_data];simp[ByteArray.extract,ByteArray.copySlice]
 have hsz:sub.size=n:=by
  rw[← V.aD,hsl,List.length_take,List.length_drop,V.aD];omega
 rw[hsz];have HX:=zh hX;have HRd:=zh hRd;have HS:=zh hS;clear hX hRd hS hgc c1 c2 g1 g2 hwr hsub;go_wp2_with fail;go_loopw [6,44] (fun _ iv wr=>∃ k:Nat,k≤n∧iv=.int .i64 (k:Int)∧uM wr w.heap.size (vN tn sub.toList k)∧gB wr rb tv b at_ tn pv∧Xv (· = rb) w wr) (fun _ iv _=>n-(intOf iv).toNat)
 case atStart=>exact⟨0,Nat.zero_le _,rfl,by rw[aUa];exact HS.out,HRd.out,HX.out⟩
 case round =>
  obtain⟨k,hk,rfl,hS,hR,hX⟩:=hrel;have hlen:sub.toList.length=n:=by rw[V.aD,hsz]
  have hfl:(vN tn sub.toList k).length=n:=by rw[aLa _ _ _ (by omega),hlen]
  by_cases hlt:k<n
  · have q2:decide ((k:Int)<(n:Int))=true:=decide_eq_true (by omega);have d0:=hS.cell k (by omega);rw[aZg tn sub.toList k (by omega)] at d0;have d1:=hS.frozen k (by omega);have d3:wr.cell? ⟨rb,3,none⟩=some (.int .u8 (if tn then 255 else 0)):=hR.cell 3;have hst:=hS.aU k (by omega) (fl tn (sub.toList[k]'(by omega)));rw[aZh tn sub.toList k (by omega)] at hst;obtain⟨ch,hch⟩:∃ ch,sub.toList[k]'(by omega)=ch:=⟨_,rfl⟩
    rw[hch] at d0 hst;have HST:=zh hst;have HR3:=zh hR;have uD:=zh hX;have hBl:=hS.lt;clear hst hS hR hX hch hfl hlen hsl;cases tn with
    | true =>
     go_wp2_with fail;go_region;rw[bDk];go_wp2_with fail;have hne:rb≠w.heap.size:=by omega
     exact⟨⟨k+1,by omega,by simp,HST.out,(Below.heap_setCell _ _ _ _ hne).trans HR3.out,(uD.out.aU (fun h=>absurd h (Nat.lt_irrefl _)) _ _).drew⟩,by simp[intOf];omega⟩
    | false =>
     go_wp2_with fail;go_region;rw[bLc];go_wp2_with fail;have hne:rb≠w.heap.size:=by omega
     exact⟨⟨k+1,by omega,by simp,HST.out,(Below.heap_setCell _ _ _ _ hne).trans HR3.out,(uD.out.aU (fun h=>absurd h (Nat.lt_irrefl _)) _ _).drew⟩,by simp[intOf];omega⟩
  · obtain rfl:k=n:=by omega
    have q2:decide ((k:Int)<(k:Int))=false:=decide_eq_false (by omega);have hend:vN tn sub.toList k=(aK b at_ tn).take k:=by
     rw[aZf _ _ _ (by omega),hsl];unfold aK flips;rw[List.map_take]
    rw[hend] at hS;have hll:((aK b at_ tn).take k).length=k:=by rw[← hend,hfl]
    have hne:w.heap.size≠rb:=by omega
    have bWg:∀ x,(convert 99 9 (.slice (some ⟨w.heap.size,0,none⟩) k bLd)).run prog (wr.setCell ⟨rb,2,none⟩ x)=.ok (.string ⟨((aK b at_ tn).take k).toArray⟩) (wr.setCell ⟨rb,2,none⟩ x):=fun x=>by
     have h9:=run_convert_bytes_back (P:=prog) (wr.setCell ⟨rb,2,none⟩ x) 99 9 5 ⟨w.heap.size,0,none⟩ bLd ((aK b at_ tn).take k) underlying99 underlying5 underlying9 (fun j hj=>by rw[addr_add];exact(hS.other hne).cell j hj);rwa [hll] at h9
    have d2:wr.cell? ⟨rb,2,none⟩=some (.int .i64 (at_:Int)):=hR.cell 2;have e2:wr.frozen? ⟨rb,2,none⟩=false:=hR.frozen 2;have hrw:=hR.lt;have HR3:=zh hR;have uD:=zh hX;clear hS hR hX hend hll hsl hfl hlen;go_wp2_with fail;go_ret;refine⟨rfl,?_,uD.out.aU (fun _=>rfl) _ _⟩;have:=HR3.out.aU 2 (.int .i64 ((at_:Int)+(k:Int)));simpa[gB] using this
open Es (un aWs aGh bFd bBv)
theorem aUb:dQ []=none:=by unfold dQ;simp[un]
theorem aZi {c:UInt8} (r:List UInt8) (h:c≠0):dQ (c::r)=(dQ r).map fun x=>(c::x.1,x.2):=by
 unfold dQ;rw[aWs c r h];by_cases h2:(un r).2.2=0
 · simp[h2]
 · simp[h2]
theorem aOo (r:List UInt8):dQ (0::255::r)=(dQ r).map fun x=>(0::x.1,x.2):=by
 unfold dQ;rw[aGh r];by_cases h2:(un r).2.2=0
 · simp[h2]
 · simp[h2]
theorem aUc (r:List UInt8):dQ (0::1::r)=some ([],r):=by unfold dQ;simp[un]
theorem aLc:dQ [0]=none:=by unfold dQ;simp[un]
theorem aUd {d:UInt8} (r:List UInt8) (h1:d≠1) (h2:d≠255):dQ (0::d::r)=none:=by unfold dQ;simp[un,h1,h2]
theorem dP {b:ByteArray} {a:Nat} (tn:Bool) (h:a<b.size):aK b a tn=fl tn b[a]::aK b (a+1) tn:=by
 unfold aK flips;rw[List.drop_eq_getElem_cons (by rw[V.aD];exact h),List.map_cons];congr 2
 exact Option.some.inj ((List.getElem?_eq_getElem _).symm.trans (xA b a h))
theorem jJ {b:ByteArray} {a:Nat} (tn:Bool) (h:b.size≤a):aK b a tn=[]:=by
 unfold aK;rw[List.drop_of_length_le (by rw[V.aD];exact h)];rfl
theorem kL (rb:Nat) (tv:Value) (b:ByteArray) (at_ n:Nat) (tn:Bool) (pv:Value) (lp:List Int) (w:World) (hb:b.size≤4194304) (hat:at_≤b.size) (hn:n≤65536) (hr:gB w rb tv b at_ tn pv) (hp:aH w (· = rb) pv lp) (hlp:lp.length≤17) :
 Calls prog 66 #[.pointer (some ⟨rb,0,none⟩),.int .i64 (n:Int)] w (bZ rb tv b at_ n tn pv w):=by
 by_cases h:at_+n≤b.size
 · exact aCt rb tv b at_ n tn pv w hb hr h
 · exact aLb rb tv b at_ n tn pv lp w hb hat hn hr hp hlp h
theorem aFs (rb:Nat) (tv:Value) (b:ByteArray) (a:Nat) (tn:Bool) (pv:Value) (w:World) (hb:b.size≤4194304) (hr:gB w rb tv b a tn pv) (h:a<b.size) :
 Calls prog 66 #[.pointer (some ⟨rb,0,none⟩),.int .i64 1] w fun e w'=>∃ p:ByteArray,e=.returned (.string p)∧(∃ h:0<p.size,p[0]=fl tn b[a])∧gB w' rb tv b (a+1) tn pv∧Xv (· = rb) w w':=by
 refine(aCt rb tv b a 1 tn pv w hb hr (by omega)).mono fun e w' h2=>?_
 unfold bZ at h2;rw[if_pos (by omega),dP tn h] at h2;exact⟨⟨#[fl tn b[a]]⟩,h2.1,⟨Nat.zero_lt_one,rfl⟩,h2.2⟩
theorem kY (rb:Nat) (tv:Value) (b:ByteArray) (a:Nat) (tn:Bool) (pv:Value) (lp:List Int) (w:World) (hb:b.size≤4194304) (hr:gB w rb tv b a tn pv) (hp:aH w (· = rb) pv lp) (hlp:lp.length≤17) (hat:a≤b.size) (h:¬ a<b.size) :
 Calls prog 66 #[.pointer (some ⟨rb,0,none⟩),.int .i64 1] w fun e w'=>Fails b.size w e w'∧Below w.heap.size w w':=by
 refine(aLb rb tv b a 1 tn pv lp w hb hat (by omega) hr hp hlp (by omega)).mono fun e w' h2=>?_
 unfold bZ at h2;rwa [if_neg (by omega)] at h2
def jV (rb:Nat) (tv:Value) (b:ByteArray) (tn:Bool) (pv:Value) (r:Option (List UInt8×List UInt8)) (w:World) (e:Ending) (w':World):Prop :=
 (match r with
  | some (s,l)=>e=.returned (.string ⟨s.toArray⟩)∧∃ a,a≤b.size∧l=aK b a tn∧gB w' rb tv b a tn pv
  | none=>Fails b.size w e w')∧Xv (· = rb) w w'
theorem xB {w w':World} {base rb:Nat} {v:Value} {l:List UInt8} (h:cO w base v l) (hb:rb<base) (hm:Xv (· = rb) w w'):cO w' base v l:=by
 refine⟨h.1,?_⟩;rcases h.2 with hn | ⟨g,cap,cur,rfl,hg,hgg,rest⟩
 · exact .inl hn
 · exact .inr ⟨g,cap,cur,rfl,hg,(hm.block g (Array.getElem?_eq_some_iff.1 hgg).1 (fun e=>by omega)).trans hgg,rest⟩
theorem aHs {P:Nat→Prop} {w a b:World} (h:Xv P w a) (k:Below w.heap.size a b):Xv P w b :=
 ⟨k.os.trans h.os,k.tape.trans h.tape,k.output.trans h.output,Nat.le_trans h.size k.size,fun i hi hp=>(k.block i hi).trans (h.block i hi hp)⟩
theorem Fails.low {m:Nat} {w wr w':World} {e:Ending} (h:Fails m wr e w') (hs:w.heap.size≤wr.heap.size):Fails m w e w':=by
 obtain⟨fb,c,a,pv,lp,why,h1,h2,h3,h4,h5⟩:=h;exact⟨fb,c,a,pv,lp,why,Nat.le_trans hs h1,h2,h3,h4.mono fun k _ e=>e.imp id fun e=>Nat.lt_of_lt_of_le e hs,h5⟩
theorem Fails.form {m:Nat} {w w':World} {e:Ending} (h:Fails m w e w'):∃ ch,e=.panicked ch:=by
 obtain⟨fb,c,a,pv,lp,why,h1,h2,_⟩:=h;exact⟨_,h2⟩
theorem meas {b:ByteArray} {w w':World} {rb a a':Nat} (h:w.cell? ⟨rb,2,none⟩=some (.int .i64 (a:Int))) (h':w'.cell? ⟨rb,2,none⟩=some (.int .i64 (a':Int))) (hlt:a<b.size) (ha:a<a') :
 b.size-(intOf ((w'.cell? ⟨rb,2,none⟩).getD .nilIface)).toNat<b.size-(intOf ((w.cell? ⟨rb,2,none⟩).getD .nilIface)).toNat:=by
 rw[h,h'];simp[intOf];omega
theorem sI (rb:Nat) (tv:Value) (b:ByteArray) (at_:Nat) (tn:Bool) (pv:Value) (lp:List Int) (w:World) (hb:b.size≤4194304) (hat:at_≤b.size) (hr:gB w rb tv b at_ tn pv) (hp:aH w (· = rb) pv lp) (hlp:lp.length≤17) :
 Calls prog 98 #[.pointer (some ⟨rb,0,none⟩)] w (jV rb tv b tn pv (dQ (aK b at_ tn)) w):=by
 obtain⟨R,hR⟩:∃ R,dQ (aK b at_ tn)=R:=⟨_,rfl⟩
 rw[hR];have HR0:=zh hr;have HP:=zh hp;have HRR:=zh hR;have hrl:=hr.lt;clear hr hp hR;go_enter func98,ntmps98;go_wp2_with fail;go_loopw [3] (fun v wr=>∃ (a:Nat) (acc:List UInt8),a≤b.size∧acc.length≤a∧cO wr w.heap.size v acc∧gB wr rb tv b a tn pv∧Xv (· = rb) w wr∧Hid (R=(dQ (aK b a tn)).map fun x=>(acc++x.1,x.2))) (fun _ wr=>b.size-(intOf ((wr.cell? ⟨rb,2,none⟩).getD .nilIface)).toNat)
 case atStart=>exact⟨at_,[],hat,Nat.zero_le _,cO.nil _ _,HR0.out,Xv.refl _ _,zh (by rw[HRR.out];cases R<;>simp)⟩
 case round =>
  obtain⟨a,acc,ha,hal,hO,hR,hX,hrel⟩:=hrel;have c2:wr.cell? ⟨rb,2,none⟩=some (.int .i64 (a:Int)):=hR.cell 2;have hp:=HP.out.keep hX.size (fun k hk hp=>hX.block k hk hp) (fun _ _ e=>e);by_cases hlt:a<b.size
  · have H1:=zh (aFs rb tv b a tn pv wr hb hR hlt);have aAe:=dP tn hlt;obtain⟨c,hc⟩:∃ c,fl tn b[a]=c:=⟨_,rfl⟩
    rw[hc] at H1 aAe;rw[aAe] at hrel;have qN:=zh hrel.out;have HOO:=zh hO;have HXX:=zh hX;have HPP:=zh hp;clear aAe hc hrel hO hX hp hR;by_cases hc0:c=0
    · subst hc0;have q0:(((0:UInt8).toNat:Int)==0)=true:=rfl;go_wp2_with fail;refine H1.out.mono ?_;rintro e w1 ⟨p1,rfl,⟨hp1,hpc⟩,hr1,hx1⟩;have HXW:=zh (HXX.out.trans hx1 (fun _ _ e=>e));have hp1':=HPP.out.keep hx1.size (fun k hk hp=>hx1.block k hk hp) (fun _ _ e=>e);have vZ:=zh (xB HOO.out hrl hx1);have hsz1:=HXW.out.size;by_cases hlt2:a+1<b.size
      · have H2:=zh (aFs rb tv b (a+1) tn pv w1 hb hr1 hlt2);have aOp:=dP tn hlt2;obtain⟨d,hd⟩:∃ d,fl tn b[a+1]=d:=⟨_,rfl⟩
        rw[hd] at H2 aOp;rw[aOp] at qN;have HP1:=zh hp1';clear aOp hd hr1 hx1 hp1';go_wp2_with fail;refine H2.out.mono ?_;rintro e w2 ⟨p2,rfl,⟨hp2,hpd⟩,hr2,hx2⟩;have bDl:=zh (HXW.out.trans hx2 (fun _ _ e=>e));have HO2:=zh (xB vZ.out hrl hx2);have xZ:=zh (HP1.out.keep hx2.size (fun k hk hp=>hx2.block k hk hp) (fun _ _ e=>e));have HR2:=zh hr2;have hsz2:=bDl.out.size;clear hr2 hx2;by_cases hd1:d=1
        · subst hd1;have q1:(((1:UInt8).toNat:Int)==1)=true:=rfl;have hcv:=HO2.out.conv 99 9 underlying99 underlying5 underlying9;go_wp2_with fail;go_ret;rw[qN.out,aUc];exact⟨⟨by simp,a+2,by omega,rfl,HR2.out⟩,bDl.out⟩
        · have q1:((d.toNat:Int)==1)=false:=by
           have:d.toNat≠1:=fun e=>hd1 (UInt8.toNat_inj.1 (by rw[e];rfl))
           simp;omega
          by_cases hd2:d=255
          · subst hd2;have q2:(((255:UInt8).toNat:Int)==255)=true:=rfl;have HN:=zh (aOo (aK b (a+1+1) tn));clear hd1;go_wp2_with (at_builtin;refine bD (W:=w2) rfl (.tmp 28) (.tmp 30) 99 rfl underlying99 We.mW rfl (HO2.out.alloc _) _ [0] 1 _ rfl rfl (jQ _ 0 _) (by simp;omega) (zr.alloc hsz2 _) (by simp;omega) ?_;intro v5 w5 qZ hB5 hs5);have hR5:gB w5 rb tv b (a+1+1) tn pv:=aC.below HR2.out hB5 hrl;have c5:w5.cell? ⟨rb,2,none⟩=some (.int .i64 ((a+1+1:Nat):Int)):=hR5.cell 2;exact⟨⟨a+1+1,acc++[0],by omega,by simp;omega,qZ,hR5,aHs bDl.out hB5,zh (by rw[qN.out,HN.out];cases dQ (aK b (a+1+1) tn)<;>simp)⟩,meas c2 c5 hlt (by omega)⟩
          · have q2:((d.toNat:Int)==255)=false:=by
             have:d.toNat≠255:=fun e=>hd2 (UInt8.toNat_inj.1 (by rw[e];rfl))
             simp;omega
            have hRn:R=none:=by rw[qN.out,aUd _ hd1 hd2];rfl
            have HF:=zh (eO rb tv b (a+1+1) tn pv lp 142 a (.iface 41 (.int .i64 10)) w2 HR2.out xZ.out hlp (.inr ⟨_,_,rfl⟩));clear hd1 hd2;go_wp2_with fail;refine HF.out.mono ?_;rintro e w3 ⟨hf,hb3⟩;obtain⟨fb,fc,fa,pv',lp',why,h1,rfl,h3,h4,h5,h6,h7⟩:=hf;go_wp2_with fail;rw[hRn];exact⟨rfl,⟨fb,fc,fa,pv',lp',why,Nat.le_trans hsz2 h1,rfl,h3,h4.mono fun k _ e=>e.imp id fun e=>Nat.lt_of_lt_of_le e hsz2,h5,⟨h6.1,Int.le_trans h6.2 (by omega)⟩,h7⟩,bDl.out.then hb3⟩
      · have hRn:R=none:=by rw[qN.out,jJ tn (show b.size≤a+1 by omega),aLc];rfl
        have HF:=zh (kY rb tv b (a+1) tn pv lp w1 hb hr1 hp1' hlp (by omega) hlt2);clear hr1 hx1 hp1';go_wp2_with fail;refine HF.out.mono ?_;rintro e w3 ⟨hf,hb3⟩;obtain⟨ch,rfl⟩:=hf.form;go_wp2_with fail;rw[hRn];exact⟨rfl,hf.low hsz1,HXW.out.then hb3⟩
    · have q0:((c.toNat:Int)==0)=false:=by
       have:c.toNat≠0:=fun e=>hc0 (UInt8.toNat_inj.1 (by rw[e];rfl))
       simp;omega
      have HN:=zh (aZi (aK b (a+1) tn) hc0);clear hc0;go_wp2_with fail;refine H1.out.mono ?_;rintro e w1 ⟨p1,rfl,⟨hp1,hpc⟩,hr1,hx1⟩;have HR1:=zh hr1;have lW:=zh hx1;have vZ:=zh (xB HOO.out hrl hx1);have HXW:=zh (HXX.out.trans hx1 (fun _ _ e=>e));have hsz1:=HXW.out.size;clear hr1 hx1;go_wp2_with (at_builtin;refine bD (W:=w1) rfl (.tmp 28) (.tmp 30) 99 rfl underlying99 We.mW rfl (vZ.out.alloc _) _ [c] 1 _ rfl rfl (jQ _ c _) (by simp;omega) (zr.alloc hsz1 _) (by simp;omega) ?_;intro v5 w5 qZ hB5 hs5);have hR5:gB w5 rb tv b (a+1) tn pv:=aC.below HR1.out hB5 hrl;have c5:w5.cell? ⟨rb,2,none⟩=some (.int .i64 ((a+1:Nat):Int)):=hR5.cell 2;exact⟨⟨a+1,acc++[c],by omega,by simp;omega,qZ,hR5,aHs HXW.out hB5,zh (by rw[qN.out,HN.out];cases dQ (aK b (a+1) tn)<;>simp)⟩,meas c2 c5 hlt (by omega)⟩
  · have hRn:R=none:=by rw[hrel.out,jJ tn (by omega),aUb];rfl
    have HF:=zh (kY rb tv b a tn pv lp wr hb hR hp hlp ha hlt);have HXX:=zh hX;have bRq:=hX.size;clear hrel hO hX hp hR;go_wp2_with fail;refine HF.out.mono ?_;rintro e w3 ⟨hf,hb3⟩;obtain⟨ch,rfl⟩:=hf.form;go_wp2_with fail;rw[hRn];exact⟨rfl,hf.low bRq,HXX.out.then hb3⟩
end Sc
namespace V
theorem aOq {l m:List Pt} {k:Nat} (hl:l.length=m.length) (h:k<l.length):jP (l.drop k) (m.drop k)=(gK l[k] (m[k]'(by omega))&&jP (l.drop (k+1)) (m.drop (k+1))):=by
 rw[List.drop_eq_getElem_cons h,List.drop_eq_getElem_cons (show k<m.length by omega),aBd]
