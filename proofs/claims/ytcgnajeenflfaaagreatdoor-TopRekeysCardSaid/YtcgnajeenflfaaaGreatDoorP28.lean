import Derived.Test.YtcgnajeenflfaaaGreatDoorP27
set_option maxRecDepth 100000
set_option maxHeartbeats 4000000
set_option linter.all false
open Go.Proofs.Tryz Go.RowKit
namespace Go.Proofs.YtcgnajeenflfaaaGreatDoor
namespace Sc
open V (Same Pt VI aL bE)
open We (Co)
theorem FI.one {w:World} {f:Fd} {v:Value} (fK:jY f) (hfi:FI w 0 w.heap.size f.fields v):FI (w.alloc (.cells (aR f v).toArray 79)) 0 (w.heap.size+1) [f] (.slice (some ⟨w.heap.size,0,none⟩) [f].length 1):=by
 refine .mk [f] _ 1 (fun _=>v) lr (fun j hj=>?_) (fun j hj=>?_) (fun j hj=>?_)
 · obtain rfl:j=0:=by simp at hj;omega
   refine⟨w.heap.size,0,rfl,Nat.zero_le _,Nat.lt_succ_self _,fun k hk=>?_⟩;rw[show 0+0*14+k=k by omega,aA];simp[List.getElem?_eq_getElem (show k<(aR f v).length from hk)]
 · obtain rfl:j=0:=by simp at hj;omega
   exact fK
 · obtain rfl:j=0:=by simp at hj;omega
   exact(hfi.same (Same.of_below (zr.alloc lr _) lr)).wide lr (Nat.le_succ _)
theorem aRg (f:Fd) (a:Option Addr) (c:Nat) (w:World) (fK:jY f) (hfi:FI w 0 w.heap.size f.fields (.slice a f.fields.length c)) :
 Calls prog 27 #[.agg #[.int .i64 65536,.slice (some ⟨w.heap.size,0,none⟩) 1 1]] (w.alloc (.cells (aR f (.slice a f.fields.length c)).toArray 79)) (wW (rT 65536 [f]) (w.alloc (.cells (aR f (.slice a f.fields.length c)).toArray 79))) :=
 qH 65536 [f] (some ⟨w.heap.size,0,none⟩) 1 _ (by simp) (by rw[World.size_alloc];exact FI.one fK hfi)
theorem aT (f:Fd) (v:Value):(aR f v).toArray=#[.string f.name,.int .u8 f.kind,.bool f.down,.int .u8 f.aI,.bool f.bnd,.bool f.eX,.string f.eG,.bool f.hib,.string f.him,.int .i64 f.most,.int .i64 f.co.str,.bool f.co.sh,.bool f.co.back,v]:=rfl
theorem aCj (f:Fd) (a:Option Addr) (c:Nat) (w:World) (fK:jY f) (hfi:FI w 0 w.heap.size f.fields (.slice a f.fields.length c)) :
 Calls prog 101 #[.agg (aR f (.slice a f.fields.length c)).toArray] w (wW (rT 65536 [f]) w):=by
 have H1:=zh (show ∀ o,Calls prog 27 #[.agg #[.int .i64 65536,.slice (some ⟨w.heap.size+1,0,none⟩) 1 1]] ((w.alloc o).alloc (.cells (aR f (.slice a f.fields.length c)).toArray 79)) (wW (rT 65536 [f]) ((w.alloc o).alloc (.cells (aR f (.slice a f.fields.length c)).toArray 79))) from fun o=>by
  have:=aRg f a c (w.alloc o) fK (bA hfi (zr.alloc lr o));rwa [World.size_alloc] at this)
 obtain⟨X,hX⟩:∃ X,rT 65536 [f]=X:=⟨_,rfl⟩
 obtain⟨m,hm⟩:∃ m,f.fields.length=m:=⟨_,rfl⟩
 rw[hX,hm] at H1;rw[hX,hm];rw[aT] at H1 ⊢;clear hX hm hfi fK;cases X with
 | true =>
  go_enter func101,ntmps101;go_wp2_with (go_at_call 27;refine(H1.out _).mono ?_;intro e w1 he;obtain⟨rfl,hb1⟩:=he.yes;have HB:=zh (((zr.alloc lr _).alloc (by simp) _).trans (hb1.mono (by simp;omega))));go_ret;exact⟨rfl,HB.out⟩
 | false =>
  go_enter func101,ntmps101;go_wp2_with (go_at_call 27;refine(H1.out _).mono ?_;intro e w1 he;have HE:=zh he;obtain⟨⟨fb,_,_,_,_,hfb,rfl,hc0,hbl⟩,hb1⟩:=he;have HBL:=zh hbl;have HC0:=zh hc0;have bQu:w.heap.size≤fb:=(by simp at hfb;omega);have HB:=zh (((zr.alloc lr _).alloc (by simp) _).trans (hb1.mono (by simp;omega)));clear hbl hc0);go_ret;exact⟨⟨fb,_,_,_,_,bQu,rfl,HC0.out,HBL.out⟩,HB.out⟩
theorem aHo (f:Fd) (a:Option Addr) (c:Nat) (p:Pt) (v:Value) (w:World) (fK:jY f) (hmay:aL p=true) (hv:VI w 0 w.heap.size p v) (hfi:FI w 0 w.heap.size f.fields (.slice a f.fields.length c)) :
 Calls prog 76 #[.agg (aR f (.slice a f.fields.length c)).toArray,v] w (dO (rT 65536 [f]&&mQ f p) w):=by
 have hvs:v=.nilIface∨∃ T V,v=.iface T V:=by
  by_cases h0:p.kind=0
  · exact .inl (hv.mP h0)
  · obtain⟨T,V,_,h,_⟩:=hv.kindOf h0;exact .inr ⟨T,V,h⟩
 have HR:=zh (fun o=>aCj f a c (w.alloc o) fK (bA hfi (zr.alloc lr o)));cases hok:rT 65536 [f] with
 | false =>
  rw[hok] at HR;rw[Bool.false_and];obtain⟨m,hm⟩:∃ m,f.fields.length=m:=⟨_,rfl⟩
  rw[hm] at HR ⊢;rw[aT] at HR ⊢;clear hv hfi hok fK hmay hm;rcases hvs with rfl | ⟨T,V,rfl⟩
  all_goals
   go_enter func76,ntmps76;go_wp2_with (go_at_call 101;refine(HR.out _).mono ?_;intro e w1 he;obtain⟨⟨fb,rfl⟩,hb1⟩:=he.no;have HB:=zh ((zr.alloc lr _).trans (hb1.mono (by simp))));go_ret;exact dO.new rfl HB.out (.inr ⟨_,_,rfl⟩)
 | true =>
  rw[Bool.true_and];rw[hok] at HR;obtain⟨_,_,_,_,ho⟩:=lQ hok;have HWR:=zh (fun (w':World) (hb:Below w.heap.size w w')=>aFk f 0 (ho f List.mem_cons_self) fK a c p v w' hmay (aX hv hb) (bA hfi hb));obtain⟨X,hX⟩:∃ X,mQ f p=X:=⟨_,rfl⟩
  rw[hX] at HWR ⊢;obtain⟨m,hm⟩:∃ m,f.fields.length=m:=⟨_,rfl⟩
  rw[hm] at HR HWR ⊢;rw[aT] at HR HWR ⊢;clear hv hfi hok fK hmay hm ho hX;rcases hvs with rfl | ⟨T,V,rfl⟩
  all_goals
   cases X with
   | true =>
    go_enter func76,ntmps76;go_wp2_with (first
     | (go_at_call 101;refine(HR.out _).mono ?_;intro e w1 he;obtain⟨rfl,hb1⟩:=he.yes;have HB:=zh ((zr.alloc lr _).trans (hb1.mono (by simp)));obtain⟨c0,c1,c2,c3,c4,c5,c6,c7,c8,c9,c10,c11,c12,c13⟩:=f14 (aC.below (aC.new w 79 #[.string f.name,.int .u8 f.kind,.bool f.down,.int .u8 f.aI,.bool f.bnd,.bool f.eX,.string f.eG,.bool f.hib,.string f.him,.int .i64 f.most,.int .i64 f.co.str,.bool f.co.sh,.bool f.co.back,.slice a m c]) hb1 (by simp)))
     | (go_at_call 29;refine(HWR.out _ HB.out).mono ?_;intro e w2 he2;obtain⟨rfl,hb2⟩:=he2.yes;have HB2:=zh (HB.out.trans (hb2.mono HB.out.size)))
     | (go_at_call 28;refine(aKm _).mono ?_;rintro e w3 ⟨rfl,rfl⟩))
    go_ret;exact dO.ok HB2.out
   | false =>
    go_enter func76,ntmps76;go_wp2_with (first
     | (go_at_call 101;refine(HR.out _).mono ?_;intro e w1 he;obtain⟨rfl,hb1⟩:=he.yes;have HB:=zh ((zr.alloc lr _).trans (hb1.mono (by simp)));obtain⟨c0,c1,c2,c3,c4,c5,c6,c7,c8,c9,c10,c11,c12,c13⟩:=f14 (aC.below (aC.new w 79 #[.string f.name,.int .u8 f.kind,.bool f.down,.int .u8 f.aI,.bool f.bnd,.bool f.eX,.string f.eG,.bool f.hib,.string f.him,.int .i64 f.most,.int .i64 f.co.str,.bool f.co.sh,.bool f.co.back,.slice a m c]) hb1 (by simp)))
     | (go_at_call 29;refine(HWR.out _ HB.out).mono ?_;intro e w2 he2;obtain⟨fb,⟨hfb,rfl,hfo⟩,hb2⟩:=he2.no;have HB2:=zh (HB.out.trans (hb2.mono HB.out.size));have HFO:=zh hfo;have HLE:=zh (Nat.le_trans HB.out.size hfb);clear hfo hfb)
     | (go_at_call 28;refine(aFl _ _).mono ?_;rintro e w3 ⟨rfl,rfl⟩))
    go_ret;obtain⟨x1,x2,x3,x4,x5,x6,x7,x8,x9⟩:=HFO.out;exact⟨⟨fb,HLE.out,rfl,x1,x2,x3,x4,x5,x6,x7,Nat.le_trans x8 (by omega),x9⟩,HB2.out⟩
theorem oZ (f:Fd) (a:Option Addr) (c:Nat) (t:Addr) (w:World) (fK:jY f) (hfi:FI w 0 w.heap.size f.fields (.slice a f.fields.length c)) :
 Calls prog 39 #[.pointer (some t),.agg (aR f (.slice a f.fields.length c)).toArray] w (dO (rT 65536 [f]) w):=by
 have H1:=zh (show ∀ o,Calls prog 27 #[.agg #[.int .i64 65536,.slice (some ⟨w.heap.size+1,0,none⟩) 1 1]] ((w.alloc o).alloc (.cells (aR f (.slice a f.fields.length c)).toArray 79)) (wW (rT 65536 [f]) ((w.alloc o).alloc (.cells (aR f (.slice a f.fields.length c)).toArray 79))) from fun o=>by
  have:=aRg f a c (w.alloc o) fK (bA hfi (zr.alloc lr o));rwa [World.size_alloc] at this)
 obtain⟨X,hX⟩:∃ X,rT 65536 [f]=X:=⟨_,rfl⟩
 obtain⟨m,hm⟩:∃ m,f.fields.length=m:=⟨_,rfl⟩
 rw[hX,hm] at H1;rw[hX,hm];rw[aT] at H1 ⊢;clear hX hm hfi fK;cases X with
 | true =>
  go_enter func39,ntmps39;go_wp2_with (go_at_call 27;refine(H1.out _).mono ?_;intro e w1 he;obtain⟨rfl,hb1⟩:=he.yes;have HB:=zh (((zr.alloc lr _).alloc (by simp) _).trans (hb1.mono (by simp;omega))));go_ret;exact dO.ok HB.out
 | false =>
  go_enter func39,ntmps39;go_wp2_with (go_at_call 27;refine(H1.out _).mono ?_;intro e w1 he;obtain⟨⟨fb,rfl⟩,hb1⟩:=he.no;have HB:=zh (((zr.alloc lr _).alloc (by simp) _).trans (hb1.mono (by simp;omega))));go_ret;exact dO.new rfl HB.out (.inr ⟨_,_,rfl⟩)
theorem aKo (f:Fd) (a:Option Addr) (n c:Nat) (w:World):Calls prog 67 #[.agg (aR f (.slice a n c)).toArray] w fun e w'=>e=.returned (.int .u8 ((rV f).toNat:Int))∧Below w.heap.size w w':=by
 rw[aT];unfold rV;by_cases h:f.aI=1
 · have q:((f.aI:Int)==1)=true:=by simp;omega
   rw[if_pos h];clear h;go_enter func67,ntmps67;go_wp2_with fail;go_ret;exact⟨rfl,zr.alloc lr _⟩
 · have q:((f.aI:Int)==1)=false:=by simp;omega
   rw[if_neg h];clear h;go_enter func67,ntmps67;go_wp2_with fail;go_ret;exact⟨rfl,zr.alloc lr _⟩
theorem aRh (f:Fd) (hk:f.kind≤7) (a:Option Addr) (n c:Nat) (w:World):Calls prog 68 #[.agg (aR f (.slice a n c)).toArray] w fun e w'=>e=.returned (.int .u8 ((aAp f).toNat:Int))∧Below w.heap.size w w':=by
 rw[aT];unfold aAp;rw[u8n _ (by split<;>omega)];cases hd:f.down with
 | true =>
  obtain⟨k,hk2⟩:∃ k,f.kind=k:=⟨_,rfl⟩
  rw[hk2] at hk ⊢;clear hd hk2;go_enter func68,ntmps68;go_wp2_with fail;go_ret;refine⟨?_,zr.alloc lr _⟩;simp;try omega
 | false =>
  obtain⟨k,hk2⟩:∃ k,f.kind=k:=⟨_,rfl⟩
  rw[hk2] at hk ⊢;clear hd hk2;go_enter func68,ntmps68;go_wp2_with fail;go_ret;refine⟨?_,zr.alloc lr _⟩;simp
theorem aKp (co:Co) (hc:co.ok) (w:World):Calls prog 125 #[co.val] w fun e w'=>e=.returned (.int .u8 ((kU co).toNat:Int))∧Below w.heap.size w w':=by
 obtain⟨st,sh,bk⟩:=co;obtain⟨k,rfl⟩:∃ k:Nat,st=(k:Int):=⟨st.toNat,by have:=hc.1;simp only at this;omega⟩
 have hk:k≤4:=by have:=hc.2.1;simp only at this;omega
 unfold kU Co.val;simp only;rw[u8n _ (by split<;>split<;>omega)];clear hc;cases sh<;>cases bk;all_goals
  go_enter func125,ntmps125;go_wp2_with fail;go_ret;refine⟨?_,zr.alloc lr _⟩;simp;try omega
open We (Co gL lF bT aHj)
open D (Dm Wf)
open Ta (Tm)
theorem aTo (s:ByteArray):∀ (f k:Nat),∀ x∈U.iH s f k,0≤x.1:=by
 intro f;induction f with
 | zero=>intro k x h;cases h
 | succ f ih =>
  intro k x h;unfold U.iH at h;split at h
  · split at h
    · rw[List.mem_singleton.1 h];exact Int.natCast_nonneg k
    · rcases List.mem_cons.1 h with rfl | h
      · exact Int.natCast_nonneg k
      · exact ih _ x h
  · cases h
theorem aRi {s:ByteArray} (h:U.bK s<0):U.Good (U.items s):=by
 unfold U.bK at h;cases hf:(U.items s).find? (fun x=>decide (x.2<0)) with
 | none =>
  intro x hx;have:=List.find?_eq_none.1 hf x hx;simp at this;exact this
 | some x =>
  rw[hf] at h;have:=aTo s s.size 0 x (List.mem_of_find?_eq_some hf);simp only [Option.elim_some] at h;omega
theorem aKq (s:ByteArray) (w:World) (hs:s.size≤1099511627776):Calls prog 173 #[.string s] w fun e w'=>e=.returned (.string ⟨(qW s.toList).toArray⟩)∧Below w.heap.size w w':=by
 have h:=Es.aMp s w hs;rw[← Lib.toList_data] at h;exact h
def aTp (K:Co→ByteArray→List UInt8) (f:Fd) (s:ByteArray):List UInt8 :=
 if f.kind=4 then s.toList else if f.kind=6 then kU f.co::(K f.co s++qW s.toList) else qW s.toList
theorem aTq (f:Fd) (K:Co→ByteArray→List UInt8) (s:ByteArray) (hk:f.kind=3∨f.kind=4∨f.kind=5) (hs:s.size≤65536) (a:Option Addr) (n c:Nat) (t:Addr) (w:World) :
 Calls prog 128 #[.pointer (some t),.agg (aR f (.slice a n c)).toArray,.string s] w fun e w'=>e=.returned (.string ⟨(aTp K f s).toArray⟩)∧Below w.heap.size w w':=by
 have HE:=zh (fun w=>aKq s w (by omega));rw[aT];unfold aTp;rcases hk with h | h | h
 · rw[h,if_neg (by decide),if_neg (by decide)];go_enter func128,ntmps128;go_wp2_with (go_at_call 173;refine(HE.out _).mono ?_;rintro e w1 ⟨rfl,hb1⟩;have HB:=zh ((zr.alloc lr _).trans (hb1.mono (by simp))));go_ret;exact⟨rfl,HB.out⟩
 · rw[h,if_pos rfl];go_enter func128,ntmps128;go_wp2_with fail;go_ret;exact⟨by rw[kI];rfl,zr.alloc lr _⟩
 · rw[h,if_neg (by decide),if_neg (by decide)];go_enter func128,ntmps128;go_wp2_with (go_at_call 173;refine(HE.out _).mono ?_;rintro e w1 ⟨rfl,hb1⟩;have HB:=zh ((zr.alloc lr _).trans (hb1.mono (by simp))));go_ret;exact⟨rfl,HB.out⟩
theorem aRj {D:Dm} (wf:Wf D) {T:Tm} (wt:lF T) (c:Co) (hc:c.ok) {s:ByteArray} (hs:s.size≤65536):(bT D T c s).length≤600000000:=by
 have hl:(We.allM D T c s).length=c.str.toNat:=by unfold We.allM;simp
 have h:=We.aKh (ls:=We.allM D T c s) (N:=67108864) (fun l hl=>by
  unfold We.allM at hl;obtain⟨i,_,rfl⟩:=List.mem_map.1 hl;exact We.aFg wf wt c hs i) c.str.toNat
 rw[List.take_of_length_le (by omega)] at h;have h4:=hc.2.1;have:c.str.toNat*(2*67108864+2)≤4*(2*67108864+2):=Nat.mul_le_mul_right _ (by omega);unfold bT;omega
theorem bDc (c:UInt8) (k l:List UInt8):Ending.returned (.string (⟨#[c]⟩++⟨k.toArray⟩++⟨l.toArray⟩))=Ending.returned (.string ⟨(c::(k++l)).toArray⟩) :=
 congrArg (fun s=>Ending.returned (.string s)) (ba_eq (by simp))
theorem aYr {w1 w:World} (h:Below w1.heap.size w1 w) (o:Obj):Below w1.heap.size w1 (w.alloc o):=h.alloc h.size o
theorem aYs {D:Dm} (wf:Wf D) {T:Tm} (wt:lF T) (f:Fd) (s:ByteArray) (hk:f.kind=6) (hc:f.co.ok) (hs:s.size≤65536) (hg:U.Good (U.items s)) (a:Option Addr) (n c:Nat) (t:Addr) (w:World) (ht:gL w 0 w.heap.size (.pointer (some t)) D T) :
 Calls prog 128 #[.pointer (some t),.agg (aR f (.slice a n c)).toArray,.string s] w fun e w'=>e=.returned (.string ⟨(aTp (bT D T) f s).toArray⟩)∧Below w.heap.size w w':=by
 have HE:=zh (fun w=>aKq s w (by omega));have HK:=zh (fun (w':World) (hb:Below w.heap.size w w')=>aHj wf wt (.pointer (some t)) f.co hc s w' ((ht.later hb lr).wide lr hb.size) hs hg);have HM:=zh (fun w=>aKp f.co hc w);rw[aT];unfold aTp;rw[hk,if_neg (by decide),if_pos rfl];obtain⟨⟨st,sh,bk⟩,hco⟩:∃ co,f.co=co:=⟨_,rfl⟩
 rw[hco] at HK HM ⊢;unfold Co.val at HK HM;simp only at HK HM;obtain⟨key,hkey⟩:∃ key,bT D T ⟨st,sh,bk⟩ s=key:=⟨_,rfl⟩
 obtain⟨mb,hmb⟩:∃ mb,kU ⟨st,sh,bk⟩=mb:=⟨_,rfl⟩
 rw[hkey] at HK ⊢;rw[hmb] at HM ⊢;have hkl:key.length≤600000000:=by
  rw[← hkey,← hco];exact aRj wf wt f.co hc hs
 obtain⟨el,hel⟩:∃ el,qW s.toList=el:=⟨_,rfl⟩
 have hll:el.length≤200000:=by
  rw[← hel];unfold qW;have h1:=Es.aGg s.toList;rw[V.aD] at h1;simp only [List.length_append,List.length_cons,List.length_nil];omega
 rw[hel] at HE ⊢;have hc1:(9223372036854775807<1+key.length)=False:=by simp;omega
 have hc2:(9223372036854775807<1+key.length+el.length)=False:=by simp;omega
 clear hco hc ht hkey hmb hg hk wf wt hkl hll hel;go_enter func128,ntmps128;go_wp2_with (go_at_call 126;refine(HK.out _ (zr.alloc lr _)).mono ?_;rintro e w1 ⟨rfl,hb1⟩;have HB:=zh ((zr.alloc lr _).trans (hb1.mono (by simp)));obtain⟨c0,c1,c2,c3,c4,c5,c6,c7,c8,c9,c10,c11,c12,c13⟩:=f14 (aC.below (aC.new w 79 #[.string f.name,.int .u8 ((6:Nat):Int),.bool f.down,.int .u8 f.aI,.bool f.bnd,.bool f.eX,.string f.eG,.bool f.hib,.string f.him,.int .i64 f.most,.int .i64 st,.bool sh,.bool bk,.slice a n c]) hb1 (by simp)));have hbd:Below w1.heap.size w1 w1.drew:=(Below.refl w1.heap.size w1).drew;have hcv:∀ (W:World) (B:Nat),W.cell? ⟨B,0,none⟩=some (.int .u8 (mb.toNat:Int))→(convert 99 9 (.slice (some ⟨B,0,none⟩) 1 1)).run prog W=.ok (.string ⟨#[mb]⟩) W:=fun W B h =>
  run_convert_bytes_back (P:=prog) W 99 9 5 ⟨B,0,none⟩ 1 [mb] underlying99 underlying5 underlying9 (fun j hj=>by
   obtain rfl:j=0:=by simp at hj;omega
   simpa[Addr.add] using h)
 refine wp_region_held_drew (S:=fun w'=>w'.cell? ⟨w.heap.size,10,none⟩=some (.int .i64 st)∧w'.cell? ⟨w.heap.size,11,none⟩=some (.bool sh)∧w'.cell? ⟨w.heap.size,12,none⟩=some (.bool bk)∧Below w1.heap.size w1 w') (by kernel_rfl) ⟨c10,c11,c12,hbd⟩ (fun hHeld=>?_);refine tx 0 ?vx1 rfl (by kernel_rfl) tq (by rfl) ?bQv (by assumption) ?bQw;case bQv=>(rintro wS ⟨k10,k11,k12,kb⟩;go_simp;try with_reducible rfl)
 try simp[Act.put]
 refine tx 1 ?vx2 rfl (by kernel_rfl) tq (by rfl) ?bQx (by assumption) ?bQy;case bQx=>(rintro wS ⟨k10,k11,k12,kb⟩;go_simp;try with_reducible rfl)
 try simp[Act.put]
 refine tx 5 ?vx3 rfl (by kernel_rfl) tq (by rfl) ?bQz (by assumption) ?bRa;case bQz=>(rintro wS ⟨k10,k11,k12,kb⟩;go_simp;try with_reducible rfl)
 try simp[Act.put]
 refine tx 7 ?vx4 rfl (by kernel_rfl) tq (by rfl) ?bRb (by assumption) ?bRc;case bRb=>(rintro wS ⟨k10,k11,k12,kb⟩;go_simp;try with_reducible rfl)
 try simp[Act.put]
 refine wpAnyH_ready (rs:=[2]) (by kernel_rfl) (by simp) ?_;refine AllReadyH.cons rfl (fun K hK=>?_) AllReadyH.nil;go_simp;obtain⟨k10,k11,k12,kb⟩:=hHeld;refine(HM.out _).mono ?_;rintro e w9 ⟨rfl,aB⟩;replace k10:=V.keeps aB k10;replace k11:=V.keeps aB k11;replace k12:=V.keeps aB k12;replace kb:=V.two kb aB;go_wp2_with fail;refine hK.out _ _ ⟨k10,k11,k12,kb⟩ (fun hHeld=>?_);try simp[Act.put]
 refine wpAnyH_ready (rs:=[3,8]) (by kernel_rfl) (by simp) ?_;refine AllReadyH.cons rfl (fun K hK=>?_) (AllReadyH.cons rfl (fun K hK=>?_) AllReadyH.nil)
 · skip
   go_simp;obtain⟨k10,k11,k12,kb⟩:=hHeld;go_wp2_with fail;have q0:(World.alloc w9 (.cells #[.int .u8 (mb.toNat:Int)] 5)).cell? ⟨(w9).heap.size,0,none⟩=some (.int .u8 (mb.toNat:Int)):=by simp
   replace k10:=V.keeps (zr.alloc lr (.cells #[.int .u8 (mb.toNat:Int)] 5)) k10;replace k11:=V.keeps (zr.alloc lr (.cells #[.int .u8 (mb.toNat:Int)] 5)) k11;replace k12:=V.keeps (zr.alloc lr (.cells #[.int .u8 (mb.toNat:Int)] 5)) k12;replace kb:=aYr kb (.cells #[.int .u8 (mb.toNat:Int)] 5);refine hK.out _ _ ⟨k10,k11,k12,kb⟩ (fun hHeld=>?_);try simp[Act.put]
   refine wpAnyH_ready (rs:=[4,8]) (by kernel_rfl) (by simp) ?_;refine AllReadyH.cons rfl (fun K hK=>?_) (AllReadyH.cons rfl (fun K hK=>?_) AllReadyH.nil)
   · skip
     go_simp;obtain⟨k10,k11,k12,kb⟩:=hHeld;go_wp2_with fail;refine hK.out _ _ ⟨k10,k11,k12,kb⟩ (fun hHeld=>?_);try simp[Act.put]
     refine wpAnyH_ready (rs:=[6,8]) (by kernel_rfl) (by simp) ?_;refine AllReadyH.cons rfl (fun K hK=>?_) (AllReadyH.cons rfl (fun K hK=>?_) AllReadyH.nil)
     · skip
       go_simp;obtain⟨k10,k11,k12,kb⟩:=hHeld;go_wp2_with fail;refine hK.out _ _ ⟨k10,k11,k12,kb⟩ (fun hHeld=>?_);try simp[Act.put]
       refine wpAnyH_ready (rs:=[8]) (by kernel_rfl) (by simp) ?_;refine AllReadyH.cons rfl (fun K hK=>?_) AllReadyH.nil;go_simp;obtain⟨k10,k11,k12,kb⟩:=hHeld;refine(HE.out _).mono ?_;rintro e w9 ⟨rfl,aB⟩;replace k10:=V.keeps aB k10;replace k11:=V.keeps aB k11;replace k12:=V.keeps aB k12;replace kb:=V.two kb aB;replace q0:=V.keeps aB q0;go_wp2_with fail;refine hK.out _ _ ⟨k10,k11,k12,kb⟩ (fun hHeld=>?_);try simp[Act.put]
       refine tx 9 ?vx5 rfl (by kernel_rfl) tq (by rfl) ?bRd (by assumption) ?bRe;case bRd=>(rintro wS ⟨k10,k11,k12,kb⟩;go_simp;try with_reducible rfl)
       try simp[Act.put]
       refine tx 10 ?vx6 rfl (by kernel_rfl) tq (by rfl) ?bRf (by assumption) ?bRg;case bRf=>(rintro wS ⟨k10,k11,k12,kb⟩;go_simp;try with_reducible rfl)
       try simp[Act.put]
       refine wpAnyH_done (by kernel_rfl) ?_ _;obtain⟨k10,k11,k12,kb⟩:=hHeld;go_wp2_with fail;go_ret;exact⟨bDc mb key el,HB.out.trans (kb.mono HB.out.size)⟩
     · skip
       go_simp;obtain⟨k10,k11,k12,kb⟩:=hHeld;refine(HE.out _).mono ?_;rintro e w9 ⟨rfl,aB⟩;replace k10:=V.keeps aB k10;replace k11:=V.keeps aB k11;replace k12:=V.keeps aB k12;replace kb:=V.two kb aB;replace q0:=V.keeps aB q0;go_wp2_with fail;refine hK.out _ _ ⟨k10,k11,k12,kb⟩ (fun hHeld=>?_);try simp[Act.put]
       refine wpAnyH_ready (rs:=[6]) (by kernel_rfl) (by simp) ?_;refine AllReadyH.cons rfl (fun K hK=>?_) AllReadyH.nil;go_simp;obtain⟨k10,k11,k12,kb⟩:=hHeld;go_wp2_with fail;refine hK.out _ _ ⟨k10,k11,k12,kb⟩ (fun hHeld=>?_);try simp[Act.put]
       refine tx 9 ?vx7 rfl (by kernel_rfl) tq (by rfl) ?bRh (by assumption) ?bRi;case bRh=>(rintro wS ⟨k10,k11,k12,kb⟩;go_simp;try with_reducible rfl)
       try simp[Act.put]
       refine tx 10 ?vx8 rfl (by kernel_rfl) tq (by rfl) ?bRj (by assumption) ?bRk;case bRj=>(rintro wS ⟨k10,k11,k12,kb⟩;go_simp;try with_reducible rfl)
       try simp[Act.put]
       refine wpAnyH_done (by kernel_rfl) ?_ _;obtain⟨k10,k11,k12,kb⟩:=hHeld;go_wp2_with fail;go_ret;exact⟨bDc mb key el,HB.out.trans (kb.mono HB.out.size)⟩
   · skip
     go_simp;obtain⟨k10,k11,k12,kb⟩:=hHeld;refine(HE.out _).mono ?_;rintro e w9 ⟨rfl,aB⟩;replace k10:=V.keeps aB k10;replace k11:=V.keeps aB k11;replace k12:=V.keeps aB k12;replace kb:=V.two kb aB;replace q0:=V.keeps aB q0;go_wp2_with fail;refine hK.out _ _ ⟨k10,k11,k12,kb⟩ (fun hHeld=>?_);try simp[Act.put]
     refine wpAnyH_ready (rs:=[4]) (by kernel_rfl) (by simp) ?_;refine AllReadyH.cons rfl (fun K hK=>?_) AllReadyH.nil;go_simp;obtain⟨k10,k11,k12,kb⟩:=hHeld;go_wp2_with fail;refine hK.out _ _ ⟨k10,k11,k12,kb⟩ (fun hHeld=>?_);try simp[Act.put]
     refine wpAnyH_ready (rs:=[6]) (by kernel_rfl) (by simp) ?_;refine AllReadyH.cons rfl (fun K hK=>?_) AllReadyH.nil;go_simp;obtain⟨k10,k11,k12,kb⟩:=hHeld;go_wp2_with fail;refine hK.out _ _ ⟨k10,k11,k12,kb⟩ (fun hHeld=>?_);try simp[Act.put]
     refine tx 9 ?vx9 rfl (by kernel_rfl) tq (by rfl) ?bRl (by assumption) ?bRm;case bRl=>(rintro wS ⟨k10,k11,k12,kb⟩;go_simp;try with_reducible rfl)
     try simp[Act.put]
     refine tx 10 ?bWd rfl (by kernel_rfl) tq (by rfl) ?bKs (by assumption) ?bNi;case bKs=>(rintro wS ⟨k10,k11,k12,kb⟩;go_simp;try with_reducible rfl)
     try simp[Act.put]
     refine wpAnyH_done (by kernel_rfl) ?_ _;obtain⟨k10,k11,k12,kb⟩:=hHeld;go_wp2_with fail;go_ret;exact⟨bDc mb key el,HB.out.trans (kb.mono HB.out.size)⟩
 · skip
   go_simp;obtain⟨k10,k11,k12,kb⟩:=hHeld;refine(HE.out _).mono ?_;rintro e w9 ⟨rfl,aB⟩;replace k10:=V.keeps aB k10;replace k11:=V.keeps aB k11;replace k12:=V.keeps aB k12;replace kb:=V.two kb aB;go_wp2_with fail;refine hK.out _ _ ⟨k10,k11,k12,kb⟩ (fun hHeld=>?_);try simp[Act.put]
   refine wpAnyH_ready (rs:=[3]) (by kernel_rfl) (by simp) ?_;refine AllReadyH.cons rfl (fun K hK=>?_) AllReadyH.nil;go_simp;obtain⟨k10,k11,k12,kb⟩:=hHeld;go_wp2_with fail;have q0:(World.alloc w9 (.cells #[.int .u8 (mb.toNat:Int)] 5)).cell? ⟨(w9).heap.size,0,none⟩=some (.int .u8 (mb.toNat:Int)):=by simp
   replace k10:=V.keeps (zr.alloc lr (.cells #[.int .u8 (mb.toNat:Int)] 5)) k10;replace k11:=V.keeps (zr.alloc lr (.cells #[.int .u8 (mb.toNat:Int)] 5)) k11;replace k12:=V.keeps (zr.alloc lr (.cells #[.int .u8 (mb.toNat:Int)] 5)) k12;replace kb:=aYr kb (.cells #[.int .u8 (mb.toNat:Int)] 5);refine hK.out _ _ ⟨k10,k11,k12,kb⟩ (fun hHeld=>?_);try simp[Act.put]
   refine wpAnyH_ready (rs:=[4]) (by kernel_rfl) (by simp) ?_;refine AllReadyH.cons rfl (fun K hK=>?_) AllReadyH.nil;go_simp;obtain⟨k10,k11,k12,kb⟩:=hHeld;go_wp2_with fail;refine hK.out _ _ ⟨k10,k11,k12,kb⟩ (fun hHeld=>?_);try simp[Act.put]
   refine wpAnyH_ready (rs:=[6]) (by kernel_rfl) (by simp) ?_;refine AllReadyH.cons rfl (fun K hK=>?_) AllReadyH.nil;go_simp;obtain⟨k10,k11,k12,kb⟩:=hHeld;go_wp2_with fail;refine hK.out _ _ ⟨k10,k11,k12,kb⟩ (fun hHeld=>?_);try simp[Act.put]
   refine tx 9 ?bWe rfl (by kernel_rfl) tq (by rfl) ?bKt (by assumption) ?bNj;case bKt=>(rintro wS ⟨k10,k11,k12,kb⟩;go_simp;try with_reducible rfl)
   try simp[Act.put]
   refine tx 10 ?bWf rfl (by kernel_rfl) tq (by rfl) ?bKu (by assumption) ?bNk;case bKu=>(rintro wS ⟨k10,k11,k12,kb⟩;go_simp;try with_reducible rfl)
   try simp[Act.put]
   refine wpAnyH_done (by kernel_rfl) ?_ _;obtain⟨k10,k11,k12,kb⟩:=hHeld;go_wp2_with fail;go_ret;exact⟨bDc mb key el,HB.out.trans (kb.mono HB.out.size)⟩
