import Derived.Deep.RegionHeld3
import Derived.Laws.CopyOwn
import Derived.Test.YtcgnajeenflfaaaGreatDoorP4
import Derived.Test.YtcgnajeenflfaaaGreatDoorP6
set_option maxRecDepth 100000
set_option maxHeartbeats 4000000
set_option linter.all false
open Go.Proofs.Tryz Go.RowKit
namespace Go.Proofs.YtcgnajeenflfaaaGreatDoor
section
theorem Tryz.info5:(prog.info? 5).map (fun i=>(i.zero,i.size,i.bytes))=some (some (.int .u8 0),1,1):=by kernel_rfl
theorem bNf (w:World) (c:UInt8) (x:Int) (hx:(c.toNat:Int)=x) :
 (convert 99 9 (.slice (some ⟨w.heap.size,0,none⟩) 1 1)).run prog (w.alloc (.cells #[.int .u8 x] 5))=.ok (.string ⟨#[c]⟩) (w.alloc (.cells #[.int .u8 x] 5)):=by
 refine run_convert_bytes_back (P:=prog) _ 99 9 5 ⟨w.heap.size,0,none⟩ 1 [c] underlying99 underlying5 underlying9 (fun j hj=>?_);subst hx;have hj0:j=0:=by simpa using hj
 subst hj0;exact one_cell w _ 5 0 _ rfl
theorem bNg (w:World) (c d:UInt8) (x y:Int) (hx:(c.toNat:Int)=x) (hy:(d.toNat:Int)=y) :
 (convert 99 9 (.slice (some ⟨w.heap.size,0,none⟩) 2 2)).run prog (w.alloc (.cells #[.int .u8 x,.int .u8 y] 5))=.ok (.string ⟨#[c,d]⟩) (w.alloc (.cells #[.int .u8 x,.int .u8 y] 5)):=by
 refine run_convert_bytes_back (P:=prog) _ 99 9 5 ⟨w.heap.size,0,none⟩ 2 [c,d] underlying99 underlying5 underlying9 (fun j hj=>?_);subst hx hy;have:j=0∨j=1:=by simp at hj;omega
 rcases this with rfl | rfl
 · exact xQ w _ _ 5 0 _ rfl
 · exact xQ w _ _ 5 1 _ rfl
theorem bBn (w:World) (base:Nat) (c:UInt8) (x:Int) (hx:(c.toNat:Int)=x) (hb:base≤w.heap.size):cO (w.alloc (.cells #[.int .u8 x] 5)) base (.slice (some ⟨w.heap.size,0,none⟩) 1 1) [c]:=by
 subst hx;exact⟨rfl,.inr ⟨w.heap.size,1,_,rfl,hb,heap_alloc_new w _,Nat.le_refl _,by unfold maxLen;omega,rfl,rfl⟩⟩
theorem bBo (w:World) (base:Nat) (c d:UInt8) (x y:Int) (hx:(c.toNat:Int)=x) (hy:(d.toNat:Int)=y) (hb:base≤w.heap.size):cO (w.alloc (.cells #[.int .u8 x,.int .u8 y] 5)) base (.slice (some ⟨w.heap.size,0,none⟩) 2 2) [c,d]:=by
 subst hx hy;exact⟨rfl,.inr ⟨w.heap.size,2,_,rfl,hb,heap_alloc_new w _,Nat.le_refl _,by unfold maxLen;omega,rfl,rfl⟩⟩
theorem aMd (a b:ByteArray):(a++b).toList=a.toList++b.toList:=by
 rw[Lib.toList_data,Lib.toList_data,Lib.toList_data,ByteArray.data_append,Array.toList_append]
theorem uH {w w1:World} {b:Bool} {s:ByteArray} {T:TypeId} (hb:Below (w.alloc (.cells #[.bool b,.string s] T)).heap.size (w.alloc (.cells #[.bool b,.string s] T)) w1) :
 w1.cell? ⟨w.heap.size,0,none⟩=some (.bool b)∧w1.cell? ⟨w.heap.size,1,none⟩=some (.string s)∧w.heap.size<w1.heap.size∧Below w.heap.size w w1 :=
 ⟨(hb.cell (p:=⟨w.heap.size,0,none⟩) (by simp)).trans (by simp),(hb.cell (p:=⟨w.heap.size,1,none⟩) (by simp)).trans (by simp),
  by have:=hb.size;simp at this;omega,(zr.alloc lr _).trans (hb.mono (by simp))⟩
theorem one_byte (n:Nat) (h:n<256):∃ c:UInt8,(c.toNat:Int)=n∧Hid (c=UInt8.ofNat n):=⟨UInt8.ofNat n,ofNat_toNat _ h,rfl⟩
theorem bJb (c:UInt8):(⟨#[c]⟩:ByteArray).toList=[c]:=by rw[Lib.toList_data]
theorem bJc (c d:UInt8):(⟨#[c,d]⟩:ByteArray).toList=[c,d]:=by rw[Lib.toList_data]
theorem bBp (s:ByteArray) (w:World) (hr:iJ false s.toList=0) :
 Calls prog 127 #[.agg #[.bool false,.string s]] w fun e w'=>∃ p:ByteArray,e=.returned (.tuple #[.string p,.int .i64 0])∧Hid (p.toList=bM false s.toList)∧Below w.heap.size w w':=by
 have hlen:=(dR.1 hr).1;rw[aD] at hlen;have HR:=zh hr;clear hr;by_cases hk:s.size≤126
 · go_enter func127,ntmps127;go_wp2_with fail;refine(dY false s _ (by omega) 0 HR.out).mono ?_;rintro e w1 ⟨rfl,hb1⟩;obtain⟨hc0,hc1,hz,hbw⟩:=uH hb1;obtain⟨c,hc,HC⟩:=one_byte (128+s.size) (by omega);have hcv:=bNf w1 c (128+s.size) (by rw[hc];simp);clear hc;go_wp2
   go_ret2
   exact⟨_,rfl,zh (by rw[aMd,bJb,HC.out,bM,fC,aD];simp[hk]),hbw.alloc hbw.size _⟩
 · go_enter func127,ntmps127;go_wp2_with fail;refine(dY false s _ (by omega) 0 HR.out).mono ?_;rintro e w1 ⟨rfl,hb1⟩;obtain⟨hc0,hc1,hz,hbw⟩:=uH hb1;obtain⟨c,hc,HC⟩:=one_byte s.size (by omega);have hcv:=bNg w1 255 c 255 s.size rfl hc;clear hc;go_wp2
   go_ret2
   exact⟨_,rfl,zh (by rw[aMd,bJc,HC.out,bM,fC,aD];simp[hk]),hbw.alloc hbw.size _⟩
def turned (h:List UInt8) (l:List UInt8) (k:Nat):List UInt8:=h++(l.take k).map (255-·)
theorem aAk (h l:List UInt8):turned h l 0=h:=by simp[turned]
theorem aAl (h:List UInt8) (s:ByteArray) (k:Nat) (hk:k<s.size):turned h s.data.toList (k+1)=turned h s.data.toList k++[255-s[k]]:=by
 rw[turned,aEm s k hk,turned];simp
theorem aDo (h:List UInt8) (s:ByteArray) (k:Nat) (hk:¬ k<s.size):turned h s.data.toList k=h++s.data.toList.map (255-·):=by
 rw[turned,wD s k hk]
theorem aDp (h l:List UInt8) (k:Nat):(turned h l k).length≤h.length+k:=by
 have:=List.length_take_le k l;simp only [turned,List.length_append,List.length_map];omega
theorem gQ (w:World) (c:UInt8) (x:Int) (h:(c.toNat:Int)=x) {T:TypeId}:∀ j u,(bv [c])[j]?=some u→(w.alloc (.cells #[.int .u8 x] T)).cell? ((⟨w.heap.size,0,none⟩:Addr).add j)=some u:=by subst h;exact jQ w c T
theorem aWc (s:ByteArray) (w:World) (hr:iJ true s.toList=0) :
 Calls prog 127 #[.agg #[.bool true,.string s]] w fun e w'=>∃ p:ByteArray,e=.returned (.tuple #[.string p,.int .i64 0])∧Hid (p.toList=bM true s.toList)∧Below w.heap.size w w':=by
 have hlen:=(dR.1 hr).1;rw[aD] at hlen;have HR:=zh hr;clear hr;by_cases hk:s.size≤126
 · have hk2:¬ 126<s.size:=by omega
   go_enter func127,ntmps127;go_wp2_with fail;refine(dY true s _ (by omega) 0 HR.out).mono ?_;rintro e w1 ⟨rfl,hb1⟩;obtain⟨hc0,hc1,hz,hbw⟩:=uH hb1;obtain⟨c,hc,HC⟩:=one_byte (128-s.size) (by omega);have hO:=zh (bBn w1 w1.heap.size c (128-s.size) (by rw[hc];omega) lr);clear hc;go_wp2
   go_loopw [6,7,54] (fun v _ i wr=>∃ k:Nat,k≤s.size∧i=.int .i64 k∧cO wr w1.heap.size v (turned [c] s.data.toList k)∧Below w1.heap.size w1 wr) (fun _ _ i _=>s.size-(intOf i).toNat)
   case atStart=>exact⟨0,Nat.zero_le _,rfl,by rw[aAk];exact hO.out,zr.alloc lr _⟩
   case round =>
    obtain⟨k,hkk,rfl,jX,hB⟩:=hrel;have hcx:wr.cell? ⟨w.heap.size,1,none⟩=some (.string s):=(hB.cell (p:=⟨w.heap.size,1,none⟩) hz).trans hc1;have hzr:w.heap.size<wr.heap.size:=by have:=hB.size;omega
    have hlk:=aDp [c] s.data.toList k;simp only [List.length_cons,List.length_nil] at hlk;clear hc0 hc1 hO;by_cases hlt:k<s.size
    · have hbd:=s[k].toNat_lt;have hsb:=zh (rC s[k]);go_wp2_with (at_builtin;refine bD rfl (.tmp 57) (.tmp 63) 99 rfl underlying99 Tryz.info5 rfl (jX.alloc _) _ [255-s[k]] 1 _ rfl rfl (gQ _ _ _ hsb.out) (by simp;omega) (hB.alloc hB.size _) (by simp;have:=hB.size;omega) ?_;intro v2 w2 hO2 hB2 hs2);go_roundw
      case rel=>exact⟨k+1,by omega,by go_num,by rw[aAl _ s k hlt];exact hO2,hB2⟩
      case measure=>simp[intOf];omega
    · have hcv:=jX.conv 99 9 underlying99 underlying5 underlying9;rw[aDo _ s k hlt] at hcv;go_wp2
      go_ret2
      exact⟨_,rfl,zh (by rw[ByteArray.toList_mk,HC.out,bM,fC,aD,Lib.toList_data];simp[hk]),hbw.trans (hB.mono (Nat.le_of_lt hz))⟩
 · have hk2:126<s.size:=by omega
   have hk3:decide ((126:Int)<(s.size:Int))=true:=by simp;omega
   go_enter func127,ntmps127;go_wp2_with fail;refine(dY true s _ (by omega) 0 HR.out).mono ?_;rintro e w1 ⟨rfl,hb1⟩;obtain⟨hc0,hc1,hz,hbw⟩:=uH hb1;obtain⟨c,hc,HC⟩:=one_byte (255-s.size) (by omega);have hO:=zh (fun (o:Obj)=>bBo (w1.alloc o) w1.heap.size 1 c 1 (255-s.size) rfl (by rw[hc];omega) (by simp));clear hc;go_wp2
   go_loopw [6,7,54] (fun v _ i wr=>∃ k:Nat,k≤s.size∧i=.int .i64 k∧cO wr w1.heap.size v (turned [1,c] s.data.toList k)∧Below w1.heap.size w1 wr) (fun _ _ i _=>s.size-(intOf i).toNat)
   case atStart=>exact⟨0,Nat.zero_le _,rfl,by rw[aAk];simpa using hO.out _,(zr.alloc lr _).alloc (by simp) _⟩
   case round =>
    obtain⟨k,hkk,rfl,jX,hB⟩:=hrel;have hcx:wr.cell? ⟨w.heap.size,1,none⟩=some (.string s):=(hB.cell (p:=⟨w.heap.size,1,none⟩) hz).trans hc1;have hzr:w.heap.size<wr.heap.size:=by have:=hB.size;omega
    have hlk:=aDp [1,c] s.data.toList k;simp only [List.length_cons,List.length_nil] at hlk;clear hc0 hc1 hO;by_cases hlt:k<s.size
    · have hbd:=s[k].toNat_lt;have hsb:=zh (rC s[k]);go_wp2_with (at_builtin;refine bD rfl (.tmp 57) (.tmp 63) 99 rfl underlying99 Tryz.info5 rfl (jX.alloc _) _ [255-s[k]] 1 _ rfl rfl (gQ _ _ _ hsb.out) (by simp;omega) (hB.alloc hB.size _) (by simp;have:=hB.size;omega) ?_;intro v2 w2 hO2 hB2 hs2);go_roundw
      case rel=>exact⟨k+1,by omega,by go_num,by rw[aAl _ s k hlt];exact hO2,hB2⟩
      case measure=>simp[intOf];omega
    · have hcv:=jX.conv 99 9 underlying99 underlying5 underlying9;rw[aDo _ s k hlt] at hcv;go_wp2
      go_ret2
      exact⟨_,rfl,zh (by rw[ByteArray.toList_mk,HC.out,bM,fC,aD,Lib.toList_data];simp[hk]),hbw.trans (hB.mono (Nat.le_of_lt hz))⟩
theorem bGu (b:Bool) (s:ByteArray) (w:World) (hr:iJ b s.toList=0) :
 Calls prog 127 #[.agg #[.bool b,.string s]] w fun e w'=>∃ p:ByteArray,e=.returned (.tuple #[.string p,.int .i64 0])∧Hid (p.toList=bM b s.toList)∧Below w.heap.size w w':=by
 cases b
 · exact bBp s w hr
 · exact aWc s w hr
end
section
theorem aEg (a b:ByteArray) (w:World) (r:Int) (hr:cmp a.toList b.toList=r) :
 Calls prog 107 #[.string a,.string b] w fun e w'=>e=.returned (.int .i64 r)∧Below w.heap.size w w':=by
 have hl:=aWl a.toList b.toList;have he:=eq_iff a.toList b.toList;rw[hr] at hl he;rcases aRw a.toList b.toList with h | h | h<;>rw[h] at hr<;>subst hr
 · have hl':Op.bytesLess a.toList b.toList=true:=by rw[hl];rfl
   clear hl he h;go_enter func107,ntmps107;go_wp2
   go_ret;exact⟨rfl,zr⟩
 · have hl':Op.bytesLess a.toList b.toList=false:=by rw[hl];rfl
   have he':(a.toList==b.toList)=true:=by rw[he];rfl
   clear hl he h;go_enter func107,ntmps107;go_wp2
   go_ret;exact⟨rfl,zr⟩
 · have hl':Op.bytesLess a.toList b.toList=false:=by rw[hl];rfl
   have he':(a.toList==b.toList)=false:=by rw[he];rfl
   clear hl he h;go_enter func107,ntmps107;go_wp2
   go_ret;exact⟨rfl,zr⟩
theorem aWd (a b:ByteArray) (w:World) (_ha:a.size≤9223372036854775807) (_hb:b.size≤9223372036854775807) (r:Int) (hr:aRx a.toList b.toList=r) :
 Calls prog 84 #[.string a,.string b] w fun e w'=>e=.returned (.int .i64 r)∧Below w.heap.size w w':=by
 by_cases h1:a.size<b.size
 · have:r=-1:=by rw[← hr];unfold aRx;rw[if_pos (by rw[aD,aD];exact h1)]
   subst this;clear hr;go_enter func84,ntmps84;go_wp2
   go_ret;exact⟨rfl,zr⟩
 · by_cases h2:b.size<a.size
   · have:r=1:=by rw[← hr];unfold aRx;rw[if_neg (by rw[aD,aD];exact h1),if_pos (by rw[aD,aD];exact h2)]
     subst this;clear hr;go_enter func84,ntmps84;go_wp2
     go_ret;exact⟨rfl,zr⟩
   · have HR:=zh (show cmp a.toList b.toList=r by rw[← hr];unfold aRx;rw[if_neg (by rw[aD,aD];exact h1),if_neg (by rw[aD,aD];exact h2)]);clear hr;go_enter func84,ntmps84;go_wp2_with (first | (go_at_call 107;refine(aEg _ _ _ r HR.out).mono ?_;rintro e w1 ⟨rfl,hb1⟩) | go_in);go_ret;exact⟨rfl,hb1⟩
theorem keep {W w1:World} (hb:Below W.heap.size W w1) {p:Addr} {v:Value} (h:W.cell? p=some v):w1.cell? p=some v:=(hb.cell (World.block_lt_of_cell? W p h)).trans h
theorem vV {w w1:World} {x y:Bool} {a b:ByteArray} {T:TypeId}
 (hb:Below ((w.alloc (.cells #[.bool x,.string a] T)).alloc (.cells #[.bool y,.string b] T)).heap.size ((w.alloc (.cells #[.bool x,.string a] T)).alloc (.cells #[.bool y,.string b] T)) w1) :
 w1.cell? ⟨w.heap.size,0,none⟩=some (.bool x)∧w1.cell? ⟨w.heap.size,1,none⟩=some (.string a)∧w1.cell? ⟨w.heap.size+1,0,none⟩=some (.bool y)∧w1.cell? ⟨w.heap.size+1,1,none⟩=some (.string b) ∧
  w.heap.size+1<w1.heap.size∧Below w.heap.size w w1 :=
 ⟨keep hb (by simp),keep hb (by simp),keep hb (by simp),keep hb (by simp),by have:=hb.size;simp at this;omega,
  ((zr.alloc lr _).alloc (by simp) _).trans (hb.mono (by simp;omega))⟩
theorem mU (x:Bool) (a:ByteArray) (y:Bool) (b:ByteArray) (w:World) (ha:iJ x a.toList=0) (hb:iJ y b.toList=0) (r:Int) (hr:wE x a.toList y b.toList=r) :
 Calls prog 50 #[.agg #[.bool x,.string a],.agg #[.bool y,.string b]] w fun e w'=>e=.returned (.tuple #[.int .i64 r,.int .i64 0])∧Below w.heap.size w w':=by
 have la:=(dR.1 ha).1;have lb:=(dR.1 hb).1;rw[aD] at la lb;have HA:=zh ha;have HB:=zh hb;clear ha hb;cases x<;>cases y;all_goals
  simp only [wE,if_true,if_false,Bool.false_eq_true] at hr;have HR:=zh hr;clear hr;go_enter func50,ntmps50;go_wp2_with fail;refine(dY _ a _ (by omega) 0 HA.out).mono ?_;rintro e w1 ⟨rfl,hb1⟩;obtain⟨c0,c1,c2,c3,hz,hbw⟩:=vV hb1;go_wp2_with fail;refine(dY _ b _ (by omega) 0 HB.out).mono ?_;rintro e w2 ⟨rfl,hb2⟩;have d0:=keep hb2 c0;have d1:=keep hb2 c1;have d2:=keep hb2 c2;have d3:=keep hb2 c3;have hz2:w.heap.size+1<w2.heap.size:=by have:=hb2.size;omega
  clear c0 c1 c2 c3;go_wp2_with (go_at_call 84;refine(aWd _ _ _ (by omega) (by omega) r HR.out).mono ?_;rintro e w3 ⟨rfl,hb3⟩);go_ret2
  first | exact⟨rfl,two (two hbw hb2) hb3⟩ | (subst hr;exact⟨rfl,two hbw hb2⟩) | (have h:=HR.out;subst h;exact⟨rfl,two hbw hb2⟩)
theorem zW (x:Bool) (a:ByteArray) (y:Bool) (b:ByteArray) (w:World) (ha:a.size≤9223372036854775807) (hb:b.size≤9223372036854775807) (r:Int)
 (hr:(iJ x a.toList=r∧r≠0)∨(iJ x a.toList=0∧iJ y b.toList=r∧r≠0)) :
 Calls prog 50 #[.agg #[.bool x,.string a],.agg #[.bool y,.string b]] w fun e w'=>e=.returned (.tuple #[.int .i64 0,.int .i64 r])∧Below w.heap.size w w':=by
 rcases hr with ⟨h1,h2⟩ | ⟨h0,h1,h2⟩
 · have f:(r != 0)=true:=by simpa using h2
   have HA:=zh h1;clear h1 h2;go_enter func50,ntmps50;go_wp2_with fail;refine(dY _ a _ (by omega) r HA.out).mono ?_;rintro e w1 ⟨rfl,hb1⟩;obtain⟨_,_,_,_,_,hbw⟩:=vV hb1;go_wp2
   go_ret2
   exact⟨rfl,hbw⟩
 · have f:(r != 0)=true:=by simpa using h2
   have HA:=zh h0;have HB:=zh h1;clear h0 h1 h2;go_enter func50,ntmps50;go_wp2_with fail;refine(dY _ a _ (by omega) 0 HA.out).mono ?_;rintro e w1 ⟨rfl,hb1⟩;obtain⟨c0,c1,c2,c3,hz,hbw⟩:=vV hb1;go_wp2_with fail;refine(dY _ b _ (by omega) r HB.out).mono ?_;rintro e w2 ⟨rfl,hb2⟩;go_wp2
   go_ret2
   exact⟨rfl,two hbw hb2⟩
end
section
def aRv (a:Int):Ending:=.panicked [{ v:=.iface 290 (.agg #[.int .i64 a]),recovered:=false }]
theorem iN (a:Int) (w:World):Calls prog 171 #[.bool true,.int .i64 a] w fun e w'=>e=.returned (.tuple #[])∧w=w':=by
 have hnot:∀ (x:Bool) (w:World),(Op.unary .not (.bool x)).run prog w=.ok (.bool (!x)) w:=fun _ _=>rfl
 go_enter func171,ntmps171;go_wp2
 go_end0
 exact⟨rfl,rfl⟩
theorem tZ (a:Int) (w:World):Calls prog 171 #[.bool false,.int .i64 a] w fun e w'=>e=aRv a∧w=w':=by
 have hnot:∀ (x:Bool) (w:World),(Op.unary .not (.bool x)).run prog w=.ok (.bool (!x)) w:=fun _ _=>rfl
 go_enter func171,ntmps171;go_wp2
 exact⟨rfl,rfl,rfl⟩
structure Mv (b:Nat) (w w':World):Prop where
 os:w'.os=w.os
 tape:w'.tape=w.tape
 output:w'.output=w.output
 size:w.heap.size≤w'.heap.size
 block:∀ k,k≠b→w'.heap[k]?=w.heap[k]?
theorem Mv.refl (b:Nat) (w:World):Mv b w w:=⟨rfl,rfl,rfl,Nat.le_refl _,fun _ _=>rfl⟩
theorem Mv.drew {b:Nat} {w w':World} (h:Mv b w w'):Mv b w w'.drew:=⟨h.os,h.tape,h.output,h.size,h.block⟩
theorem Mv.drewN {b:Nat} {w w':World} (h:Mv b w w') (n:Nat):Mv b w (w'.drewN n):=⟨h.os,h.tape,h.output,h.size,h.block⟩
theorem Mv.trans {b:Nat} {w w' w'':World} (h:Mv b w w') (k:Mv b w' w''):Mv b w w'' :=
 ⟨k.os.trans h.os,k.tape.trans h.tape,k.output.trans h.output,Nat.le_trans h.size k.size,fun q hq=>(k.block q hq).trans (h.block q hq)⟩
theorem Mv.aU {b:Nat} {w w':World} (h:Mv b w w') (i:Nat) (v:Value):Mv b w (w'.setCell ⟨b,i,none⟩ v) :=
 ⟨h.os,h.tape,h.output,by simpa[World.setCell] using h.size,fun q hq=>by rw[Below.heap_setCell _ _ _ _ hq];exact h.block q hq⟩
theorem Mv.below {b B:Nat} {w w':World} (h:Mv b w w') (hB:B≤b):Below B w w':=⟨h.os,h.tape,h.output,h.size,fun k hk=>h.block k (by omega)⟩
theorem cO.mv {w w':World} {base b:Nat} {v:Value} {l:List UInt8} (h:cO w base v l) (hb:b<base) (hm:Mv b w w'):cO w' base v l:=by
 refine⟨h.1,?_⟩;rcases h.2 with hn | ⟨g,cap,cur,rfl,hg,hgg,rest⟩
 · exact .inl hn
 · exact .inr ⟨g,cap,cur,rfl,hg,(hm.block g (by omega)).trans hgg,rest⟩
def Rd (w:World) (b:Nat) (s:ByteArray) (a:Nat):Prop:=aC w b 294 #[.string s,.int .i64 a]
theorem Rd.step {w:World} {b:Nat} {s:ByteArray} {a:Nat} (h:Rd w b s a) (x:Int) (hx:x=((a+1:Nat):Int)) :
 Rd (w.setCell ⟨b,1,none⟩ (.int .i64 x)) b s (a+1):=by
 subst hx;exact aC.aU h 1 _
theorem Rd.drew {w:World} {b:Nat} {s:ByteArray} {a:Nat} (h:Rd w b s a):Rd w.drew b s a:=h
theorem gV (b:Nat) (s:ByteArray) (a:Nat) (w:World) (hr:Rd w b s a) (ha:a<s.size) (hs:s.size≤9223372036854775807) :
 Calls prog 170 #[.pointer (some ⟨b,0,none⟩)] w fun e w'=>e=.returned (.int .u8 (s[a].toNat:Int))∧Rd w' b s (a+1)∧Mv b w w':=by
 have c0:w.cell? ⟨b,0,none⟩=some (.string s):=hr.cell 0;have c1:w.cell? ⟨b,1,none⟩=some (.int .i64 (a:Int)):=hr.cell 1;have z1:w.frozen? ⟨b,1,none⟩=false:=hr.frozen 1;have hlt:decide ((a:Int)<(s.size:Int))=true:=by simpa using ha
 go_enter func170,ntmps170;go_wp2_with (go_quiet (exact(iN _ _).mono fun _ _ ⟨h1,h2⟩=>⟨h1,_,h2.symm⟩));go_ret;exact⟨rfl,Rd.step (show Rd (w.drewN _) b s a from hr) _ (by omega),(((Mv.refl b w).drewN _).aU 1 _).drewN _⟩
theorem aBb (b:Nat) (s:ByteArray) (w:World) (hr:Rd w b s s.size) (_hs:s.size≤9223372036854775807) :
 Calls prog 170 #[.pointer (some ⟨b,0,none⟩)] w fun e w'=>e=aRv s.size∧Mv b w w':=by
 have c0:w.cell? ⟨b,0,none⟩=some (.string s):=hr.cell 0;have c1:w.cell? ⟨b,1,none⟩=some (.int .i64 (s.size:Int)):=hr.cell 1;have hlt:decide ((s.size:Int)<(s.size:Int))=false:=by simp
 go_enter func170,ntmps170;go_wp2_with fail;refine wp_region_held_drew (S:=fun w'=>w'.cell? ⟨b,0,none⟩=some (.string s)∧w'.cell? ⟨b,1,none⟩=some (.int .i64 (s.size:Int))∧w'.heap=w.heap) (by kernel_rfl) ⟨c0,c1,rfl⟩ (fun hHeld=>?_);refine tx 0 ?v0 rfl (by kernel_rfl) tq (by rfl) ?hy0 (by assumption) ?aCd;case hy0=>(rintro w ⟨hc0,hc1,hh⟩;go_simp;try with_reducible rfl)
 simp[Act.put];refine tx 1 ?v1 rfl (by kernel_rfl) tq (by rfl) ?hy1 (by assumption) ?aFe;case hy1=>(rintro w ⟨hc0,hc1,hh⟩;go_simp;try with_reducible rfl)
 simp[Act.put];refine tx 2 ?v2 rfl (by kernel_rfl) tq (by rfl) ?hy2 (by assumption) ?aCe;case hy2=>(rintro w ⟨hc0,hc1,hh⟩;go_simp;try with_reducible rfl)
 simp[Act.put];refine tx 3 ?v3 rfl (by kernel_rfl) tq (by rfl) ?hy3 (by assumption) ?aFf;case hy3=>(rintro w ⟨hc0,hc1,hh⟩;go_simp;try with_reducible rfl)
 simp[Act.put];refine tx 4 ?v4 rfl (by kernel_rfl) tq (by rfl) ?hy4 (by assumption) ?aKf;case hy4=>(rintro w ⟨hc0,hc1,hh⟩;go_simp;try with_reducible rfl)
 simp[Act.put];refine tx 5 ?v5 rfl (by kernel_rfl) tq (by rfl) ?hy5 (by assumption) ?aYl;case hy5=>(rintro w ⟨hc0,hc1,hh⟩;go_simp;try with_reducible rfl)
 simp[Act.put];refine tx 6 ?v6 rfl (by kernel_rfl) tq (by rfl) ?hy6 (by assumption) ?aZq;case hy6=>(rintro w ⟨hc0,hc1,hh⟩;go_simp;try with_reducible rfl)
 simp[Act.put];refine tx 7 ?v7 rfl (by kernel_rfl) tq (by rfl) ?hy7 (by assumption) ?aRb;case hy7=>(rintro w ⟨hc0,hc1,hh⟩;go_simp;try with_reducible rfl)
 simp[Act.put];refine tx 8 ?v8 rfl (by kernel_rfl) tq (by rfl) ?hy8 (by assumption) ?aRc;case hy8=>(rintro w ⟨hc0,hc1,hh⟩;go_simp;try with_reducible rfl)
 simp[Act.put];refine tx 9 ?v9 rfl (by kernel_rfl) tq (by rfl) ?hy9 (by assumption) ?aRd;case hy9=>(rintro w ⟨hc0,hc1,hh⟩;go_simp;try with_reducible rfl)
 simp[Act.put];refine tx 10 ?v10 rfl (by kernel_rfl) tq (by rfl) ?aNq (by assumption) ?aNr;case aNq=>(rintro w ⟨hc0,hc1,hh⟩;go_simp;try with_reducible rfl)
 simp[Act.put];refine tx 11 ?v11 rfl (by kernel_rfl) tq (by rfl) ?aNs (by assumption) ?aNt;case aNs=>(rintro w ⟨hc0,hc1,hh⟩;go_simp;try with_reducible rfl)
 simp[Act.put];refine tx 12 ?v12 rfl (by kernel_rfl) tq (by rfl) ?aHf (by assumption) ?aHg;case aHf=>(rintro w ⟨hc0,hc1,hh⟩;go_simp;try with_reducible rfl)
 simp[Act.put];refine tx 13 ?v13 rfl (by kernel_rfl) tq (by rfl) ?aOc (by assumption) ?aOd;case aOc=>(rintro w ⟨hc0,hc1,hh⟩;go_simp;try with_reducible rfl)
 simp[Act.put];refine tx 14 ?v14 rfl (by kernel_rfl) tq (by rfl) ?aHh (by assumption) ?aHi;case aHh=>(rintro w ⟨hc0,hc1,hh⟩;go_simp;try with_reducible rfl)
 simp[Act.put];refine wpAnyH_ready (rs:=[15]) (by kernel_rfl) (by simp) ?_;refine AllReadyH.cons rfl (fun K hK=>?_) AllReadyH.nil;go_simp;refine(tZ _ _).mono ?_;rintro e w1 ⟨rfl,rfl⟩;exact⟨rfl,rfl,(Mv.refl b w).drew⟩
end
namespace We
open Ta (El)
structure Wd where
 e:El
 w:Bool
def Wd.cells (x:Wd):List Value:=[.bool x.e.v,.int .i64 x.e.p,.int .i64 x.e.s,.int .i64 x.e.t,.bool x.w]
def Wd.val (x:Wd):Value:=.agg #[.bool x.e.v,.int .i64 x.e.p,.int .i64 x.e.s,.int .i64 x.e.t,.bool x.w]
def rP (i:Nat) (x:Wd):Int :=
 match i with
 | 0=>if x.w then 0 else x.e.p
 | 1=>if x.w then 0 else x.e.s
 | 2=>if x.w then 0 else x.e.t
 | _=>if x.e.v then x.e.p else if x.w || (x.e.p==0&&x.e.s==0&&x.e.t==0) then 0 else 65535
def bGf:Nat→Nat
 | 0=>224
 | 1=>225
 | 2=>226
 | _=>227
theorem vW (v:Bool) (p s t:Int) (z:Bool) (n:Int) (w:World) :
 Calls prog 241 #[.agg #[.bool v,.int .i64 p,.int .i64 s,.int .i64 t,.bool z],.int .i64 n] w fun e w'=>e=.returned (.int .i64 (if z then 0 else n))∧Below w.heap.size w w':=by
 cases z;all_goals
  simp only [if_true,Bool.false_eq_true,if_false];go_enter func241,ntmps241;go_wp2_with fail;go_ret;exact⟨rfl,zr.alloc lr _⟩
theorem aMe (x:Wd) (w:World):Calls prog 224 #[x.val] w fun e w'=>e=.returned (.int .i64 (rP 0 x))∧Below w.heap.size w w':=by
 obtain⟨⟨v,p,s,t⟩,z⟩:=x;unfold Wd.val rP;dsimp only
 obtain⟨r,hr⟩:∃ r,(if z=true then (0:Int) else p)=r:=⟨_,rfl⟩
 rw[hr];have HR:=zh hr;clear hr;go_enter func224,ntmps224;go_wp2_with fail;refine(vW v p s t z p _).mono ?_;rintro e w1 ⟨rfl,hb⟩;have hB:=((Below.refl w.heap.size w).alloc lr (.cells #[.bool v,.int .i64 p,.int .i64 s,.int .i64 t,.bool z] 328)).trans (hb.mono (by simp));rw[HR.out];clear hb;go_wp2_with fail;go_ret;exact⟨rfl,hB⟩
theorem aEh (x:Wd) (w:World):Calls prog 225 #[x.val] w fun e w'=>e=.returned (.int .i64 (rP 1 x))∧Below w.heap.size w w':=by
 obtain⟨⟨v,p,s,t⟩,z⟩:=x;unfold Wd.val rP;dsimp only
 obtain⟨r,hr⟩:∃ r,(if z=true then (0:Int) else s)=r:=⟨_,rfl⟩
 rw[hr];have HR:=zh hr;clear hr;go_enter func225,ntmps225;go_wp2_with fail;refine(vW v p s t z s _).mono ?_;rintro e w1 ⟨rfl,hb⟩;have hB:=((Below.refl w.heap.size w).alloc lr (.cells #[.bool v,.int .i64 p,.int .i64 s,.int .i64 t,.bool z] 328)).trans (hb.mono (by simp));rw[HR.out];clear hb;go_wp2_with fail;go_ret;exact⟨rfl,hB⟩
theorem aIi (x:Wd) (w:World):Calls prog 226 #[x.val] w fun e w'=>e=.returned (.int .i64 (rP 2 x))∧Below w.heap.size w w':=by
 obtain⟨⟨v,p,s,t⟩,z⟩:=x;unfold Wd.val rP;dsimp only
 obtain⟨r,hr⟩:∃ r,(if z=true then (0:Int) else t)=r:=⟨_,rfl⟩
 rw[hr];have HR:=zh hr;clear hr;go_enter func226,ntmps226;go_wp2_with fail;refine(vW v p s t z t _).mono ?_;rintro e w1 ⟨rfl,hb⟩;have hB:=((Below.refl w.heap.size w).alloc lr (.cells #[.bool v,.int .i64 p,.int .i64 s,.int .i64 t,.bool z] 328)).trans (hb.mono (by simp));rw[HR.out];clear hb;go_wp2_with fail;go_ret;exact⟨rfl,hB⟩
theorem aEi (v:Bool) (p s t:Int) (z:Bool) (w:World) (r:Int) (hr:Hid (r=rP 3 ⟨⟨v,p,s,t⟩,z⟩)) (bp bs bt:Bool) (h1:(p==0)=bp) (h2:(s==0)=bs) (h3:(t==0)=bt) (hv:r=if v then p else if z || (bp&&bs&&bt) then 0 else 65535) :
 Calls prog 227 #[.agg #[.bool v,.int .i64 p,.int .i64 s,.int .i64 t,.bool z]] w fun e w'=>e=.returned (.int .i64 r)∧Below w.heap.size w w':=by
 cases v<;>cases z<;>cases bp<;>cases bs<;>cases bt;all_goals
  simp only [Bool.false_eq_true,if_false,if_true,Bool.or_true,Bool.or_false,Bool.and_true,Bool.and_false,Bool.false_and,Bool.true_and,Bool.false_or,Bool.true_or] at hv;subst hv;clear hr;go_enter func227,ntmps227;go_wp2_with fail;go_ret;exact⟨rfl,zr.alloc lr _⟩
theorem aDq (x:Wd) (w:World):Calls prog 227 #[x.val] w fun e w'=>e=.returned (.int .i64 (rP 3 x))∧Below w.heap.size w w':=by
 obtain⟨⟨v,p,s,t⟩,z⟩:=x;exact aEi v p s t z w _ (zh rfl) _ _ _ rfl rfl rfl rfl
def bGe:Array Value:=#[.func (.func 224) #[] #[],.func (.func 225) #[] #[],.func (.func 226) #[] #[],.func (.func 227) #[] #[]]
theorem aNb (w:World):Calls prog 202 #[] w fun e w'=>e=.returned (.slice (some ⟨w.heap.size,0,none⟩) 4 4)∧w'=w.alloc (.cells bGe 333):=by
 go_enter func202,ntmps202;go_wp2_with fail;go_ret;exact⟨rfl,rfl⟩
theorem aTa (i:Nat) (x:Wd) (w:World):Calls prog (bGf i) #[x.val] w fun e w'=>e=.returned (.int .i64 (rP i x))∧Below w.heap.size w w' :=
 match i with
 | 0=>aMe x w
 | 1=>aEh x w
 | 2=>aIi x w
 | _+3=>aDq x w
end We
namespace Ta
open Go.Maps Go.WideMaps
open D (aF jW)
def fD (l:List Int):List Int:=if l.length≤8 then (l.length:Int)::(l++List.replicate (8-l.length) 0) else List.replicate 9 0
def bX (xs:List Int):Value:=.agg (nv xs).toArray
theorem gX (l:List Int):(fD l).length=9:=by
 unfold fD;split
 · simp;omega
 · simp
theorem bBq (s:Value) (l:List Int) (w:World) (lo hi:Nat) (hs:IntsIn w lo hi s l) (hl:¬ l.length≤8) :
 Calls prog 65 #[s] w fun e w'=>e=.returned (.tuple #[bX (fD l),.bool (decide (l.length≤8))])∧Below w.heap.size w w':=by
 obtain⟨a,cap,rfl,hc,_⟩:=hs.form;rw[show decide (l.length≤8)=false by simpa using hl,show bX (fD l)=.agg #[.int .i64 0,.int .i64 0,.int .i64 0,.int .i64 0,.int .i64 0,.int .i64 0,.int .i64 0,.int .i64 0,.int .i64 0] by unfold fD;rw[if_neg hl];rfl];have d0:decide ((8:Int)<(l.length:Int))=true:=by simp;omega
 clear hs hl;go_enter func65,ntmps65;go_wp2_with fail;exact bodyPost_ret (v:=.tuple #[.agg #[.int .i64 0,.int .i64 0,.int .i64 0,.int .i64 0,.int .i64 0,.int .i64 0,.int .i64 0,.int .i64 0,.int .i64 0],.bool false]) (by simp[results,Tryz.f65,go_sem]) rfl ⟨rfl,(zr.alloc lr _).alloc (by simp) _⟩
theorem bJd (l:List Int):(nv l).toArray.all (·.oneCell')=true:=by
 rw[Array.all_eq_true_iff_forall_mem];intro u hu;exact rG l u (by simpa using hu)
theorem aIj (l:List Int):(nv (fD l)).toArray.size=9:=by simp[dA,gX]
theorem aIk:(prog.info? 179).map (·.size)=some 9:=by kernel_rfl
theorem bJe:(prog.info? 3).map (·.size)=some 1:=by kernel_rfl
def qR:Array Value:=#[.int .i64 0,.int .i64 0,.int .i64 0,.int .i64 0,.int .i64 0,.int .i64 0,.int .i64 0,.int .i64 0,.int .i64 0]
theorem aQi (l:List Int) (h:l.length≤8):splice ((qR.setIfInBounds 0 (.int .i64 l.length)).toList) 1 (nv l)=nv (fD l):=by
 unfold fD;rw[if_pos h];match l,h with
 | [],_=>rfl
 | [_],_=>rfl
 | [_,_],_=>rfl
 | [_,_,_],_=>rfl
 | [_,_,_,_],_=>rfl
 | [_,_,_,_,_],_=>rfl
 | [_,_,_,_,_,_],_=>rfl
 | [_,_,_,_,_,_,_],_=>rfl
 | [_,_,_,_,_,_,_,_],_=>rfl
 | _::_::_::_::_::_::_::_::_::_,h=>simp at h
theorem aWe (s:Value) (l:List Int) (w:World) (lo hi:Nat) (hs:IntsIn w lo hi s l) (hhi:hi≤w.heap.size) (hl:l.length≤8) :
 Calls prog 65 #[s] w fun e w'=>e=.returned (.tuple #[bX (fD l),.bool (decide (l.length≤8))])∧Below w.heap.size w w':=by
 obtain⟨a,cap,rfl,hc,hn⟩:=hs.form;rw[show decide (l.length≤8)=true by simpa using hl];have d0:decide ((8:Int)<(l.length:Int))=false:=by simp;omega
 obtain⟨W1,hW1⟩:∃ W1,(w.alloc (.cells qR 179)).alloc (.cells (qR.setIfInBounds 0 (.int .i64 l.length)) 179)=W1:=⟨_,rfl⟩
 have g3:W1.heap[w.heap.size]?=some (.cells qR 179 (0,0)):=by rw[← hW1];exact heap_alloc2_old w _ _
 have g2:W1.heap[w.heap.size+1]?=some (.cells ((qR.setIfInBounds 0 (.int .i64 l.length)).toList.toArray) 179 (0,0)):=by rw[← hW1];exact heap_alloc2_new w _ _
 have hb2:Below w.heap.size w W1:=by rw[← hW1];exact(zr.alloc lr _).alloc (by simp) _
 have hsrc:0<(nv l).length→(some (⟨w.heap.size+1,1,none⟩:Addr))=some ⟨w.heap.size+1,1,none⟩∧∃ ad,a=some ad∧∀ j v,(nv l)[j]?=some v→W1.cell? (ad.add j)=some v:=by
  intro hpos;refine⟨rfl,?_⟩;obtain⟨a',cap',he,_,_,hcells⟩:=hs;injection he with e1 e2 e3
  subst e1;rw[dA] at hpos;obtain⟨g,off,ha,_⟩:=hcells 0 hpos;refine⟨⟨g,off,none⟩,ha,fun j v hv=>?_⟩;simp only [nv,List.getElem?_map,Option.map_eq_some_iff] at hv;obtain⟨y,hy,rfl⟩:=hv;obtain⟨hj,rfl⟩:=List.getElem?_eq_some_iff.1 hy;obtain⟨g',off',ha',_,h4,h5⟩:=hcells j hj;rw[ha] at ha';cases ha';have h6:=(hb2.cell (p:=⟨g,off+j,none⟩) (by show g<w.heap.size;omega)).trans h5;by_cases h0:j=0
  · subst h0;simpa[Addr.add] using h6
  · simpa[Addr.add,h0] using h6
 have HS:=zh hsrc;have HG2:=zh g2;have HG3:=zh g3;have HB2:=zh hb2;have HL:=zh hl;have HW:=zh hW1;clear hs hl hsrc g2 g3 hb2 hW1 hn;go_enter func65,ntmps65;go_wp2_with (first
  | (refine wpList_copy_splice rfl (.tmp 12) (.tmp 13) 42 42 rfl 3 underlying42 bJe _ a 8 8 l.length cap rfl rfl (w.heap.size+1) 1 _ 179 (by rw[← HW.out] at HG2;exact HG2.out) (nv l) (by rw[dA];exact(Nat.min_eq_left HL.out).symm) (by rw[← HW.out] at HS;exact HS.out) (by rw[dA];have:=HL.out;simp[qR];omega) (rG l) (w.heap.size+1) _ zr lr ?_
     intro w3 hg3 hb3;have HG4:=zh (show w3.heap[w.heap.size+1]?=some (.cells (nv (fD l)).toArray 179 (0,0)) by rw[← aQi l HL.out];exact hg3);have HG5:=zh (show w3.heap[w.heap.size]?=some (.cells qR 179 (0,0)) from(hb3.block w.heap.size (Nat.lt_succ_self _)).trans (by rw[← HW.out] at HG3;exact HG3.out));have HB3:=zh (show Below w.heap.size w w3 from(show Below w.heap.size w _ by rw[← HW.out] at HB2;exact HB2.out).trans (hb3.mono (Nat.le_succ _)));clear hg3 hb3)
  | (refine wpList_load_row rfl 179 (.tmp 4) rfl (w.heap.size+1) rfl 179 _ (0,0) (.array 9 3) (Hid.out (by assumption)) underlying179 rfl (by rw[aIj];exact aIk) ?_)
  | (refine wpList_store_row rfl 179 (.tmp 2) (.tmp 15) rfl w.heap.size (nv (fD l)).toArray rfl rfl 179 qR (Hid.out (by assumption)) (by rw[aIj];exact aIk) (by rw[aIj];rfl) (bJd _) ?_))
 have h1:=setRow_heap w3 w.heap.size qR (nv (fD l)).toArray 179 _ HG5.out;have hr:=run_loadVar_row (P:=prog) _ w.heap.size 179 179 (nv (fD l)).toArray (0,0) (.array 9 3) h1 underlying179 rfl (by rw[aIj];exact aIk);have aB:Below w.heap.size w (w3.setRow w.heap.size (nv (fD l)).toArray):=HB3.out.trans ⟨rfl,rfl,rfl,by simp[World.setRow],fun k hk=>setRow_other w3 w.heap.size k _ (by omega)⟩;exact bodyPost_ret (v:=.tuple #[bX (fD l),.bool true]) (by simp[results,Tryz.f65,asAddr,hr,bX]) rfl ⟨rfl,aB⟩
theorem oI (s:Value) (l:List Int) (w:World) (lo hi:Nat) (hs:IntsIn w lo hi s l) (hhi:hi≤w.heap.size) :
 Calls prog 65 #[s] w fun e w'=>e=.returned (.tuple #[bX (fD l),.bool (decide (l.length≤8))])∧Below w.heap.size w w':=by
 by_cases h:l.length≤8
 · exact aWe s l w lo hi hs hhi h
 · exact bBq s l w lo hi hs h
theorem aIl:ArrKey prog 179 3 9:=⟨underlying179,by kernel_rfl,by kernel_rfl,by kernel_rfl⟩
theorem oH:Keyed prog 179:=Keyed.of_law aIl.law
theorem bBr:∃ m,prog.types.size=m+1:=⟨prog.types.size-1,by kernel_rfl⟩
theorem bJf (a b c d e f g h i:Int) (wa:aF a) (wb:aF b) (wc:aF c) (wd:aF d) (we:aF e) (wf:aF f) (wg:aF g) (wh:aF h) (wi:aF i) :
 keyOf prog 179 (bX [a,b,c,d,e,f,g,h,i])=some (.string (keyBytes [.int .i64 a,.int .i64 b,.int .i64 c,.int .i64 d,.int .i64 e,.int .i64 f,.int .i64 g,.int .i64 h,.int .i64 i])):=by
 have c1:prog.cellsOf 179=9:=aIl.size;have c2:prog.cellsOf 3=1:=aIl.one;obtain⟨m,hm⟩:=bBr;unfold keyOf;simp only [underlying179,aIl.keyType bBr,Value.formed,bX,nv,Bool.true_and,c1];rw[hm];simp[Program.keyLits,underlying179,underlying3,c1,c2,Value.cells,List.range,List.range.loop,jW wa,jW wb,jW wc,jW wd,jW we,jW wf,jW wg,jW wh,jW wi]
theorem kD (xs:List Int) (h:xs.length=9) (hw:∀ x∈xs,aF x):∃ kl,keyOf prog 179 (bX xs)=some kl:=by
 match xs,h with
 | [a,b,c,d,e,f,g,h,i],_ =>
  simp only [List.mem_cons,List.not_mem_nil,or_false,forall_eq_or_imp,forall_eq] at hw;obtain⟨h1,h2,h3,h4,h5,h6,h7,h8,h9⟩:=hw;exact⟨_,bJf a b c d e f g h i h1 h2 h3 h4 h5 h6 h7 h8 h9⟩
theorem lZ {l:List Int} (h:∀ x∈l,aF x):∀ x∈fD l,aF x:=by
 intro x hx;unfold fD at hx;split at hx
 · rcases List.mem_cons.1 hx with rfl | hx
   · unfold aF;omega
   · rcases List.mem_append.1 hx with hx | hx
     · exact h x hx
     · obtain rfl:=List.eq_of_mem_replicate hx;unfold aF;omega
 · obtain rfl:=List.eq_of_mem_replicate hx;unfold aF;omega
theorem aDg {x y:List Int} (h:bX x=bX y):x=y:=by
 unfold bX at h;injection h with h
 have h2:nv x=nv y:=by simpa using congrArg Array.toList h
 exact List.map_inj_right (fun a b e=>by injection e) |>.1 h2
theorem xI {l m:List Int} (hl:l.length≤8) (hm:m.length≤8) (h:fD l=fD m):l=m:=by
 unfold fD at h;rw[if_pos hl,if_pos hm] at h;injection h with h1 h2
 have h3:l.length=m.length:=by omega
 rw[h3] at h2;exact List.append_inj_left h2 h3
end Ta
namespace U
open Go.Shelf
attribute [local go_sem] Oper.semAt_some
theorem info3:(prog.info? 3).map (fun i=>(i.zero,i.size,i.bytes))=some (some (.int .i64 0),1,8):=by kernel_rfl
def iQ (l:List (Int×Int)):List Int:=l.map (·.2)
def lN (s:ByteArray):List Int:=iQ (items s)
theorem aEj (s:ByteArray) (f k:Nat):(iH s f k).length≤f:=by
 induction f generalizing k with
 | zero=>simp[iH]
 | succ f ih =>
  unfold iH;split
  · split
    · simp
    · have:=ih (k+aZ s k);simp only [List.length_cons];omega
  · simp
theorem wI (s:ByteArray):(items s).length≤s.size:=aEj ..
theorem aDr {W:World} {b c:Nat} {v u:Value} {n:Nat} {xs:List Value} (h:W.ownsRow b 3 1 v n xs) (hc:c<b):(W.setCell ⟨c,0,none⟩ u).ownsRow b 3 1 v n xs:=by
 refine h.kept (grownBy_setCell' W c u) ?_;rcases h.2 with ⟨rfl,_⟩ | ⟨g,cap,cur,rfl,hg,_⟩
 · exact .inl rfl
 · exact .inr fun e=>by simp[Value.ownBlock] at e;omega
theorem Bad.bBs {s:ByteArray} {pre:List (Int×Int)} {a:Int} (hb:Bad pre a) (hp:pre <+: items s):¬ Good (items s):=by
 obtain⟨ini,last,rfl,_,hl,_⟩:=hb;obtain⟨r,hr⟩:=hp;intro hg;have:=hg last (by rw[← hr];simp);omega
theorem zK {b:Nat} {t:TypeId} {v:Value} {X Y:World} {row:Option Nat} (h:Boxed X b t v) (hg:X.grownBy Y row) (hr:∀ r,row=some r→∃ o,X.heap[r]?=some o∧o.isCells=false):Boxed Y b t v :=
 h.kept hg (fun e=>by obtain⟨o,ho,hc⟩:=hr b e.symm;rw[show X.heap[b]?=_ from h] at ho;cases ho;cases hc)
theorem aNa (s:ByteArray) (hs:s.size≤65536) (w:World) :
 Calls prog 200 #[.string s] w fun e w'=>Below w.heap.size w w' ∧
  ((Good (items s)∧∃ v,e=.returned (.tuple #[v,.int .i64 0,.int .i64 0])∧aJ w' w.heap.size v (lN s)) ∨
   (∃ a,bK s=a∧¬ Good (items s)∧e=.returned (.tuple #[.slice none 0 0,.int .i64 30,.int .i64 a]))):=by
 obtain⟨i0,hi,hz0,hz1,hz2⟩:=info_parts info3;refine(callsIn_wide (n:=10)).1 ?_;refine callsIn_of_wp_marks func200 rfl trivial ?_ rfl;simp only [ntmps200,List.size_toArray,List.length_cons,List.length_nil,Nat.reduceAdd,Nat.reduceSub,Array.replicate_succ,Array.replicate_zero,List.push_toArray,List.append_toArray,List.nil_append,List.cons_append];gi_wp2
 refine⟨trivial,(aMb _ _ _).mono ?_⟩;rintro e w' ⟨rfl,rfl⟩;gi_wp2
 obtain⟨B,hBe⟩:∃ B,w.heap.size=B:=⟨_,rfl⟩
 obtain⟨W0,hW0⟩:∃ W0,((((w.alloc (.cells #[.slice none 0 0] 42)).alloc (.cells #[.int .i64 0] 41)).alloc (.cells #[.int .i64 0] 3)).alloc (.cells #[.slice none 0 0] 42)).alloc (.cells #[.string s] 9)=W0:=⟨_,rfl⟩
 have b0:Boxed W0 B 42 (.slice none 0 0):=by rw[← hW0,← hBe];exact((((Boxed.new w 42 _).alloc _).alloc _).alloc _).alloc _
 have b1:Boxed W0 (B+1) 41 (.int .i64 0):=by rw[← hW0,← hBe];simpa using (((Boxed.new (w.alloc (.cells #[.slice none 0 0] 42)) 41 (.int .i64 0)).alloc (.cells #[.int .i64 0] 3)).alloc (.cells #[.slice none 0 0] 42)).alloc (.cells #[.string s] 9)
 have b2:Boxed W0 (B+2) 3 (.int .i64 0):=by rw[← hW0,← hBe];simpa using ((Boxed.new ((w.alloc (.cells #[.slice none 0 0] 42)).alloc (.cells #[.int .i64 0] 41)) 3 (.int .i64 0)).alloc (.cells #[.slice none 0 0] 42)).alloc (.cells #[.string s] 9)
 have b3:Boxed W0 (B+3) 42 (.slice none 0 0):=by rw[← hW0,← hBe];simpa using (Boxed.new (((w.alloc (.cells #[.slice none 0 0] 42)).alloc (.cells #[.int .i64 0] 41)).alloc (.cells #[.int .i64 0] 3)) 42 (.slice none 0 0)).alloc (.cells #[.string s] 9)
 have b4:Boxed W0 (B+4) 9 (.string s):=by rw[← hW0,← hBe];simpa using Boxed.new ((((w.alloc (.cells #[.slice none 0 0] 42)).alloc (.cells #[.int .i64 0] 41)).alloc (.cells #[.int .i64 0] 3)).alloc (.cells #[.slice none 0 0] 42)) 9 (.string s)
 have hsz:W0.heap.size=B+5:=by rw[← hW0,← hBe];simp
 have hB0:Below B w W0:=by rw[← hW0,← hBe];exact((((zr.alloc lr _).alloc (by simp) _).alloc (by simp;omega) _).alloc (by simp;omega) _).alloc (by simp;omega) _
 rw[hW0];simp only [hBe,Nat.add_assoc,Nat.reduceAdd];clear hW0;have hlenS:=wI s;refine wpIn_rangeFunc_ownG rfl (by omega) (gf:=108) (lb:=#[.pointer (some ⟨B+4,0,none⟩)]) (by simp[go_sem]) trivial (enters_of func108 (by kernel_rfl) rfl)
  (aAi (B+4) s (by omega) W0 b4.lt b4.cell) bFa (bFb b4.lt) zr (fun _=>rfl)
  (fun pre W=>((∃ v,Boxed W (B+3) 42 v∧W.ownsRow (B+3) 3 1 v (iQ pre).length (nv (iQ pre))∧Good pre)∧(Boxed W B 42 (.slice none 0 0)∧Boxed W (B+1) 41 (.int .i64 0)∧Boxed W (B+2) 3 (.int .i64 0)∧Boxed W (B+4) 9 (.string s)))∧Below B w W)
  (fun c pre W=>(c=.ret∧∃ a,Bad pre a∧Boxed W B 42 (.slice none 0 0)∧Boxed W (B+1) 41 (.int .i64 30)∧Boxed W (B+2) 3 (.int .i64 a))∧Below B w W)
  (OwnFrom.and (OwnFrom.and (Own.from (holdsRow_own (B+3) (B+3) 42 3 1 (fun pre=>(iQ pre).length) (fun pre=>nv (iQ pre)) (fun pre _=>Good pre)) _)
   (Own.from (fun s A B' row hs hg hr=>⟨zK hs.1 hg hr,zK hs.2.1 hg hr,zK hs.2.2.1 hg hr,zK hs.2.2.2 hg hr⟩) _)) (ownFrom_below (by omega) (by omega)))
  (fun c=>OwnFrom.and (Own.from (fun s A B' row hs hg hr=>by obtain⟨hc,a,e1,e2,e3,e4⟩:=hs;exact⟨hc,a,e1,zK e2 hg hr,zK e3 hg hr,zK e4 hg hr⟩) _) (ownFrom_below (by omega) (by omega)))
  ⟨⟨⟨_,b3,World.ownsRow_nil _ _ _ _,Good.nil⟩,b0,b1,b2,b4⟩,hB0⟩
  (fun x=>{ tmps:=#[.string s,undef,.pointer (some ⟨B,0,none⟩),.pointer (some ⟨B+1,0,none⟩),.pointer (some ⟨B+2,0,none⟩),.pointer (some ⟨B+3,0,none⟩),.int .i64 x.1,.int .i64 x.2,.string s,.func (.func 108) #[] #[.pointer (some ⟨B+4,0,none⟩)],.int .i64 x.1,.int .i64 x.2,undef,undef,undef,undef,undef,undef,undef,undef],defers:=[] }) ?assign ?body ?done ?stop
 case assign =>
  intro l x W K hK;gi_wp2
  exact hK
 case body =>
  rintro l pre x W ⟨⟨⟨v,hv,hrow,hgood⟩,r0,r1,r2,r4⟩,hB⟩ hlt;have hc:=hv.cell;have hpl:(iQ pre).length=pre.length:=by simp[iQ]
  have c0:=r0.cell;have c1:=r1.cell;have c2:=r2.cell;have f0:=r0.frozen;have f1:=r1.frozen;have f2:=r2.frozen;gi_wp2_with (gi_at_builtin;refine wpListIn_append_own _ rfl _ _ 42 rfl (B+3) 3 i0 (.int .i64 0) 1 8 underlying42 hi hz0 hz1 hz2 rfl (by decide) _ _ _ rfl (hrow.alloc _) ⟨W.heap.size,0,none⟩ 1 1 [.int .i64 x.2] rfl rfl (cell_one_new _ _ _) (by simp[Value.oneCell']) (bEw (by omega)) (by omega) (by have:=hv.lt;simp;omega) ?_;intro v' w1 hown' hgrow _;obtain⟨g',cap',rfl⟩:=ownsRow_succ hown';obtain⟨hv1,hv2,hr2,hk2,hb2⟩:=hv.appended (by decide) hrow (by have:=hv.lt;omega) lr hown' hgrow;have hc1:=hv1.cell;have hf1:=hv1.frozen)
  · have hx:x.2<0:=by assumption
    refine⟨(((KeepsOthers.setCell _ _ _).trans (KeepsOthers.setCell _ _ _)).trans (KeepsOthers.setCell _ _ _)).from _,⟨rfl,x.1,hgood.bad hx,?_,?_,?_⟩,?_⟩
    · exact((r0.set _).other (by omega) _).other (by omega) _
    · exact(((r1.other (by omega) _).set _).other (by omega) _)
    · exact((r2.other (by omega) _).other (by omega) _).set _
    · exact((hB.setCell (p:=⟨B,0,none⟩) lr _).setCell (p:=⟨B+1,0,none⟩) (Nat.le_succ _) _).setCell (p:=⟨B+2,0,none⟩) (by show B≤B+2;omega) _
  · have hx:0≤x.2:=by assumption
    have r4':Boxed (w1.setCell ⟨B+3,0,none⟩ (.slice (some ⟨g',0,none⟩) (pre.length+1) cap')) (B+4) 9 (.string s):=((r4.alloc _).kept hgrow (r4.not_row (by decide) hrow)).other (by omega) _;have hps:iQ (pre++[x])=iQ pre++[x.2]:=by simp[iQ]
    rw[hpl] at hv2 hr2 hk2 hb2;refine⟨hk2.from _,r4'.cell.trans r4.cell.symm,⟨⟨_,hv2,?_,hgood.snoc hx⟩,(hb2.block _ (by omega)).trans r0,(hb2.block _ (by omega)).trans r1,(hb2.block _ (by omega)).trans r2,r4'⟩,hB.trans (hb2.mono (by omega))⟩;rw[hps,List.length_append,hpl];simpa[nv] using hr2
 case done =>
  rintro D ys W hD rfl ⟨⟨⟨v,hv,hrow,hgood⟩,r0,r1,r2,r4⟩,hB⟩ hK;obtain⟨a,cap,rfl⟩:=aP hrow;have hc:=hv.cell;have c0:=r0.cell;have c1:=r1.cell;have c2:=r2.cell;have f0:=r0.frozen;have f1:=r1.frozen;have f2:=r2.frozen;gi_wp2
  have hKs:KeepsOthers W (((W.setCell ⟨B,0,none⟩ (.slice a (iQ (items s)).length cap)).setCell ⟨B+1,0,none⟩ (.int .i64 0)).setCell ⟨B+2,0,none⟩ (.int .i64 0)):=((KeepsOthers.setCell _ _ _).trans (KeepsOthers.setCell _ _ _)).trans (KeepsOthers.setCell _ _ _);have p0:Boxed (((W.setCell ⟨B,0,none⟩ (.slice a (iQ (items s)).length cap)).setCell ⟨B+1,0,none⟩ (.int .i64 0)).setCell ⟨B+2,0,none⟩ (.int .i64 0)) B 42 (.slice a (iQ (items s)).length cap):=((r0.set _).other (show B≠B+1 by omega) _).other (show B≠B+2 by omega) _;have p1:Boxed (((W.setCell ⟨B,0,none⟩ (.slice a (iQ (items s)).length cap)).setCell ⟨B+1,0,none⟩ (.int .i64 0)).setCell ⟨B+2,0,none⟩ (.int .i64 0)) (B+1) 41 (.int .i64 0):=((r1.other (show B+1≠B by omega) _).set _).other (show B+1≠B+2 by omega) _;have p2:Boxed (((W.setCell ⟨B,0,none⟩ (.slice a (iQ (items s)).length cap)).setCell ⟨B+1,0,none⟩ (.int .i64 0)).setCell ⟨B+2,0,none⟩ (.int .i64 0)) (B+2) 3 (.int .i64 0):=((r2.other (show B+2≠B by omega) _).other (show B+2≠B+1 by omega) _).set _;have hbb:Below B W (((W.setCell ⟨B,0,none⟩ (.slice a (iQ (items s)).length cap)).setCell ⟨B+1,0,none⟩ (.int .i64 0)).setCell ⟨B+2,0,none⟩ (.int .i64 0)):=(((Below.refl B W).setCell (p:=⟨B,0,none⟩) lr _).setCell (p:=⟨B+1,0,none⟩) (Nat.le_succ _) _).setCell (p:=⟨B+2,0,none⟩) (by show B≤B+2;omega) _
  have ho3:aJ (((W.setCell ⟨B,0,none⟩ (.slice a (iQ (items s)).length cap)).setCell ⟨B+1,0,none⟩ (.int .i64 0)).setCell ⟨B+2,0,none⟩ (.int .i64 0)) (B+3) (.slice a (iQ (items s)).length cap) (iQ (items s)) :=
   aDr (aDr (aDr hrow (by omega)) (by omega)) (by omega)
  generalize ((W.setCell ⟨B,0,none⟩ (.slice a (iQ (items s)).length cap)).setCell ⟨B+1,0,none⟩ (.int .i64 0)).setCell ⟨B+2,0,none⟩ (.int .i64 0)=W3 at hKs p0 p1 p2 hbb ho3 ⊢;have hK':=hKs.same D _ hK rfl;refine⟨by simp,.inl ⟨_,_,rfl,run_takeDeferred hK',?_⟩⟩;have q0:=(zK p0 (grownBy_putObj' _ D (.deferred none)) (fun r e=>by cases e;exact⟨_,hK',rfl⟩)).cell;have q1:=(zK p1 (grownBy_putObj' _ D (.deferred none)) (fun r e=>by cases e;exact⟨_,hK',rfl⟩)).cell;have q2:=(zK p2 (grownBy_putObj' _ D (.deferred none)) (fun r e=>by cases e;exact⟨_,hK',rfl⟩)).cell;have hDB:=belowK_b (w:=w) lr W3 D (.deferred (some [])) (.deferred none) (by omega) hK' rfl rfl;refine⟨.tuple #[.slice a (iQ (items s)).length cap,.int .i64 0,.int .i64 0],by simp[results,Tryz.f200,go_sem,q0,q1,q2],?_,.inl ⟨hgood,_,rfl,?_⟩⟩
  · have:=hB.trans hbb;rw[← hBe] at this;exact this.trans hDB
  · exact aJ.low (ownsRow_putObj ho3 _ hK' rfl) (by omega)
 case stop =>
  rintro D c pre W hD hpre ⟨⟨rfl,a,hbad,r0,r1,r2⟩,hB⟩ hK;gi_wp2
  refine⟨by simp,.inl ⟨_,_,rfl,run_takeDeferred hK,?_⟩⟩;have q0:=(zK r0 (grownBy_putObj' _ D (.deferred none)) (fun r e=>by cases e;exact⟨_,hK,rfl⟩)).cell;have q1:=(zK r1 (grownBy_putObj' _ D (.deferred none)) (fun r e=>by cases e;exact⟨_,hK,rfl⟩)).cell;have q2:=(zK r2 (grownBy_putObj' _ D (.deferred none)) (fun r e=>by cases e;exact⟨_,hK,rfl⟩)).cell;have hDB:=belowK_b (w:=w) lr W D (.deferred (some [])) (.deferred none) (by omega) hK rfl rfl;refine⟨.tuple #[.slice none 0 0,.int .i64 30,.int .i64 a],by simp[results,Tryz.f200,go_sem,q0,q1,q2],?_,.inr ⟨a,aAj hpre hbad,?_,rfl⟩⟩
  · rw[← hBe] at hB;exact hB.trans hDB
  · exact hbad.bBs hpre
end U
namespace D
inductive rM (D:Dm) (x:Int):Int→Prop
 | one {q:Int}:q∈partsOf D x→rM D x q
 | more {q z:Int}:rM D x q→z∈partsOf D q→rM D x z
theorem rM.head {D:Dm} {x q z:Int} (h:q∈partsOf D x) (h2:rM D q z):rM D x z:=by
 induction h2 with
 | one h3=>exact .more (.one h) h3
 | more _ h3 ih=>exact .more ih h3
theorem aEr {p q:Int→Bool} {l:List Int} (h:∀ a∈l,p a=true→q a=true) {a:Int} (ha:a∈l) (hp:p a=false) (hq:q a=true):l.countP p<l.countP q:=by
 induction l with
 | nil=>cases ha
 | cons b r ih =>
  have hr:=fun a ha=>h a (List.mem_cons_of_mem _ ha)
  have hle:r.countP p≤r.countP q:=List.countP_mono_left hr;rw[List.countP_cons,List.countP_cons];rcases List.mem_cons.1 ha with rfl | ha
  · rw[hp,hq];simp;omega
  · have h1:=ih hr ha;have h2:=h b (List.mem_cons_self ..);cases hb:p b with
    | false=>simp;split<;>omega
    | true=>rw[h2 hb];simp;omega
open Classical in
noncomputable def aDj (D:Dm) (K:List Int) (x:Int):Nat:=if partsOf D x=[] then 0 else K.countP (fun k=>decide (rM D x k))+1
theorem aLy (D:Dm) (K:List Int) (x:Int):aDj D K x≤K.length+1:=by
 unfold aDj;split
 · omega
 · have:=List.countP_le_length (p:=fun k=>@decide (rM D x k) (Classical.propDecidable _)) (l:=K);omega
open Classical in
theorem aLx {D:Dm} {K:List Int} (hk:∀ x,partsOf D x≠[]→x∈K) (hn:∀ x∈K,¬ rM D x x) {x q:Int} (h:q∈partsOf D x):aDj D K q<aDj D K x:=by
 have hx:partsOf D x≠[]:=fun e=>by rw[e] at h;cases h
 unfold aDj;rw[if_neg hx];by_cases hq:partsOf D q=[]
 · rw[if_pos hq];omega
 · rw[if_neg hq];refine Nat.add_lt_add_right (aEr (a:=q) (fun a _ ha=>?_) (hk q hq) ?_ ?_) 1
   · exact decide_eq_true (rM.head h (of_decide_eq_true ha))
   · exact decide_eq_false (hn q (hk q hq))
   · exact decide_eq_true (.one h)
structure Wp (D:Dm):Prop where
 plain:∀ x c l,D x=some (c,l)→dU x=false∧∀ q∈l,dU q=false∧0≤q∧q≤1114111
 cls:∀ x c l,D x=some (c,l)→0≤c∧c≤254
theorem Wp.at {D:Dm} (h:Wp D) {x q:Int} (hq:q∈partsOf D x):dU x=false∧dU q=false∧0≤q∧q≤1114111:=by
 obtain⟨c,hc⟩:=oK (D:=D) (x:=x) (fun e=>by rw[e] at hq;cases hq);have:=h.plain x c _ hc;exact⟨this.1,this.2 q hq⟩
theorem aWf {D:Dm} (wp:Wp D) {r:Int→Nat} (hr:∀ x,∀ q∈partsOf D x,r q<r x):∀ (n:Nat) (x:Int),r x<n→∀ f g,dU x=false→r x<f→r x<g→bO D f x=bO D g x:=by
 intro n;induction n with
 | zero=>intro x h;omega
 | succ n ih =>
  intro x hx f g hs hf hg;obtain⟨f,rfl⟩:∃ k,f=k+1:=⟨f-1,by omega⟩
  obtain⟨g,rfl⟩:∃ k,g=k+1:=⟨g-1,by omega⟩
  unfold bO;rw[hs];simp only [Bool.false_eq_true,if_false];by_cases hp:partsOf D x=[]
  · simp[hp]
  · rw[if_neg (by simpa using hp),if_neg (by simpa using hp)];refine vK fun q hq=>?_
    have h1:=hr x q hq;exact ih q (by omega) f g (wp.at hq).2.1 (by omega) (by omega)
theorem uZ {D:Dm} {x:Int} (hs:dU x=false) (h:partsOf D x=[]):fH D x=[x]:=by
 unfold fH;rw[show 5000=4999+1 from rfl,bO,hs,h];rfl
theorem zS {D:Dm} (wp:Wp D) {r:Int→Nat} (hr:∀ x,∀ q∈partsOf D x,r q<r x) (hb:∀ x,r x≤4500) {x:Int} (hs:dU x=false) (h:partsOf D x≠[]):fH D x=(partsOf D x).flatMap (fH D):=by
 unfold fH;rw[show 5000=4999+1 from rfl,bO,hs];simp only [Bool.false_eq_true,if_false];rw[if_neg (by simpa using h)];refine vK fun q hq=>?_
 have h1:=hb q;exact aWf wp hr (r q+1) q (by omega) 4999 5000 (wp.at hq).2.1 (by omega) (by omega)
theorem aMt {D:Dm} (wp:Wp D) {r:Int→Nat} (hr:∀ x,∀ q∈partsOf D x,r q<r x) (hb:∀ x,r x≤4500):∀ (n:Nat) (x:Int),r x<n→dU x=false→0<(fH D x).length:=by
 intro n;induction n with
 | zero=>intro x h;omega
 | succ n ih =>
  intro x hx hs;by_cases hp:partsOf D x=[]
  · rw[uZ hs hp];simp
  · rw[zS wp hr hb hs hp];cases hl:partsOf D x with
    | nil=>exact absurd hl hp
    | cons q t =>
     have hq:q∈partsOf D x:=by rw[hl];exact List.mem_cons_self ..
     have h1:=ih q (by have:=hr x q hq;omega) (wp.at hq).2.1;rw[List.flatMap_cons,List.length_append];omega
def mM (D:Dm) (x:Int):Nat:=min (fH D x).length 19
def aSk (D:Dm) (l:List Int):Nat:=min (l.flatMap (fH D)).length 19
theorem aSl (D:Dm) (l:List Int) (q:Int):aSk D (l++[q])=min (aSk D l+mM D q) 19:=by
 unfold aSk mM;rw[List.flatMap_append,List.length_append,List.flatMap_cons,List.flatMap_nil,List.append_nil];omega
theorem bNd {D:Dm} {K:List Int} (wp:Wp D) (hlen:K.length≤4096) (hk:∀ x,partsOf D x≠[]→x∈K) (hn:∀ x∈K,¬ rM D x x) (hc:∀ x∈K,mM D x≤18):Wf D where
 plain:=wp.plain
 cls:=wp.cls
 rank:=⟨aDj D K,fun x=>by have:=aLy D K x;omega,fun x c l hx q hq=>aLx hk hn (by unfold partsOf;rw[hx];exact hq)⟩
 size:=fun x hs=>by
  by_cases hp:partsOf D x=[]
  · rw[uZ hs hp];simp
  · have:=hc x (hk x hp);unfold mM at this;omega
def rest (D:Dm) (K:List Int) (M:Int→Bool):Nat:=((K.filter fun k=>!M k).map fun k=>(partsOf D k).length).sum
theorem pR (D:Dm) (k:Int) (r:List Int) (M:Int→Bool):rest D (k::r) M=(if M k then 0 else (partsOf D k).length)+rest D r M:=by
 unfold rest;rw[List.filter_cons];cases M k<;>simp
theorem aXl {D:Dm} {K:List Int} {M:Int→Bool} {p:Int} (h:M p=false) (hk:partsOf D p≠[]→p∈K):rest D K (fun x=>decide (x=p) || M x)+(partsOf D p).length≤rest D K M:=by
 have mono:∀ K:List Int,rest D K (fun x=>decide (x=p) || M x)≤rest D K M:=by
  intro K;induction K with
  | nil=>exact Nat.le_refl _
  | cons k r ih =>
   rw[pR,pR];by_cases hkp:k=p
   · subst hkp;simp[h];omega
   · simp only [hkp,decide_false,Bool.false_or];omega
 by_cases hp:partsOf D p=[]
 · rw[hp];exact mono K
 · have hmem:=hk hp;clear hk;induction K with
   | nil=>cases hmem
   | cons k r ih =>
    rw[pR,pR];by_cases hkp:k=p
    · subst hkp;have:=mono r;simp[h];omega
    · have:=ih ((List.mem_cons.1 hmem).resolve_left fun e=>hkp e.symm);simp only [hkp,decide_false,Bool.false_or];omega
theorem bCc {D:Dm} {n:Nat}:∀ (K:List Int),(∀ x,(partsOf D x).length≤n)→rest D K (fun _=>false)≤K.length*n:=by
 intro K h;induction K with
 | nil=>exact Nat.zero_le _
 | cons k r ih =>
  have:=h k;rw[pR,List.length_cons,Nat.add_mul];simp only [Bool.false_eq_true,if_false];omega
structure Met (D:Dm) (x:Int) (M:Int→Bool) (L:List Int):Prop where
 self:M x=false
 start:∀ q∈partsOf D x,M q=true∨q∈L
 step:∀ k,M k=true→∀ q∈partsOf D k,M q=true∨q∈L
theorem Met.first (D:Dm) (x:Int):Met D x (fun _=>false) (partsOf D x):=⟨rfl,fun _ h=>.inr h,fun k h=>by cases h⟩
theorem Met.skip {D:Dm} {x p:Int} {M:Int→Bool} {L:List Int} (h:Met D x M (L++[p])) (hp:M p=true):Met D x M L:=by
 have key:∀ q,M q=true∨q∈L++[p]→M q=true∨q∈L:=by
  rintro q (h | h)
  · exact .inl h
  · rcases List.mem_append.1 h with h | h
    · exact .inr h
    · rw[List.mem_singleton.1 h];exact .inl hp
 exact⟨h.self,fun q hq=>key q (h.start q hq),fun k hk q hq=>key q (h.step k hk q hq)⟩
theorem Met.take {D:Dm} {x p:Int} {M:Int→Bool} {L:List Int} (h:Met D x M (L++[p])) (hp:p≠x):Met D x (fun y=>decide (y=p) || M y) (L++partsOf D p):=by
 have key:∀ q,M q=true∨q∈L++[p]→(decide (q=p) || M q)=true∨q∈L++partsOf D p:=by
  rintro q (h | h)
  · exact .inl (by rw[h];simp)
  · rcases List.mem_append.1 h with h | h
    · exact .inr (List.mem_append_left _ h)
    · rw[List.mem_singleton.1 h];exact .inl (by simp)
 refine⟨by simp[h.self,Ne.symm hp],fun q hq=>key q (h.start q hq),fun k hk q hq=>?_⟩;by_cases hkp:k=p
 · subst hkp;exact .inr (List.mem_append_right _ hq)
 · exact key q (h.step k (by simpa[hkp] using hk) q hq)
theorem Met.done {D:Dm} {x:Int} {M:Int→Bool} (h:Met D x M []):¬ rM D x x:=by
 have key:∀ q,rM D x q→M q=true:=by
  intro q hq;induction hq with
  | one h1=>exact(h.start _ h1).resolve_right (fun e=>by cases e)
  | more _ h1 ih=>exact(h.step _ ih _ h1).resolve_right (fun e=>by cases e)
 intro hx;have:=key x hx;rw[h.self] at this;cases this
