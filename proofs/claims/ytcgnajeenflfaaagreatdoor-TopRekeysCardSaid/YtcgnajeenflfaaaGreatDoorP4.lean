import Derived.Test.YtcgnajeenflfaaaGreatDoorP2
set_option maxRecDepth 100000
set_option maxHeartbeats 4000000
set_option linter.all false
open Go.Proofs.Tryz Go.RowKit
namespace Go.Proofs.YtcgnajeenflfaaaGreatDoor
namespace V
theorem wC {b:Bool} {m:List UInt8} (h:255<m.length):iJ b m=21:=by simp[iJ,h]
theorem nR {m:List UInt8} (h:m=[]):iJ true m=20:=by simp[iJ,h]
theorem aGe {m:List UInt8} (h:m=[]):iJ false m=0:=by simp[iJ,h]
theorem aBe {b:Bool} {m:List UInt8} (h:¬ 255<m.length) (h0:m.head?=some 0):iJ b m=20:=by simp[iJ,h,h0]
theorem aMf {b:Bool} {m:List UInt8} (h:¬ 255<m.length) (hn:m≠[]) (h0:m.head?≠some 0):iJ b m=0:=by simp[iJ,h,h0,hn]
theorem drop_cons (s:ByteArray) (k:Nat) (h:k<s.size):s.data.toList.drop k=s[k]::s.data.toList.drop (k+1):=by
 rw[List.drop_eq_getElem_cons (by simpa using h)];rfl
theorem nil_of_size {s:ByteArray} (h:¬ 0<s.size):s.toList=[]:=List.eq_nil_of_length_eq_zero (by rw[aD];omega)
theorem tK (s:ByteArray) (h:0<s.size):s.toList.head?=some s[0]:=by
 rw[Lib.toList_data];have:=drop_cons s 0 h;rw[List.drop_zero] at this;rw[this];rfl
theorem aPb {c d:UInt8} {n:Int} (hn:(d.toNat:Int)=n) (h:c=d):((c.toNat:Int)==n)=true:=by subst h hn;simp
theorem aPc {c d:UInt8} {n:Int} (hn:(d.toNat:Int)=n) (h:¬ c=d):((c.toNat:Int)==n)=false:=by
 rw[← hn,beq_eq_false_iff_ne];exact fun e=>h (UInt8.toNat_inj.1 (by omega))
theorem dY (b:Bool) (s:ByteArray) (w:World) (_hs:s.size≤9223372036854775807) (r:Int) (hr:iJ b s.toList=r) :
 Calls prog 83 #[.agg #[.bool b,.string s]] w fun e w'=>e=.returned (.int .i64 r)∧Below w.heap.size w w':=by
 by_cases h1:255<s.size
 · rw[wC (by rw[aD];exact h1)] at hr;subst hr;go_enter func83,ntmps83;go_wp2
   go_ret;exact⟨rfl,zr.alloc lr _⟩
 · by_cases h2:0<s.size
   · have hne:s.toList.isEmpty=false:=by
      cases h:s.toList with
      | nil=>have:=aD s;rw[h] at this;simp at this;omega
      | cons _ _=>rfl
     by_cases h3:s[0]=0
     · rw[aBe (by rw[aD];exact h1) (by rw[tK s h2,h3])] at hr;have h4:=aPb (n:=0) rfl h3;subst hr;clear h3;go_enter func83,ntmps83;go_wp2
       go_ret;exact⟨rfl,zr.alloc lr _⟩
     · rw[aMf (by rw[aD];exact h1) (by intro e;rw[e] at hne;simp at hne) (by rw[tK s h2];simpa using h3)] at hr;have h4:=aPc (n:=0) rfl h3;subst hr;clear h3;go_enter func83,ntmps83;go_wp2
       go_ret;exact⟨rfl,zr.alloc lr _⟩
   · have he:=nil_of_size h2;have hne:s.toList.isEmpty=true:=by rw[he];rfl
     cases b
     · rw[aGe he] at hr;subst hr;clear he;go_enter func83,ntmps83;go_wp2
       go_ret;exact⟨rfl,zr.alloc lr _⟩
     · rw[nR he] at hr;subst hr;clear he;go_enter func83,ntmps83;go_wp2
       go_ret;exact⟨rfl,zr.alloc lr _⟩
theorem kN (x y:Bool) (a b:ByteArray) (E:Bool) (h:(x==y&&a.toList==b.toList)=E) (w:World):(binOp .eql 54 (.agg #[.bool x,.string a]) (.agg #[.bool y,.string b])).run prog w=.ok (.bool E) w:=by
 subst h;by_cases hx:x=y<;>by_cases ha:a.toList=b.toList<;>simp[go_sem,hx,ha]
theorem lV (x y:Bool) (a b:ByteArray) (E:Bool) (h:(x==y&&a.toList==b.toList)=E) (w:World):(binOp .neq 54 (.agg #[.bool x,.string a]) (.agg #[.bool y,.string b])).run prog w=.ok (.bool !E) w:=by
 subst h;by_cases hx:x=y<;>by_cases ha:a.toList=b.toList<;>simp[go_sem,hx,ha]
end V
section
theorem two {W a b:World} (h:Below W.heap.size W a) (k:Below a.heap.size a b):Below W.heap.size W b:=h.trans (k.mono h.size)
theorem aD (s:ByteArray):s.toList.length=s.size:=by rw[Lib.toList_data,Lib.size_eq]
theorem nil_of_size {s:ByteArray} (h:¬ 0<s.size):s.toList=[]:=List.eq_nil_of_length_eq_zero (by rw[aD];omega)
theorem tK (s:ByteArray) (h:0<s.size):s.toList.head?=some s[0]:=by
 rw[Lib.toList_data];have:=drop_cons s 0 h;rw[List.drop_zero] at this;rw[this];rfl
theorem aPb {c d:UInt8} {n:Int} (hn:(d.toNat:Int)=n) (h:c=d):((c.toNat:Int)==n)=true:=by subst h hn;simp
theorem aPc {c d:UInt8} {n:Int} (hn:(d.toNat:Int)=n) (h:¬ c=d):((c.toNat:Int)==n)=false:=by
 rw[← hn,beq_eq_false_iff_ne];exact fun e=>h (UInt8.toNat_inj.1 (by omega))
theorem dY (b:Bool) (s:ByteArray) (w:World) (_hs:s.size≤9223372036854775807) (r:Int) (hr:iJ b s.toList=r) :
 Calls prog 83 #[.agg #[.bool b,.string s]] w fun e w'=>e=.returned (.int .i64 r)∧Below w.heap.size w w':=by
 by_cases h1:255<s.size
 · rw[wC (by rw[aD];exact h1)] at hr;subst hr;go_enter func83,ntmps83;go_wp2
   go_ret;exact⟨rfl,zr.alloc lr _⟩
 · by_cases h2:0<s.size
   · have hne:s.toList.isEmpty=false:=by
      cases h:s.toList with
      | nil=>have:=aD s;rw[h] at this;simp at this;omega
      | cons _ _=>rfl
     by_cases h3:s[0]=0
     · rw[aBe (by rw[aD];exact h1) (by rw[tK s h2,h3])] at hr;have h4:=aPb (n:=0) rfl h3;subst hr;clear h3;go_enter func83,ntmps83;go_wp2
       go_ret;exact⟨rfl,zr.alloc lr _⟩
     · rw[aMf (by rw[aD];exact h1) (by intro e;rw[e] at hne;simp at hne) (by rw[tK s h2];simpa using h3)] at hr;have h4:=aPc (n:=0) rfl h3;subst hr;clear h3;go_enter func83,ntmps83;go_wp2
       go_ret;exact⟨rfl,zr.alloc lr _⟩
   · have he:=nil_of_size h2;have hne:s.toList.isEmpty=true:=by rw[he];rfl
     cases b
     · rw[aGe he] at hr;subst hr;clear he;go_enter func83,ntmps83;go_wp2
       go_ret;exact⟨rfl,zr.alloc lr _⟩
     · rw[nR he] at hr;subst hr;clear he;go_enter func83,ntmps83;go_wp2
       go_ret;exact⟨rfl,zr.alloc lr _⟩
end
section
theorem aZv (w:World):(binOp .eql 42 (.slice none 0 0) (.slice none 0 0)).run prog w=.ok (.bool true) w:=by kernel_rfl
theorem aUr (a:Addr) (n cap:Nat) (w:World):(binOp .eql 42 (.slice (some a) n cap) (.slice none 0 0)).run prog w=.ok (.bool false) w:=by kernel_rfl
theorem aZw (w:World):(binOp .eql 170 (.slice none 0 0) (.slice none 0 0)).run prog w=.ok (.bool true) w:=by kernel_rfl
theorem aUs (a:Addr) (n cap:Nat) (w:World):(binOp .eql 170 (.slice (some a) n cap) (.slice none 0 0)).run prog w=.ok (.bool false) w:=by kernel_rfl
theorem aMv:(prog.info? 176).map (fun i=>(i.zero,i.size,i.bytes))=some (some (.agg #[.bool false,.int .i64 0,.int .i64 0,.int .i64 0]),4,32):=by kernel_rfl
theorem IntsIn.form {w:World} {lo hi:Nat} {v:Value} {l:List Int} (h:IntsIn w lo hi v l):∃ a cap,v=.slice a l.length cap∧l.length≤cap∧(a=none→cap=0∧l=[]):=by
 obtain⟨a,cap,rfl,hc,hn,_⟩:=h;exact⟨a,cap,rfl,hc,fun e=>⟨hn e,List.eq_nil_of_length_eq_zero (by have:=hn e;omega)⟩⟩
theorem IntsIn.alloc {w:World} {lo hi:Nat} {v:Value} {l:List Int} (h:IntsIn w lo hi v l) (o:Obj) (hh:hi≤w.heap.size):IntsIn (w.alloc o) lo hi v l:=h.later ((Below.refl hi w).alloc hh o)
theorem aV.alloc {size n:Nat} {w:World} {lo hi:Nat} {v:Value} {xs:List Value} (h:aV size w lo hi v n xs) (o:Obj) (hh:hi≤w.heap.size):aV size (w.alloc o) lo hi v n xs:=h.later ((Below.refl hi w).alloc hh o)
theorem mJ (s:Value) (l:List Int) (w:World) (lo hi:Nat) (hs:IntsIn w lo hi s l) (hhi:hi≤w.heap.size) (hl:l.length≤1099511627776) :
 Calls prog 90 #[s] w fun e w'=>∃ u,e=.returned u∧aJ w' w.heap.size u l∧Below w.heap.size w w':=by
 obtain⟨a,cap,rfl,hc,hn⟩:=hs.form;cases a with
 | none =>
  obtain⟨rfl,rfl⟩:=hn rfl;have f1:=aZv;clear hs hn;simp only [List.length_nil];go_enter func90,ntmps90;go_wp2_with fail;go_ret;exact⟨_,rfl,aJ.nil _ _,zr⟩
 | some a =>
  have f1:=aUr;have HS:=zh (hs.alloc (.cells #[] 3) hhi);have HL:=zh hl;have hO:=World.ownsRow_lit w #[] 0 (Nat.le_refl w.heap.size) (by decide) (show (#[]:Array Value).size=0*1 from rfl) (e:=3);have HO:=zh (show aJ (w.alloc (.cells #[] 3)) w.heap.size (.slice (some ⟨w.heap.size,0,none⟩) 0 0) [] from hO);have HB:=zh ((Below.refl w.heap.size w).alloc lr (.cells #[] 3));clear hs hn hl hO;go_enter func90,ntmps90;go_wp2_with (at_builtin;refine bB rfl (.tmp 5) (.tmp 6) rfl rfl HO.out rfl HS.out (by simpa using HL.out) HB.out (by simp) ?_;intro c3 oM w3 hO3 hB3 _ _);go_ret;exact⟨_,rfl,by simpa using hO3,hB3⟩
theorem aMk (s:Value) (n:Nat) (xs:List Value) (w:World) (lo hi:Nat) (hs:aV 4 w lo hi s n xs) (h1:∀ u∈xs,u.oneCell'=true) (hhi:hi≤w.heap.size) (hl:n≤1099511627776) :
 Calls prog 240 #[s] w fun e w'=>∃ u,e=.returned u∧w'.ownsRow w.heap.size 176 4 u n xs∧Below w.heap.size w w':=by
 obtain⟨hx,a,cap,rfl,hc,hn,_⟩:=hs.form;cases a with
 | none =>
  obtain rfl:=hn rfl;obtain rfl:n=0:=by omega
  obtain rfl:xs=[]:=List.eq_nil_of_length_eq_zero (by omega);have f1:=aZw;clear hs hn;go_enter func240,ntmps240;go_wp2_with fail;go_ret;exact⟨_,rfl,World.ownsRow_nil _ _ _ _,zr⟩
 | some a =>
  have f1:=aUs;have HS:=zh (hs.alloc (.cells #[] 176) hhi);have HL:=zh hl;have H1:=zh h1;have HO:=zh (World.ownsRow_lit w #[] 0 (Nat.le_refl w.heap.size) (by decide) (show (#[]:Array Value).size=0*4 from rfl) (e:=176));have HB:=zh ((Below.refl w.heap.size w).alloc lr (.cells #[] 176));clear hs hn hl h1;go_enter func240,ntmps240;go_wp2_with (at_builtin;refine fF rfl (.tmp 5) (.tmp 6) 170 rfl 176 _ 4 32 underlying170 aMv rfl (by decide) rfl HO.out rfl HS.out H1.out (by simpa using HL.out) (by decide) HB.out (by simp) ?_;intro c3 oM w3 hO3 hB3 _ _);go_ret;exact⟨_,rfl,by simpa using hO3,hB3⟩
end
namespace Ta
structure El where
 v:Bool
 p:Int
 s:Int
 t:Int
deriving DecidableEq
def El.cells (x:El):List Value:=[.bool x.v,.int .i64 x.p,.int .i64 x.s,.int .i64 x.t]
def ev (l:List El):List Value:=l.flatMap El.cells
theorem aRn (x:El) (l:List El):ev (x::l)=x.cells++ev l:=rfl
theorem aGq (l m:List El):ev (l++m)=ev l++ev m:=List.flatMap_append
theorem bFp (l:List El):(ev l).length=l.length*4:=by
 induction l with
 | nil=>rfl
 | cons x l ih=>rw[aRn,List.length_append,ih,List.length_cons,show x.cells.length=4 from rfl];omega
theorem aGj (l:List El):∀ u∈ev l,u.oneCell'=true:=by
 intro u hu;obtain⟨x,_,h⟩:=List.mem_flatMap.1 hu;simp only [El.cells,List.mem_cons,List.not_mem_nil,or_false] at h;rcases h with rfl | rfl | rfl | rfl<;>rfl
theorem bEu (l:List El) (j:Nat) (h:j<l.length) (k:Nat) (hk:k<4):(ev l)[j*4+k]?=l[j].cells[k]?:=by
 induction l generalizing j with
 | nil=>cases h
 | cons x l ih =>
  rw[aRn];cases j with
  | zero=>rw[Nat.zero_mul,Nat.zero_add,List.getElem?_append_left (by show k<4;exact hk)];rfl
  | succ j =>
   rw[List.getElem?_append_right (by show 4≤_;omega),show (j+1)*4+k-x.cells.length=j*4+k by show (j+1)*4+k-4=_;omega];exact ih j (by simpa using h)
structure Tm where
 ent:List Int→Option (List El)
 long:Int→Int
def aY (n:Int):Bool:=decide (0≤n)&&decide (n≤1114111)&&(decide (n<55296) || decide (57343<n))
def gU (x:Int):Int:=if (19968≤x∧x≤40959)∨(63744≤x∧x≤64255) then 64320 else if (13312≤x∧x≤19903)∨(131072≤x∧x≤262143) then 64384 else 64448
def iB (x:Int):List El:=if aY x then [⟨false,gU x+x / 32768,32,2⟩,⟨false,32768+x % 32768,0,0⟩] else []
theorem aUt (x:Int) (w:World) (h1:¬ 0≤x):Calls prog 94 #[.int .i64 x] w fun e w'=>e=.returned (.bool (aY x))∧w'=w:=by
 rw[show aY x=false by simp[aY];omega];have d0:decide (0≤x)=false:=by simp;omega
 clear h1;go_enter func94,ntmps94;go_wp2_with fail;go_ret;exact⟨rfl,rfl⟩
theorem aUu (x:Int) (w:World) (h1:0≤x) (h2:¬ x≤1114111):Calls prog 94 #[.int .i64 x] w fun e w'=>e=.returned (.bool (aY x))∧w'=w:=by
 rw[show aY x=false by simp[aY];omega];have d0:decide (0≤x)=true:=by simp;omega
 have d1:decide (x≤1114111)=false:=by simp;omega
 clear h1 h2;go_enter func94,ntmps94;go_wp2_with fail;go_ret;exact⟨rfl,rfl⟩
theorem aUv (x:Int) (w:World) (h1:0≤x) (h2:x<55296):Calls prog 94 #[.int .i64 x] w fun e w'=>e=.returned (.bool (aY x))∧w'=w:=by
 rw[show aY x=true by simp[aY];omega];have d0:decide (0≤x)=true:=by simp;omega
 have d1:decide (x≤1114111)=true:=by simp;omega
 have d2:decide (x<55296)=true:=by simp;omega
 clear h1 h2;go_enter func94,ntmps94;go_wp2_with fail;go_ret;exact⟨rfl,rfl⟩
theorem aUw (x:Int) (w:World) (h1:¬ x<55296) (h2:¬ 57343<x):Calls prog 94 #[.int .i64 x] w fun e w'=>e=.returned (.bool (aY x))∧w'=w:=by
 rw[show aY x=false by simp[aY];omega];have d0:decide (0≤x)=true:=by simp;omega
 have d1:decide (x≤1114111)=true:=by simp;omega
 have d2:decide (x<55296)=false:=by simp;omega
 have d3:decide (57343<x)=false:=by simp;omega
 clear h1 h2;go_enter func94,ntmps94;go_wp2_with fail;go_ret;exact⟨rfl,rfl⟩
theorem aUx (x:Int) (w:World) (h1:57343<x) (h2:x≤1114111):Calls prog 94 #[.int .i64 x] w fun e w'=>e=.returned (.bool (aY x))∧w'=w:=by
 rw[show aY x=true by simp[aY];omega];have d0:decide (0≤x)=true:=by simp;omega
 have d1:decide (x≤1114111)=true:=by simp;omega
 have d2:decide (x<55296)=false:=by simp;omega
 have d3:decide (57343<x)=true:=by simp;omega
 clear h1 h2;go_enter func94,ntmps94;go_wp2_with fail;go_ret;exact⟨rfl,rfl⟩
theorem dK (x:Int) (w:World):Calls prog 94 #[.int .i64 x] w fun e w'=>e=.returned (.bool (aY x))∧w'=w:=by
 by_cases h1:0≤x
 · by_cases h2:x≤1114111
   · by_cases h3:x<55296
     · exact aUv x w h1 h3
     · by_cases h4:57343<x
       · exact aUx x w h4 h2
       · exact aUw x w h3 h4
   · exact aUu x w h1 h2
 · exact aUt x w h1
theorem aPd (x:Int) (w:World) (h1:¬ 0≤x):Calls prog 114 #[.int .i64 x] w fun e w'=>e=.returned (.bool (aY x))∧w'=w:=by
 rw[show aY x=false by simp[aY];omega];have d0:decide (0≤x)=false:=by simp;omega
 clear h1;go_enter func114,ntmps114;go_wp2_with fail;go_ret;exact⟨rfl,rfl⟩
theorem aPe (x:Int) (w:World) (h1:0≤x) (h2:¬ x≤1114111):Calls prog 114 #[.int .i64 x] w fun e w'=>e=.returned (.bool (aY x))∧w'=w:=by
 rw[show aY x=false by simp[aY];omega];have d0:decide (0≤x)=true:=by simp;omega
 have d1:decide (x≤1114111)=false:=by simp;omega
 clear h1 h2;go_enter func114,ntmps114;go_wp2_with fail;go_ret;exact⟨rfl,rfl⟩
theorem aPf (x:Int) (w:World) (h1:0≤x) (h2:x<55296):Calls prog 114 #[.int .i64 x] w fun e w'=>e=.returned (.bool (aY x))∧w'=w:=by
 rw[show aY x=true by simp[aY];omega];have d0:decide (0≤x)=true:=by simp;omega
 have d1:decide (x≤1114111)=true:=by simp;omega
 have d2:decide (x<55296)=true:=by simp;omega
 clear h1 h2;go_enter func114,ntmps114;go_wp2_with fail;go_ret;exact⟨rfl,rfl⟩
theorem aPg (x:Int) (w:World) (h1:¬ x<55296) (h2:¬ 57343<x):Calls prog 114 #[.int .i64 x] w fun e w'=>e=.returned (.bool (aY x))∧w'=w:=by
 rw[show aY x=false by simp[aY];omega];have d0:decide (0≤x)=true:=by simp;omega
 have d1:decide (x≤1114111)=true:=by simp;omega
 have d2:decide (x<55296)=false:=by simp;omega
 have d3:decide (57343<x)=false:=by simp;omega
 clear h1 h2;go_enter func114,ntmps114;go_wp2_with fail;go_ret;exact⟨rfl,rfl⟩
theorem aPh (x:Int) (w:World) (h1:57343<x) (h2:x≤1114111):Calls prog 114 #[.int .i64 x] w fun e w'=>e=.returned (.bool (aY x))∧w'=w:=by
 rw[show aY x=true by simp[aY];omega];have d0:decide (0≤x)=true:=by simp;omega
 have d1:decide (x≤1114111)=true:=by simp;omega
 have d2:decide (x<55296)=false:=by simp;omega
 have d3:decide (57343<x)=true:=by simp;omega
 clear h1 h2;go_enter func114,ntmps114;go_wp2_with fail;go_ret;exact⟨rfl,rfl⟩
theorem aHy (x:Int) (w:World):Calls prog 114 #[.int .i64 x] w fun e w'=>e=.returned (.bool (aY x))∧w'=w:=by
 by_cases h1:0≤x
 · by_cases h2:x≤1114111
   · by_cases h3:x<55296
     · exact aPf x w h1 h3
     · by_cases h4:57343<x
       · exact aPh x w h4 h2
       · exact aPg x w h3 h4
   · exact aPe x w h1 h2
 · exact aPd x w h1
def iR (x:Int) (w:World) (e:Ending) (w':World):Prop:=∃ u,e=.returned u∧w'.ownsRow w.heap.size 176 4 u (iB x).length (ev (iB x))∧Below w.heap.size w w'
theorem aPi (x:Int) (w:World) (h:aY x=false):Calls prog 223 #[.int .i64 x] w (iR x w):=by
 have HP:=zh (show iB x=[] by unfold iB;rw[h];rfl);go_enter func223,ntmps223;go_wp2_with fail;refine(dK x w).mono ?_;rintro e w1 ⟨rfl,rfl⟩;rw[h];go_wp2_with fail;go_ret;exact⟨_,rfl,by rw[HP.out];exact World.ownsRow_nil _ _ _ _,zr⟩
theorem aUy (x:Int) (w:World) (h:aY x=true) (h1:0≤x) (h2:x≤13311):Calls prog 223 #[.int .i64 x] w (iR x w):=by
 have HP:=zh (show iB x=[⟨false,64448+x / 32768,32,2⟩,⟨false,32768+x % 32768,0,0⟩] by unfold iB gU;rw[h];simp only [if_true];rw[if_neg (by omega),if_neg (by omega)]);have d0:decide (19968≤x)=false:=by simp;omega
 have d1:decide (x≤40959)=true:=by simp;omega
 have d2:decide (63744≤x)=false:=by simp;omega
 have d3:decide (x≤64255)=true:=by simp;omega
 have d4:decide (13312≤x)=false:=by simp;omega
 have d5:decide (x≤19903)=true:=by simp;omega
 have d6:decide (131072≤x)=false:=by simp;omega
 have d7:decide (x≤262143)=true:=by simp;omega
 have h0:0≤x:=by omega
 have h9:x≤1114111:=by omega
 clear h1 h2;go_enter func223,ntmps223;go_wp2_with fail;refine(dK x w).mono ?_;rintro e w1 ⟨rfl,rfl⟩;rw[h];go_wp2_with fail;go_ret;refine⟨_,rfl,?_,zr.alloc lr _⟩;rw[HP.out];exact World.ownsRow_lit w1 _ 2 lr (by decide) rfl
theorem aUz (x:Int) (w:World) (h:aY x=true) (h1:13312≤x) (h2:x≤19903):Calls prog 223 #[.int .i64 x] w (iR x w):=by
 have HP:=zh (show iB x=[⟨false,64384+x / 32768,32,2⟩,⟨false,32768+x % 32768,0,0⟩] by unfold iB gU;rw[h];simp only [if_true];rw[if_neg (by omega),if_pos (by omega)]);have d0:decide (19968≤x)=false:=by simp;omega
 have d1:decide (x≤40959)=true:=by simp;omega
 have d2:decide (63744≤x)=false:=by simp;omega
 have d3:decide (x≤64255)=true:=by simp;omega
 have d4:decide (13312≤x)=true:=by simp;omega
 have d5:decide (x≤19903)=true:=by simp;omega
 have d6:decide (131072≤x)=false:=by simp;omega
 have d7:decide (x≤262143)=true:=by simp;omega
 have h0:0≤x:=by omega
 have h9:x≤1114111:=by omega
 clear h1 h2;go_enter func223,ntmps223;go_wp2_with fail;refine(dK x w).mono ?_;rintro e w1 ⟨rfl,rfl⟩;rw[h];go_wp2_with fail;go_ret;refine⟨_,rfl,?_,zr.alloc lr _⟩;rw[HP.out];exact World.ownsRow_lit w1 _ 2 lr (by decide) rfl
theorem aVa (x:Int) (w:World) (h:aY x=true) (h1:19904≤x) (h2:x≤19967):Calls prog 223 #[.int .i64 x] w (iR x w):=by
 have HP:=zh (show iB x=[⟨false,64448+x / 32768,32,2⟩,⟨false,32768+x % 32768,0,0⟩] by unfold iB gU;rw[h];simp only [if_true];rw[if_neg (by omega),if_neg (by omega)]);have d0:decide (19968≤x)=false:=by simp;omega
 have d1:decide (x≤40959)=true:=by simp;omega
 have d2:decide (63744≤x)=false:=by simp;omega
 have d3:decide (x≤64255)=true:=by simp;omega
 have d4:decide (13312≤x)=true:=by simp;omega
 have d5:decide (x≤19903)=false:=by simp;omega
 have d6:decide (131072≤x)=false:=by simp;omega
 have d7:decide (x≤262143)=true:=by simp;omega
 have h0:0≤x:=by omega
 have h9:x≤1114111:=by omega
 clear h1 h2;go_enter func223,ntmps223;go_wp2_with fail;refine(dK x w).mono ?_;rintro e w1 ⟨rfl,rfl⟩;rw[h];go_wp2_with fail;go_ret;refine⟨_,rfl,?_,zr.alloc lr _⟩;rw[HP.out];exact World.ownsRow_lit w1 _ 2 lr (by decide) rfl
theorem aVb (x:Int) (w:World) (h:aY x=true) (h1:19968≤x) (h2:x≤40959):Calls prog 223 #[.int .i64 x] w (iR x w):=by
 have HP:=zh (show iB x=[⟨false,64320+x / 32768,32,2⟩,⟨false,32768+x % 32768,0,0⟩] by unfold iB gU;rw[h];simp only [if_true];rw[if_pos (by omega)]);have d0:decide (19968≤x)=true:=by simp;omega
 have d1:decide (x≤40959)=true:=by simp;omega
 have d2:decide (63744≤x)=false:=by simp;omega
 have d3:decide (x≤64255)=true:=by simp;omega
 have d4:decide (13312≤x)=true:=by simp;omega
 have d5:decide (x≤19903)=false:=by simp;omega
 have d6:decide (131072≤x)=false:=by simp;omega
 have d7:decide (x≤262143)=true:=by simp;omega
 have h0:0≤x:=by omega
 have h9:x≤1114111:=by omega
 clear h1 h2;go_enter func223,ntmps223;go_wp2_with fail;refine(dK x w).mono ?_;rintro e w1 ⟨rfl,rfl⟩;rw[h];go_wp2_with fail;go_ret;refine⟨_,rfl,?_,zr.alloc lr _⟩;rw[HP.out];exact World.ownsRow_lit w1 _ 2 lr (by decide) rfl
theorem aVc (x:Int) (w:World) (h:aY x=true) (h1:40960≤x) (h2:x≤63743):Calls prog 223 #[.int .i64 x] w (iR x w):=by
 have HP:=zh (show iB x=[⟨false,64448+x / 32768,32,2⟩,⟨false,32768+x % 32768,0,0⟩] by unfold iB gU;rw[h];simp only [if_true];rw[if_neg (by omega),if_neg (by omega)]);have d0:decide (19968≤x)=true:=by simp;omega
 have d1:decide (x≤40959)=false:=by simp;omega
 have d2:decide (63744≤x)=false:=by simp;omega
 have d3:decide (x≤64255)=true:=by simp;omega
 have d4:decide (13312≤x)=true:=by simp;omega
 have d5:decide (x≤19903)=false:=by simp;omega
 have d6:decide (131072≤x)=false:=by simp;omega
 have d7:decide (x≤262143)=true:=by simp;omega
 have h0:0≤x:=by omega
 have h9:x≤1114111:=by omega
 clear h1 h2;go_enter func223,ntmps223;go_wp2_with fail;refine(dK x w).mono ?_;rintro e w1 ⟨rfl,rfl⟩;rw[h];go_wp2_with fail;go_ret;refine⟨_,rfl,?_,zr.alloc lr _⟩;rw[HP.out];exact World.ownsRow_lit w1 _ 2 lr (by decide) rfl
theorem aVd (x:Int) (w:World) (h:aY x=true) (h1:63744≤x) (h2:x≤64255):Calls prog 223 #[.int .i64 x] w (iR x w):=by
 have HP:=zh (show iB x=[⟨false,64320+x / 32768,32,2⟩,⟨false,32768+x % 32768,0,0⟩] by unfold iB gU;rw[h];simp only [if_true];rw[if_pos (by omega)]);have d0:decide (19968≤x)=true:=by simp;omega
 have d1:decide (x≤40959)=false:=by simp;omega
 have d2:decide (63744≤x)=true:=by simp;omega
 have d3:decide (x≤64255)=true:=by simp;omega
 have d4:decide (13312≤x)=true:=by simp;omega
 have d5:decide (x≤19903)=false:=by simp;omega
 have d6:decide (131072≤x)=false:=by simp;omega
 have d7:decide (x≤262143)=true:=by simp;omega
 have h0:0≤x:=by omega
 have h9:x≤1114111:=by omega
 clear h1 h2;go_enter func223,ntmps223;go_wp2_with fail;refine(dK x w).mono ?_;rintro e w1 ⟨rfl,rfl⟩;rw[h];go_wp2_with fail;go_ret;refine⟨_,rfl,?_,zr.alloc lr _⟩;rw[HP.out];exact World.ownsRow_lit w1 _ 2 lr (by decide) rfl
theorem aVe (x:Int) (w:World) (h:aY x=true) (h1:64256≤x) (h2:x≤131071):Calls prog 223 #[.int .i64 x] w (iR x w):=by
 have HP:=zh (show iB x=[⟨false,64448+x / 32768,32,2⟩,⟨false,32768+x % 32768,0,0⟩] by unfold iB gU;rw[h];simp only [if_true];rw[if_neg (by omega),if_neg (by omega)]);have d0:decide (19968≤x)=true:=by simp;omega
 have d1:decide (x≤40959)=false:=by simp;omega
 have d2:decide (63744≤x)=true:=by simp;omega
 have d3:decide (x≤64255)=false:=by simp;omega
 have d4:decide (13312≤x)=true:=by simp;omega
 have d5:decide (x≤19903)=false:=by simp;omega
 have d6:decide (131072≤x)=false:=by simp;omega
 have d7:decide (x≤262143)=true:=by simp;omega
 have h0:0≤x:=by omega
 have h9:x≤1114111:=by omega
 clear h1 h2;go_enter func223,ntmps223;go_wp2_with fail;refine(dK x w).mono ?_;rintro e w1 ⟨rfl,rfl⟩;rw[h];go_wp2_with fail;go_ret;refine⟨_,rfl,?_,zr.alloc lr _⟩;rw[HP.out];exact World.ownsRow_lit w1 _ 2 lr (by decide) rfl
theorem aVf (x:Int) (w:World) (h:aY x=true) (h1:131072≤x) (h2:x≤262143):Calls prog 223 #[.int .i64 x] w (iR x w):=by
 have HP:=zh (show iB x=[⟨false,64384+x / 32768,32,2⟩,⟨false,32768+x % 32768,0,0⟩] by unfold iB gU;rw[h];simp only [if_true];rw[if_neg (by omega),if_pos (by omega)]);have d0:decide (19968≤x)=true:=by simp;omega
 have d1:decide (x≤40959)=false:=by simp;omega
 have d2:decide (63744≤x)=true:=by simp;omega
 have d3:decide (x≤64255)=false:=by simp;omega
 have d4:decide (13312≤x)=true:=by simp;omega
 have d5:decide (x≤19903)=false:=by simp;omega
 have d6:decide (131072≤x)=true:=by simp;omega
 have d7:decide (x≤262143)=true:=by simp;omega
 have h0:0≤x:=by omega
 have h9:x≤1114111:=by omega
 clear h1 h2;go_enter func223,ntmps223;go_wp2_with fail;refine(dK x w).mono ?_;rintro e w1 ⟨rfl,rfl⟩;rw[h];go_wp2_with fail;go_ret;refine⟨_,rfl,?_,zr.alloc lr _⟩;rw[HP.out];exact World.ownsRow_lit w1 _ 2 lr (by decide) rfl
theorem aVg (x:Int) (w:World) (h:aY x=true) (h1:262144≤x) (h2:x≤1114111):Calls prog 223 #[.int .i64 x] w (iR x w):=by
 have HP:=zh (show iB x=[⟨false,64448+x / 32768,32,2⟩,⟨false,32768+x % 32768,0,0⟩] by unfold iB gU;rw[h];simp only [if_true];rw[if_neg (by omega),if_neg (by omega)]);have d0:decide (19968≤x)=true:=by simp;omega
 have d1:decide (x≤40959)=false:=by simp;omega
 have d2:decide (63744≤x)=true:=by simp;omega
 have d3:decide (x≤64255)=false:=by simp;omega
 have d4:decide (13312≤x)=true:=by simp;omega
 have d5:decide (x≤19903)=false:=by simp;omega
 have d6:decide (131072≤x)=true:=by simp;omega
 have d7:decide (x≤262143)=false:=by simp;omega
 have h0:0≤x:=by omega
 have h9:x≤1114111:=by omega
 clear h1 h2;go_enter func223,ntmps223;go_wp2_with fail;refine(dK x w).mono ?_;rintro e w1 ⟨rfl,rfl⟩;rw[h];go_wp2_with fail;go_ret;refine⟨_,rfl,?_,zr.alloc lr _⟩;rw[HP.out];exact World.ownsRow_lit w1 _ 2 lr (by decide) rfl
theorem zT (x:Int) (w:World):Calls prog 223 #[.int .i64 x] w (iR x w):=by
 cases h:aY x with
 | false=>exact aPi x w h
 | true =>
  have hp:0≤x∧x≤1114111:=by simp[aY] at h;omega
  by_cases c0:x≤13311
  · exact aUy x w h (by omega) c0
  by_cases c1:x≤19903
  · exact aUz x w h (by omega) c1
  by_cases c2:x≤19967
  · exact aVa x w h (by omega) c2
  by_cases c3:x≤40959
  · exact aVb x w h (by omega) c3
  by_cases c4:x≤63743
  · exact aVc x w h (by omega) c4
  by_cases c5:x≤64255
  · exact aVd x w h (by omega) c5
  by_cases c6:x≤131071
  · exact aVe x w h (by omega) c6
  by_cases c7:x≤262143
  · exact aVf x w h (by omega) c7
  exact aVg x w h (by omega) (by omega)
end Ta
namespace So
open D (aF)
def nK (w:World) (g bx:Nat) (c:Int→Int):Prop:=∀ x y w',aF x→aF y→fM g w w' →
 Calls prog 244 #[.int .i64 x,.int .i64 y,.pointer (some ⟨bx,0,none⟩)] w' fun e w''=>e=.returned (.int .i64 (c x-c y))∧∃ n,w''=w'.drewN n
def aM (l:List Int):Prop:=∀ x∈l,aF x
theorem aM.at {l:List Int} (h:aM l) {i:Nat} (hi:i<l.length):aF l[i]:=h _ (List.getElem_mem hi)
theorem aM.swp {l:List Int} (h:aM l) {i j:Nat} (hi:i<l.length) (hj:j<l.length):aM (swp l i j):=fun x hx=>h x (aQo hi hj hx)
theorem aN.swp {w:World} {g off:Nat} {pre post:List Value} {l:List Int} (h:aN w g off pre post l) {i j:Nat} (hi:i<l.length) (hj:j<l.length) :
 aN ((w.setCell ⟨g,off+i,none⟩ (.int .i64 l[j])).setCell ⟨g,off+j,none⟩ (.int .i64 l[i])) g off pre post (swp l i j):=by
 rw[bGn hi hj];exact(h.set i _ hi).set j _ (by simpa using hj)
theorem aDt (c:Int→Int) (g off bx cap a b:Nat) (pre post:List Value) (l:List Int) (w:World) (hr:aN w g off pre post l) (hf:aM l) (hab:a≤b) (hb:b≤l.length) (hlen:l.length≤4194304) (hc:nK w g bx c) :
 Calls prog 250 #[.slice (some ⟨g,off,none⟩) l.length cap,.int .i64 (a:Int),.int .i64 (b:Int),.func (.func 244) #[] #[.pointer (some ⟨bx,0,none⟩)]] w fun e w' =>
  e=.returned (.tuple #[])∧aN w' g off pre post (eU c l a b)∧fM g w w':=by
 obtain⟨n,hn⟩:∃ n,l.length=n:=⟨_,rfl⟩
 have HC:=zh hc;clear hc;rw[hn] at hb hlen ⊢;go_enter func250,ntmps250;go_wp2_with fail;go_loopw [8] (fun vi wr=>∃ (i:Nat) (L:List Int),vi=.int .i64 (i:Int)∧a<i∧i≤b+1∧L.length=n∧aN wr g off pre post L∧fM g w wr∧RowKit.Hid (aM L)∧RowKit.Hid (pX c a (b-i) i L=eU c l a b)) (fun vi _=>b+1-(intOf vi).toNat)
 case atStart=>exact⟨a+1,l,by simp,by omega,by omega,hn,hr,fM.refl _ _,zh hf,zh rfl⟩
 case round =>
  obtain⟨i,L,rfl,hai,hib,hL,hrow,ho,HF,HO⟩:=hrel;by_cases hlt:i<b
  · have q1:decide ((i:Int)<(b:Int))=true:=by simp;omega
    have HO2:=zh (show pX c a (b-(i+1)) (i+1) (iE c a i L)=eU c l a b by rw[← HO.out,show b-i=(b-(i+1))+1 by omega];rfl);go_wp2_with fail;go_loopw [9] (fun vj wr2=>∃ (j:Nat) (M:List Int),vj=.int .i64 (j:Int)∧a≤j∧j≤i∧M.length=n∧aN wr2 g off pre post M∧fM g w wr2∧RowKit.Hid (aM M)∧RowKit.Hid (iE c a j M=iE c a i L)) (fun vj _=>(intOf vj).toNat)
    case atStart=>exact⟨i,L,rfl,by omega,Nat.le_refl _,hL,hrow,ho,HF,zh rfl⟩
    case round =>
     clear hrow ho HF hL HO hr hf;obtain⟨j,M,rfl,haj,hji,hM,hrow,ho,HF,HI⟩:=hrel;by_cases hja:a<j
     · obtain⟨jp,rfl⟩:∃ jp,j=jp+1:=⟨j-1,by omega⟩
       have q2:decide ((a:Int)<(jp:Int)+1)=true:=by simp;omega
       obtain⟨x,hx⟩:∃ x,M[jp+1]'(by omega)=x:=⟨_,rfl⟩
       obtain⟨y,hy⟩:∃ y,M[jp]'(by omega)=y:=⟨_,rfl⟩
       have cx:=hrow.cell (jp+1) (by omega);have cy:=hrow.cell jp (by omega);have zx:=hrow.frozen (jp+1);have zy:=hrow.frozen jp;have fx:=HF.out.at (i:=jp+1) (by omega);have fy:=HF.out.at (i:=jp) (by omega);rw[hx] at cx fx;rw[hy] at cy fy;have HQ:=zh (show ∀ m,Calls prog 244 #[.int .i64 x,.int .i64 y,.pointer (some ⟨bx,0,none⟩)] (wr.drewN m) fun e w''=>e=.returned (.int .i64 (c x-c y))∧∃ n,w''=(wr.drewN m).drewN n from fun m=>HC.out x y _ fx fy (ho.trans (fM.drew m)));by_cases hcv:c x<c y
       · have q3:decide (c x-c y<0)=true:=by simp;omega
         have HN:=zh (show iE c a jp (swp M (jp+1) jp)=iE c a i L by rw[← HI.out];exact(aYb (by omega) (by rw[getD_at (by omega),getD_at (by omega),hx,hy];exact hcv)).symm);have pV:=zh (HF.out.swp (i:=jp+1) (j:=jp) (by omega) (by omega));have HM:=zh (show aN ((wr.setCell ⟨g,off+(jp+1),none⟩ (.int .i64 y)).setCell ⟨g,off+jp,none⟩ (.int .i64 x)) g off pre post (swp M (jp+1) jp) by rw[← hx,← hy];exact aN.swp hrow (by omega) (by omega));clear hcv hx hy fx fy HI HF;have jz:(jp:Int)+1<(n:Int):=by omega
         have jz1:(jp:Int)<(n:Int):=by omega
         have p0:(0:Int)≤(jp:Int)+1:=by omega
         have e0:((jp:Int)+1).toNat=jp+1:=by omega
         go_wp2_with fail;go_quiet (exact Calls.quiet_of (HQ.out _));go_wp2_with fail;have cx2:(wr.drewN nq).cell? ⟨g,off+(jp+1),none⟩=some (.int .i64 x):=cx;have cy2:(wr.drewN nq).cell? ⟨g,off+jp,none⟩=some (.int .i64 y):=cy;have zx2:(wr.drewN nq).frozen? ⟨g,off+(jp+1),none⟩=false:=zx;have zy2:(wr.drewN nq).frozen? ⟨g,off+jp,none⟩=false:=zy;have pY:=zh (show aN (((wr.drewN nq).setCell ⟨g,off+(jp+1),none⟩ (.int .i64 y)).setCell ⟨g,off+jp,none⟩ (.int .i64 x)) g off pre post (swp M (jp+1) jp) from HM.out);have zR:=zh (ho.trans (fM.drew nq));clear cx cy zx zy HM ho hrow HQ q3;generalize wr.drewN nq=wq at cx2 cy2 zx2 zy2 pY zR ⊢;obtain⟨j1,hj1⟩:∃ j1,j1=jp+1:=⟨_,rfl⟩
         rw[← hj1] at cx2 zx2 e0 pY;have J1:=zh hj1;clear hj1;have mixed:prog.follows Departure.mixedOrders=true:=by kernel_rfl
         go_big_region_o
         all_goals go_wp2
         refine⟨⟨jp,swp M j1 jp,rfl,by omega,by omega,by rw[eD];exact hM,pY.out,(zR.out.trans ((fM.set _ _).trans (fM.set _ _))).trans ⟨rfl,rfl,rfl,rfl,fun _ _=>rfl⟩,zh (by rw[J1.out];exact pV.out),zh (by rw[J1.out];exact HN.out)⟩,by simp[intOf]⟩
       · have q3:decide (c x-c y<0)=false:=by simp;omega
         have HS:=zh (show iE c a i L=M by rw[← HI.out];exact aNj (by rw[getD_at (by omega),getD_at (by omega),hx,hy];exact hcv));have jz:(jp:Int)+1<(n:Int):=by omega
         have jz1:(jp:Int)<(n:Int):=by omega
         have p0:(0:Int)≤(jp:Int)+1:=by omega
         have e0:((jp:Int)+1).toNat=jp+1:=by omega
         clear hcv hx hy fx fy HI;go_wp2_with fail;go_quiet (exact Calls.quiet_of (HQ.out _));go_wp2_with fail;refine⟨⟨i+1,M,by simp,by omega,by omega,hM,hrow,ho.trans (fM.drew nq),HF,zh ?_⟩,by simp[intOf];omega⟩;rw[← HS.out];exact HO2.out
     · have q2:decide ((a:Int)<(j:Int))=false:=by simp;omega
       have HS:=zh (show iE c a i L=M by rw[← HI.out];exact aTh (by omega));clear HI;go_wp2_with fail;go_quiet (fail);go_wp2_with fail;refine⟨⟨i+1,M,by simp,by omega,by omega,hM,hrow,ho.trans (fM.drew nq),HF,zh ?_⟩,by simp[intOf];omega⟩;rw[← HS.out];exact HO2.out
  · have q1:decide ((i:Int)<(b:Int))=false:=by simp;omega
    have hz:L=eU c l a b:=by rw[← HO.out,show b-i=0 by omega];rfl
    go_wp2_with fail;go_end0
    exact⟨rfl,hz▸hrow,ho⟩
theorem aZx (a b k i:Nat) (l:List Int):fJ a b (k+1) i l=fJ a b k (i+1) (swp l (a+i) (b+i)):=rfl
theorem nY (g off cap n a b k:Nat) (x y z:Int) (hx:(a:Int)=x) (hy:(b:Int)=y) (hz:(k:Int)=z) (cv:Value) (pre post:List Value) (l:List Int) (w:World) (hn:l.length=n) (hr:aN w g off pre post l) (ha:a+k≤n) (hb:b+k≤n) (hlen:n≤4194304) (hne:a≠b) :
 Calls prog 253 #[.slice (some ⟨g,off,none⟩) n cap,.int .i64 x,.int .i64 y,.int .i64 z,cv] w fun e w' =>
  e=.returned (.tuple #[])∧aN w' g off pre post (fJ a b k 0 l)∧fM g w w':=by
 subst hx hy hz;have HN0:=zh hn;clear hn;go_enter func253,ntmps253;go_wp2_with fail;go_loopw [10] (fun vi wr=>∃ (i:Nat) (L:List Int),vi=.int .i64 (i:Int)∧i≤k∧L.length=n∧aN wr g off pre post L∧fM g w wr∧RowKit.Hid (fJ a b (k-i) i L=fJ a b k 0 l)) (fun vi _=>k-(intOf vi).toNat)
 case atStart=>exact⟨0,l,rfl,Nat.zero_le _,HN0.out,hr,fM.refl _ _,zh rfl⟩
 case round =>
  obtain⟨i,L,rfl,hik,hL,hrow,ho,HO⟩:=hrel;by_cases hlt:i<k
  · have q1:decide ((i:Int)<(k:Int))=true:=by simp;omega
    obtain⟨p,hp⟩:∃ p,a+i=p:=⟨_,rfl⟩
    obtain⟨q,hq⟩:∃ q,b+i=q:=⟨_,rfl⟩
    have ep':((a:Int)+(i:Int))=(p:Int):=by omega
    have bWp:((b:Int)+(i:Int))=(q:Int):=by omega
    obtain⟨u,hu⟩:∃ u,L[p]'(by omega)=u:=⟨_,rfl⟩
    obtain⟨v,hv⟩:∃ v,L[q]'(by omega)=v:=⟨_,rfl⟩
    have cu:=hrow.cell p (by omega);have cv':=hrow.cell q (by omega);have zu:=hrow.frozen p;have zv:=hrow.frozen q;rw[hu] at cu;rw[hv] at cv';have n1:p≠q:=by omega
    have n2:q≠p:=by omega
    have jp:(p:Int)<(n:Int):=by omega
    have jq:(q:Int)<(n:Int):=by omega
    have HN:=zh (show fJ a b (k-(i+1)) (i+1) (swp L p q)=fJ a b k 0 l by rw[← HO.out,show k-i=(k-(i+1))+1 by omega,aZx,hp,hq]);have HM:=zh (show aN ((wr.setCell ⟨g,off+p,none⟩ (.int .i64 v)).setCell ⟨g,off+q,none⟩ (.int .i64 u)) g off pre post (swp L p q) by rw[← hu,← hv];exact aN.swp hrow (by omega) (by omega));have HL:=zh hL;have zR:=zh ho;have EP:=zh (show wrap64 ((a:Int)+(i:Int))=(p:Int) by unfold wrap64;omega);have EQ:=zh (show wrap64 ((b:Int)+(i:Int))=(q:Int) by unfold wrap64;omega);have ep:=EP.out;have eq_:=EQ.out;clear hu hv HO hL ho hrow hr hp hq;go_wp2_with fail;have mixed:prog.follows Departure.mixedOrders=true:=by kernel_rfl
    go_big_region_o
    all_goals go_wp2
    refine⟨⟨i+1,swp L p q,by simp,by omega,by rw[eD];exact HL.out,HM.out,(zR.out.trans ((fM.set _ _).trans (fM.set _ _))).trans ⟨rfl,rfl,rfl,rfl,fun _ _=>rfl⟩,HN⟩,by simp[intOf];omega⟩
  · have q1:decide ((i:Int)<(k:Int))=false:=by simp;omega
    have hz:L=fJ a b k 0 l:=by rw[← HO.out,show k-i=0 by omega];rfl
    go_wp2_with fail;go_end0
    exact⟨rfl,hz▸hrow,ho⟩
theorem bHa (m f i:Nat) (l:List Int):rot m f i i l=fJ (m-i) m i 0 l:=by
 cases f with
 | zero=>rfl
 | succ f=>rw[rot,if_pos rfl]
theorem bHb {m f i j:Nat} (l:List Int) (h:j<i):rot m (f+1) i j l=rot m f (i-j) j (fJ (m-i) m j 0 l):=by rw[rot,if_neg (by omega),if_pos h]
theorem bHc {m f i j:Nat} (l:List Int) (h:i<j):rot m (f+1) i j l=rot m f i (j-i) (fJ (m-i) (m+j-i) i 0 l):=by rw[rot,if_neg (by omega),if_neg (by omega)]
theorem iA (g off cap n a m b:Nat) (x y z:Int) (hx:(a:Int)=x) (hy:(m:Int)=y) (hz:(b:Int)=z) (cv:Value) (pre post:List Value) (l:List Int) (w:World) (hn:l.length=n) (hr:aN w g off pre post l) (ham:a<m) (hmb:m<b) (hb:b≤n) (hlen:n≤4194304) :
 Calls prog 252 #[.slice (some ⟨g,off,none⟩) n cap,.int .i64 x,.int .i64 y,.int .i64 z,cv] w fun e w' =>
  e=.returned (.tuple #[])∧aN w' g off pre post (rotate l a m b)∧fM g w w':=by
 subst hx hy hz;have HN:=zh hn;clear hn;have e1:((m:Int)-(a:Int))=((m-a:Nat):Int):=by omega
 have e2:((b:Int)-(m:Int))=((b-m:Nat):Int):=by omega
 go_enter func252,ntmps252;go_wp2_with fail;go_loopw [10,11] (fun vi vj wr=>∃ (i j f:Nat) (L:List Int),vi=.int .i64 (i:Int)∧vj=.int .i64 (j:Int)∧1≤i∧1≤j∧i≤m-a∧j≤b-m∧i+j≤f∧aN wr g off pre post L∧fM g w wr∧RowKit.Hid (L.length=n)∧RowKit.Hid (rot m f i j L=rotate l a m b)) (fun vi vj _=>(intOf vi).toNat+(intOf vj).toNat)
 case atStart=>exact⟨m-a,b-m,b-a,l,by simp[e1],by simp[e2],by omega,by omega,by omega,by omega,by omega,hr,fM.refl _ _,HN,zh rfl⟩
 case round =>
  clear e1 e2;obtain⟨i,j,f,L,rfl,rfl,hi,hj,him,hjb,hf,hrow,ho,HL,HO⟩:=hrel;rcases Nat.lt_trichotomy i j with hlt | rfl | hgt
  · obtain⟨f,rfl⟩:∃ k,f=k+1:=⟨f-1,by omega⟩
    have q1:((i:Int) != (j:Int))=true:=by simp;omega
    have q2:decide ((j:Int)<(i:Int))=false:=by simp;omega
    have HR:=zh (bHc (m:=m) (f:=f) L hlt);go_wp2_with fail;refine(nY g off cap n (m-i) (m+j-i) i _ _ _ (by omega) (by omega) rfl cv pre post L wr HL.out hrow (by omega) (by omega) (by omega) (by omega)).mono ?_;rintro e w1 ⟨rfl,hr1,ho1⟩;have vZ:=zh (ho.trans ho1);have HL1:=zh (show (fJ (m-i) (m+j-i) i 0 L).length=n by rw[iD];exact HL.out);rw[HR.out] at HO;clear ho hrow;go_wp2_with fail;refine⟨⟨i,j-i,f,fJ (m-i) (m+j-i) i 0 L,rfl,?_,by omega,by omega,by omega,by omega,by omega,hr1,vZ.out,HL1,HO⟩,?_⟩
    · simp;omega
    · simp[intOf];omega
  · have q1:((i:Int) != (i:Int))=false:=by simp
    go_wp2_with fail;refine(nY g off cap n (m-i) m i _ _ _ (by omega) rfl rfl cv pre post L wr HL.out hrow (by omega) (by omega) (by omega) (by omega)).mono ?_;rintro e w1 ⟨rfl,hr1,ho1⟩;rw[← bHa m f i L,HO.out] at hr1;go_wp2_with fail;go_end0
    exact⟨rfl,hr1,ho.trans ho1⟩
  · obtain⟨f,rfl⟩:∃ k,f=k+1:=⟨f-1,by omega⟩
    have q1:((i:Int) != (j:Int))=true:=by simp;omega
    have q2:decide ((j:Int)<(i:Int))=true:=by simp;omega
    have HR:=zh (bHb (m:=m) (f:=f) L hgt);go_wp2_with fail;refine(nY g off cap n (m-i) m j _ _ _ (by omega) rfl rfl cv pre post L wr HL.out hrow (by omega) (by omega) (by omega) (by omega)).mono ?_;rintro e w1 ⟨rfl,hr1,ho1⟩;have vZ:=zh (ho.trans ho1);have HL1:=zh (show (fJ (m-i) m j 0 L).length=n by rw[iD];exact HL.out);rw[HR.out] at HO;clear ho hrow;go_wp2_with fail;refine⟨⟨i-j,j,f,fJ (m-i) m j 0 L,?_,rfl,by omega,by omega,by omega,by omega,by omega,hr1,vZ.out,HL1,HO⟩,?_⟩
    · simp;omega
    · simp[intOf];omega
theorem bHd (n k:Nat) (l:List Int):upS (n+1) k l=upS n (k+1) (swp l k (k+1)):=rfl
theorem aPj (c:Int→Int) (g off bx cap n a m b:Nat) (x y z:Int) (hx:(a:Int)=x) (hy:(m:Int)=y) (hz:(b:Int)=z) (pre post:List Value) (l:List Int) (w:World) (hn:l.length=n) (hr:aN w g off pre post l) (hf:aM l) (ham:m=a+1) (hmb:m<b) (hb:b≤n) (hlen:n≤4194304) (hc:nK w g bx c) :
 Calls prog 251 #[.slice (some ⟨g,off,none⟩) n cap,.int .i64 x,.int .i64 y,.int .i64 z,.func (.func 244) #[] #[.pointer (some ⟨bx,0,none⟩)]] w fun e w' =>
  e=.returned (.tuple #[])∧aN w' g off pre post (upS (half (fun h=>decide (c (l.getD h 0)<c (l.getD a 0))) (b-m) m b-1-a) a l)∧fM g w w':=by
 subst hx hy hz ham;have HC:=zh hc;have HN:=zh hn;have HF:=zh hf;have q0:((a:Int)+1-(a:Int)==1)=true:=by simp;omega
 obtain⟨T,hT⟩:∃ T:Nat→Bool,(fun h=>decide (c (l.getD h 0)<c (l.getD a 0)))=T:=⟨_,rfl⟩
 have HT:=zh hT;rw[hT];obtain⟨I,hI⟩:∃ I,half T (b-(a+1)) (a+1) b=I:=⟨_,rfl⟩
 have hI1:=aAy T (b-(a+1)) (a+1) b (by omega);rw[hI] at hI1 ⊢;have HI:=zh hI;clear hc hn hf hT hI;go_enter func251,ntmps251;go_wp2_with fail;go_loopw [10,11] (fun vi vj wr=>∃ (i j f:Nat),vi=.int .i64 (i:Int)∧vj=.int .i64 (j:Int)∧a+1≤i∧i≤j∧j≤b∧j-i≤f∧aN wr g off pre post l∧fM g w wr∧RowKit.Hid (half T f i j=I)) (fun vi vj _=>(intOf vj).toNat-(intOf vi).toNat)
 case atStart=>exact⟨a+1,b,b-(a+1),rfl,rfl,by omega,by omega,by omega,by omega,hr,fM.refl _ _,HI⟩
 case round =>
  obtain⟨i,j,f,rfl,rfl,hi,hij,hj,hf,hrow,ho,HO⟩:=hrel;by_cases hlt:i<j
  · obtain⟨f,rfl⟩:∃ k,f=k+1:=⟨f-1,by omega⟩
    have q1:decide ((i:Int)<(j:Int))=true:=by simp;omega
    obtain⟨h,hh⟩:∃ h,(i+j) / 2=h:=⟨_,rfl⟩
    have hih:i≤h∧h<j:=by omega
    obtain⟨u,hu⟩:∃ u,l[h]'(by rw[HN.out];omega)=u:=⟨_,rfl⟩
    obtain⟨v,hv⟩:∃ v,l[a]'(by rw[HN.out];omega)=v:=⟨_,rfl⟩
    have cu:=hrow.cell h (by rw[HN.out];omega);have cv:=hrow.cell a (by rw[HN.out];omega);have fu:=HF.out.at (i:=h) (by rw[HN.out];omega);have fv:=HF.out.at (i:=a) (by rw[HN.out];omega);rw[hu] at cu fu;rw[hv] at cv fv;have HTh:=zh (show T h=decide (c u<c v) by rw[← HT.out];simp only [getD_at (show h<l.length by rw[HN.out];omega),getD_at (show a<l.length by rw[HN.out];omega),hu,hv]);have HQ:=zh (show ∀ m,Calls prog 244 #[.int .i64 u,.int .i64 v,.pointer (some ⟨bx,0,none⟩)] (wr.drewN m) fun e w''=>e=.returned (.int .i64 (c u-c v))∧∃ n,w''=(wr.drewN m).drewN n from fun m=>HC.out u v _ fu fv (ho.trans (fM.drew m)));have jh:(h:Int)<(n:Int):=by omega
    have ja:(a:Int)<(n:Int):=by omega
    have eh:((i:Int)+(j:Int)) / 2=(h:Int):=by omega
    by_cases hcv:c u<c v
    · have q3:decide (c u-c v<0)=true:=by simp;omega
      have vZ:=zh (show half T f (h+1) j=I by rw[← HO.out,wU (t:=T) (f:=f) hlt (by rw[hh,HTh.out];simpa using hcv),hh]);clear hcv hu hv fu fv hh;go_wp2_with fail;go_quiet (exact Calls.quiet_of (HQ.out _));go_wp2_with fail;exact⟨⟨h+1,j,f,by simp,rfl,by omega,by omega,by omega,by omega,hrow,ho.trans (fM.drew nq),vZ⟩,by simp[intOf];omega⟩
    · have q3:decide (c u-c v<0)=false:=by simp;omega
      have vZ:=zh (show half T f i h=I by rw[← HO.out,aAz (t:=T) (f:=f) hlt (by rw[hh,HTh.out];simpa using hcv),hh]);clear hcv hu hv fu fv hh;go_wp2_with fail;go_quiet (exact Calls.quiet_of (HQ.out _));go_wp2_with fail;exact⟨⟨i,h,f,rfl,rfl,by omega,by omega,by omega,by omega,hrow,ho.trans (fM.drew nq),vZ⟩,by simp[intOf];omega⟩
  · obtain rfl:i=I:=by rw[← HO.out,wV hlt]
    have q1:decide ((i:Int)<(j:Int))=false:=by simp;omega
    go_wp2_with fail;go_loopw [13] (fun vk wr=>∃ (k:Nat) (L:List Int),vk=.int .i64 (k:Int)∧a≤k∧k+1≤i∧aN wr g off pre post L∧fM g w wr∧RowKit.Hid (L.length=n)∧RowKit.Hid (upS (i-1-k) k L=upS (i-1-a) a l)) (fun vk _=>i-(intOf vk).toNat)
    case atStart=>exact⟨a,l,rfl,by omega,by omega,hrow,ho,HN,zh rfl⟩
    case round =>
     clear hrow ho HO hr;obtain⟨k,L,rfl,hak,hki,hrow,ho,HL,HO⟩:=hrel;by_cases hlt2:k+1<i
     · have q2:decide ((k:Int)<(i:Int)-1)=true:=by simp;omega
       obtain⟨p,hp⟩:∃ p,k+1=p:=⟨_,rfl⟩
       obtain⟨u,hu⟩:∃ u,L[k]'(by rw[HL.out];omega)=u:=⟨_,rfl⟩
       obtain⟨v,hv⟩:∃ v,L[p]'(by rw[HL.out];omega)=v:=⟨_,rfl⟩
       have cu:=hrow.cell k (by rw[HL.out];omega);have cv:=hrow.cell p (by rw[HL.out];omega);have zu:=hrow.frozen k;have zv:=hrow.frozen p;rw[hu] at cu;rw[hv] at cv;have n1:k≠p:=by omega
       have n2:p≠k:=by omega
       have jk:(k:Int)<(n:Int):=by omega
       have jp:(p:Int)<(n:Int):=by omega
       have vZ:=zh (show upS (i-1-p) p (swp L k p)=upS (i-1-a) a l by rw[← HO.out,show i-1-k=(i-1-p)+1 by omega,bHd,hp]);have HM:=zh (show aN ((wr.setCell ⟨g,off+k,none⟩ (.int .i64 v)).setCell ⟨g,off+p,none⟩ (.int .i64 u)) g off pre post (swp L k p) by rw[← hu,← hv];exact aN.swp hrow (by rw[HL.out];omega) (by rw[HL.out];omega));have zR:=zh ho;have EP:=zh (show wrap64 ((k:Int)+1)=(p:Int) by unfold wrap64;omega);have ep:=EP.out;have ep':(k:Int)+1=(p:Int):=by omega
       clear hu hv HO ho hrow hp;go_wp2_with fail;have mixed:prog.follows Departure.mixedOrders=true:=by kernel_rfl
       go_big_region_o
       all_goals go_wp2
       refine⟨⟨p,swp L k p,rfl,by omega,by omega,HM.out,(zR.out.trans ((fM.set _ _).trans (fM.set _ _))).trans ⟨rfl,rfl,rfl,rfl,fun _ _=>rfl⟩,zh (by rw[eD];exact HL.out),vZ⟩,by simp[intOf];omega⟩
     · have q2:decide ((k:Int)<(i:Int)-1)=false:=by simp;omega
       have hz:L=upS (i-1-a) a l:=by rw[← HO.out,show i-1-k=0 by omega];rfl
       go_wp2_with fail;refine bodyPost_ret (results_none rfl _ _ _) rfl ?_;rw[hz] at hrow;exact⟨rfl,hrow,ho⟩
theorem bHe (n k:Nat) (l:List Int):dnS (n+1) k l=dnS n (k-1) (swp l k (k-1)):=rfl
theorem aPk (c:Int→Int) (g off bx cap n a m b:Nat) (x y z:Int) (hx:(a:Int)=x) (hy:(m:Int)=y) (hz:(b:Int)=z) (pre post:List Value) (l:List Int) (w:World) (hn:l.length=n) (hr:aN w g off pre post l) (hf:aM l) (ham:a+1<m) (hmb:b=m+1) (hb:b≤n) (hlen:n≤4194304) (hc:nK w g bx c) :
 Calls prog 251 #[.slice (some ⟨g,off,none⟩) n cap,.int .i64 x,.int .i64 y,.int .i64 z,.func (.func 244) #[] #[.pointer (some ⟨bx,0,none⟩)]] w fun e w' =>
  e=.returned (.tuple #[])∧aN w' g off pre post (dnS (m-half (fun h=>!decide (c (l.getD m 0)<c (l.getD h 0))) (m-a) a m) m l)∧fM g w w':=by
 subst hx hy hz hmb;have HC:=zh hc;have HN:=zh hn;have HF:=zh hf;obtain⟨T,hT⟩:∃ T:Nat→Bool,(fun h=>!decide (c (l.getD m 0)<c (l.getD h 0)))=T:=⟨_,rfl⟩
 have HT:=zh hT;rw[hT];obtain⟨I,hI⟩:∃ I,half T (m-a) a m=I:=⟨_,rfl⟩
 have hI1:=aAy T (m-a) a m (by omega);rw[hI] at hI1 ⊢;have HI:=zh hI;have q00:((m:Int)-(a:Int)==1)=false:=by simp;omega
 have q0:((m:Int)+1-(m:Int)==1)=true:=by simp;omega
 clear hc hn hf hT hI;go_enter func251,ntmps251;go_wp2_with fail;go_loopw [14,15] (fun vi vj wr=>∃ (i j f:Nat),vi=.int .i64 (i:Int)∧vj=.int .i64 (j:Int)∧a≤i∧i≤j∧j≤m∧j-i≤f∧aN wr g off pre post l∧fM g w wr∧RowKit.Hid (half T f i j=I)) (fun vi vj _=>(intOf vj).toNat-(intOf vi).toNat)
 case atStart=>exact⟨a,m,m-a,rfl,rfl,by omega,by omega,by omega,by omega,hr,fM.refl _ _,HI⟩
 case round =>
  obtain⟨i,j,f,rfl,rfl,hi,hij,hj,hf,hrow,ho,HO⟩:=hrel;by_cases hlt:i<j
  · obtain⟨f,rfl⟩:∃ k,f=k+1:=⟨f-1,by omega⟩
    have q1:decide ((i:Int)<(j:Int))=true:=by simp;omega
    obtain⟨h,hh⟩:∃ h,(i+j) / 2=h:=⟨_,rfl⟩
    have hih:i≤h∧h<j:=by omega
    obtain⟨u,hu⟩:∃ u,l[h]'(by rw[HN.out];omega)=u:=⟨_,rfl⟩
    obtain⟨v,hv⟩:∃ v,l[m]'(by rw[HN.out];omega)=v:=⟨_,rfl⟩
    have cu:=hrow.cell h (by rw[HN.out];omega);have cv:=hrow.cell m (by rw[HN.out];omega);have fu:=HF.out.at (i:=h) (by rw[HN.out];omega);have fv:=HF.out.at (i:=m) (by rw[HN.out];omega);rw[hu] at cu fu;rw[hv] at cv fv;have HTh:=zh (show T h=!decide (c v<c u) by rw[← HT.out];simp only [getD_at (show h<l.length by rw[HN.out];omega),getD_at (show m<l.length by rw[HN.out];omega),hu,hv]);have HQ:=zh (show ∀ m,Calls prog 244 #[.int .i64 v,.int .i64 u,.pointer (some ⟨bx,0,none⟩)] (wr.drewN m) fun e w''=>e=.returned (.int .i64 (c v-c u))∧∃ n,w''=(wr.drewN m).drewN n from fun m=>HC.out v u _ fv fu (ho.trans (fM.drew m)));have jh:(h:Int)<(n:Int):=by omega
    have ja:(m:Int)<(n:Int):=by omega
    have eh:((i:Int)+(j:Int)) / 2=(h:Int):=by omega
    by_cases hcv:¬ c v<c u
    · have q3:decide (c v-c u<0)=false:=by simp;omega
      have vZ:=zh (show half T f (h+1) j=I by rw[← HO.out,wU (t:=T) (f:=f) hlt (by rw[hh,HTh.out];simpa using hcv),hh]);clear hcv hu hv fu fv hh;go_wp2_with fail;go_quiet (exact Calls.quiet_of (HQ.out _));go_wp2_with fail;exact⟨⟨h+1,j,f,by simp,rfl,by omega,by omega,by omega,by omega,hrow,ho.trans (fM.drew nq),vZ⟩,by simp[intOf];omega⟩
    · have q3:decide (c v-c u<0)=true:=by simp;omega
      have vZ:=zh (show half T f i h=I by rw[← HO.out,aAz (t:=T) (f:=f) hlt (by rw[hh,HTh.out];simpa using hcv),hh]);clear hcv hu hv fu fv hh;go_wp2_with fail;go_quiet (exact Calls.quiet_of (HQ.out _));go_wp2_with fail;exact⟨⟨i,h,f,rfl,rfl,by omega,by omega,by omega,by omega,hrow,ho.trans (fM.drew nq),vZ⟩,by simp[intOf];omega⟩
  · obtain rfl:i=I:=by rw[← HO.out,wV hlt]
    have q1:decide ((i:Int)<(j:Int))=false:=by simp;omega
    go_wp2_with fail;go_loopw [17] (fun vk wr=>∃ (k:Nat) (L:List Int),vk=.int .i64 (k:Int)∧i≤k∧k≤m∧aN wr g off pre post L∧fM g w wr∧RowKit.Hid (L.length=n)∧RowKit.Hid (dnS (k-i) k L=dnS (m-i) m l)) (fun vk _=>(intOf vk).toNat)
    case atStart=>exact⟨m,l,rfl,by omega,by omega,hrow,ho,HN,zh rfl⟩
    case round =>
     clear hrow ho HO hr;obtain⟨k,L,rfl,hak,hki,hrow,ho,HL,HO⟩:=hrel;by_cases hlt2:i<k
     · have q2:decide ((i:Int)<(k:Int))=true:=by simp;omega
       obtain⟨p,rfl⟩:∃ p,k=p+1:=⟨k-1,by omega⟩
       obtain⟨k,hk⟩:∃ k,k=p+1:=⟨_,rfl⟩
       rw[← hk] at hak hki HO hlt2 ⊢;obtain⟨u,hu⟩:∃ u,L[k]'(by rw[HL.out];omega)=u:=⟨_,rfl⟩
       obtain⟨v,hv⟩:∃ v,L[p]'(by rw[HL.out];omega)=v:=⟨_,rfl⟩
       have cu:=hrow.cell k (by rw[HL.out];omega);have cv:=hrow.cell p (by rw[HL.out];omega);have zu:=hrow.frozen k;have zv:=hrow.frozen p;rw[hu] at cu;rw[hv] at cv;have n1:k≠p:=by omega
       have n2:p≠k:=by omega
       have jk:(k:Int)<(n:Int):=by omega
       have jp:(p:Int)<(n:Int):=by omega
       have vZ:=zh (show dnS (p-i) p (swp L k p)=dnS (m-i) m l by rw[← HO.out,show k-i=(p-i)+1 by omega,bHe,show k-1=p by omega]);have HM:=zh (show aN ((wr.setCell ⟨g,off+k,none⟩ (.int .i64 v)).setCell ⟨g,off+p,none⟩ (.int .i64 u)) g off pre post (swp L k p) by rw[← hu,← hv];exact aN.swp hrow (by rw[HL.out];omega) (by rw[HL.out];omega));have zR:=zh ho;have EP:=zh (show wrap64 ((k:Int)-1)=(p:Int) by unfold wrap64;omega);have ep:=EP.out;have ep':(k:Int)-1=(p:Int):=by omega
       have HK:=zh (show p<k by omega);clear hu hv HO ho hrow hk;go_wp2_with fail;have mixed:prog.follows Departure.mixedOrders=true:=by kernel_rfl
       go_big_region_o
       all_goals go_wp2
       have hpk:=HK.out;refine⟨⟨p,swp L k p,rfl,by omega,by omega,HM.out,(zR.out.trans ((fM.set _ _).trans (fM.set _ _))).trans ⟨rfl,rfl,rfl,rfl,fun _ _=>rfl⟩,zh (by rw[eD];exact HL.out),vZ⟩,by simp[intOf];omega⟩
     · have q2:decide ((i:Int)<(k:Int))=false:=by simp;omega
       have hz:L=dnS (m-i) m l:=by rw[← HO.out,show k-i=0 by omega];rfl
       go_wp2_with fail;refine bodyPost_ret (results_none rfl _ _ _) rfl ?_;rw[hz] at hrow;exact⟨rfl,hrow,ho⟩
