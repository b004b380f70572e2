import Derived.Laws.CopyOwn
import Derived.LoopIn
import Derived.LoopNIn
import Derived.RangeFuncBound
import Derived.RangeFuncNested
import Derived.Shelf.RegionOpen
import Derived.Test.YtcgnajeenflfaaaGreatDoorP5
set_option maxRecDepth 100000
set_option maxHeartbeats 4000000
set_option linter.all false
open Go.Proofs.Tryz Go.RowKit
namespace Go.Proofs.YtcgnajeenflfaaaGreatDoor
namespace Ta
theorem isPoint_0 (x:Int) (w:World) (h1:¬ 0≤x):Calls prog 94 #[.int .i64 x] w fun e w'=>e=.returned (.bool (isPtB x))∧w'=w:=by
 rw[show isPtB x=false by simp[isPtB];omega]
 have d0:decide (0≤x)=false:=by simp;omega
 clear h1
 go_enter func94,ntmps94
 go_wp2_with fail
 go_ret
 exact⟨rfl,rfl⟩
theorem isPoint_1 (x:Int) (w:World) (h1:0≤x) (h2:¬ x≤1114111):Calls prog 94 #[.int .i64 x] w fun e w'=>e=.returned (.bool (isPtB x))∧w'=w:=by
 rw[show isPtB x=false by simp[isPtB];omega]
 have d0:decide (0≤x)=true:=by simp;omega
 have d1:decide (x≤1114111)=false:=by simp;omega
 clear h1 h2
 go_enter func94,ntmps94
 go_wp2_with fail
 go_ret
 exact⟨rfl,rfl⟩
theorem isPoint_2 (x:Int) (w:World) (h1:0≤x) (h2:x<55296):Calls prog 94 #[.int .i64 x] w fun e w'=>e=.returned (.bool (isPtB x))∧w'=w:=by
 rw[show isPtB x=true by simp[isPtB];omega]
 have d0:decide (0≤x)=true:=by simp;omega
 have d1:decide (x≤1114111)=true:=by simp;omega
 have d2:decide (x<55296)=true:=by simp;omega
 clear h1 h2
 go_enter func94,ntmps94
 go_wp2_with fail
 go_ret
 exact⟨rfl,rfl⟩
theorem isPoint_3 (x:Int) (w:World) (h1:¬ x<55296) (h2:¬ 57343<x):Calls prog 94 #[.int .i64 x] w fun e w'=>e=.returned (.bool (isPtB x))∧w'=w:=by
 rw[show isPtB x=false by simp[isPtB];omega]
 have d0:decide (0≤x)=true:=by simp;omega
 have d1:decide (x≤1114111)=true:=by simp;omega
 have d2:decide (x<55296)=false:=by simp;omega
 have d3:decide (57343<x)=false:=by simp;omega
 clear h1 h2
 go_enter func94,ntmps94
 go_wp2_with fail
 go_ret
 exact⟨rfl,rfl⟩
theorem isPoint_4 (x:Int) (w:World) (h1:57343<x) (h2:x≤1114111):Calls prog 94 #[.int .i64 x] w fun e w'=>e=.returned (.bool (isPtB x))∧w'=w:=by
 rw[show isPtB x=true by simp[isPtB];omega]
 have d0:decide (0≤x)=true:=by simp;omega
 have d1:decide (x≤1114111)=true:=by simp;omega
 have d2:decide (x<55296)=false:=by simp;omega
 have d3:decide (57343<x)=true:=by simp;omega
 clear h1 h2
 go_enter func94,ntmps94
 go_wp2_with fail
 go_ret
 exact⟨rfl,rfl⟩
theorem isPoint_any (x:Int) (w:World):Calls prog 94 #[.int .i64 x] w fun e w'=>e=.returned (.bool (isPtB x))∧w'=w:=by
 by_cases h1:0≤x
 · by_cases h2:x≤1114111
   · by_cases h3:x<55296
     · exact isPoint_2 x w h1 h3
     · by_cases h4:57343<x
       · exact isPoint_4 x w h4 h2
       · exact isPoint_3 x w h3 h4
   · exact isPoint_1 x w h1 h2
 · exact isPoint_0 x w h1
theorem isPointU_0 (x:Int) (w:World) (h1:¬ 0≤x):Calls prog 114 #[.int .i64 x] w fun e w'=>e=.returned (.bool (isPtB x))∧w'=w:=by
 rw[show isPtB x=false by simp[isPtB];omega]
 have d0:decide (0≤x)=false:=by simp;omega
 clear h1
 go_enter func114,ntmps114
 go_wp2_with fail
 go_ret
 exact⟨rfl,rfl⟩
theorem isPointU_1 (x:Int) (w:World) (h1:0≤x) (h2:¬ x≤1114111):Calls prog 114 #[.int .i64 x] w fun e w'=>e=.returned (.bool (isPtB x))∧w'=w:=by
 rw[show isPtB x=false by simp[isPtB];omega]
 have d0:decide (0≤x)=true:=by simp;omega
 have d1:decide (x≤1114111)=false:=by simp;omega
 clear h1 h2
 go_enter func114,ntmps114
 go_wp2_with fail
 go_ret
 exact⟨rfl,rfl⟩
theorem isPointU_2 (x:Int) (w:World) (h1:0≤x) (h2:x<55296):Calls prog 114 #[.int .i64 x] w fun e w'=>e=.returned (.bool (isPtB x))∧w'=w:=by
 rw[show isPtB x=true by simp[isPtB];omega]
 have d0:decide (0≤x)=true:=by simp;omega
 have d1:decide (x≤1114111)=true:=by simp;omega
 have d2:decide (x<55296)=true:=by simp;omega
 clear h1 h2
 go_enter func114,ntmps114
 go_wp2_with fail
 go_ret
 exact⟨rfl,rfl⟩
theorem isPointU_3 (x:Int) (w:World) (h1:¬ x<55296) (h2:¬ 57343<x):Calls prog 114 #[.int .i64 x] w fun e w'=>e=.returned (.bool (isPtB x))∧w'=w:=by
 rw[show isPtB x=false by simp[isPtB];omega]
 have d0:decide (0≤x)=true:=by simp;omega
 have d1:decide (x≤1114111)=true:=by simp;omega
 have d2:decide (x<55296)=false:=by simp;omega
 have d3:decide (57343<x)=false:=by simp;omega
 clear h1 h2
 go_enter func114,ntmps114
 go_wp2_with fail
 go_ret
 exact⟨rfl,rfl⟩
theorem isPointU_4 (x:Int) (w:World) (h1:57343<x) (h2:x≤1114111):Calls prog 114 #[.int .i64 x] w fun e w'=>e=.returned (.bool (isPtB x))∧w'=w:=by
 rw[show isPtB x=true by simp[isPtB];omega]
 have d0:decide (0≤x)=true:=by simp;omega
 have d1:decide (x≤1114111)=true:=by simp;omega
 have d2:decide (x<55296)=false:=by simp;omega
 have d3:decide (57343<x)=true:=by simp;omega
 clear h1 h2
 go_enter func114,ntmps114
 go_wp2_with fail
 go_ret
 exact⟨rfl,rfl⟩
theorem isPointU_any (x:Int) (w:World):Calls prog 114 #[.int .i64 x] w fun e w'=>e=.returned (.bool (isPtB x))∧w'=w:=by
 by_cases h1:0≤x
 · by_cases h2:x≤1114111
   · by_cases h3:x<55296
     · exact isPointU_2 x w h1 h3
     · by_cases h4:57343<x
       · exact isPointU_4 x w h4 h2
       · exact isPointU_3 x w h3 h4
   · exact isPointU_1 x w h1 h2
 · exact isPointU_0 x w h1
def ImpPost (x:Int) (w:World) (e:Ending) (w':World):Prop:=∃ u,e=.returned u∧w'.ownsRow w.heap.size 176 4 u (impM x).length (ev (impM x))∧Below w.heap.size w w'
theorem implied_no (x:Int) (w:World) (h:isPtB x=false):Calls prog 223 #[.int .i64 x] w (ImpPost x w):=by
 have HP:=zh (show impM x=[] by unfold impM;rw[h];rfl)
 go_enter func223,ntmps223
 go_wp2_with fail
 refine(isPoint_any x w).mono ?_
 rintro e w1 ⟨rfl,rfl⟩
 rw[h]
 go_wp2_with fail
 go_ret
 exact⟨_,rfl,by rw[HP.out];exact World.ownsRow_nil _ _ _ _,zr⟩
theorem implied_0 (x:Int) (w:World) (h:isPtB x=true) (h1:0≤x) (h2:x≤13311):Calls prog 223 #[.int .i64 x] w (ImpPost x w):=by
 have HP:=zh (show impM x=[⟨false,64448+x / 32768,32,2⟩,⟨false,32768+x % 32768,0,0⟩] by unfold impM impBase;rw[h];simp only [if_true];rw[if_neg (by omega),if_neg (by omega)])
 have d0:decide (19968≤x)=false:=by simp;omega
 have d1:decide (x≤40959)=true:=by simp;omega
 have d2:decide (63744≤x)=false:=by simp;omega
 have d3:decide (x≤64255)=true:=by simp;omega
 have d4:decide (13312≤x)=false:=by simp;omega
 have d5:decide (x≤19903)=true:=by simp;omega
 have d6:decide (131072≤x)=false:=by simp;omega
 have d7:decide (x≤262143)=true:=by simp;omega
 have h0:0≤x:=by omega
 have h9:x≤1114111:=by omega
 clear h1 h2
 go_enter func223,ntmps223
 go_wp2_with fail
 refine(isPoint_any x w).mono ?_
 rintro e w1 ⟨rfl,rfl⟩
 rw[h]
 go_wp2_with fail
 go_ret
 refine⟨_,rfl,?_,zr.alloc lr _⟩
 rw[HP.out]
 exact World.ownsRow_lit w1 _ 2 lr (by decide) rfl
theorem implied_1 (x:Int) (w:World) (h:isPtB x=true) (h1:13312≤x) (h2:x≤19903):Calls prog 223 #[.int .i64 x] w (ImpPost x w):=by
 have HP:=zh (show impM x=[⟨false,64384+x / 32768,32,2⟩,⟨false,32768+x % 32768,0,0⟩] by unfold impM impBase;rw[h];simp only [if_true];rw[if_neg (by omega),if_pos (by omega)])
 have d0:decide (19968≤x)=false:=by simp;omega
 have d1:decide (x≤40959)=true:=by simp;omega
 have d2:decide (63744≤x)=false:=by simp;omega
 have d3:decide (x≤64255)=true:=by simp;omega
 have d4:decide (13312≤x)=true:=by simp;omega
 have d5:decide (x≤19903)=true:=by simp;omega
 have d6:decide (131072≤x)=false:=by simp;omega
 have d7:decide (x≤262143)=true:=by simp;omega
 have h0:0≤x:=by omega
 have h9:x≤1114111:=by omega
 clear h1 h2
 go_enter func223,ntmps223
 go_wp2_with fail
 refine(isPoint_any x w).mono ?_
 rintro e w1 ⟨rfl,rfl⟩
 rw[h]
 go_wp2_with fail
 go_ret
 refine⟨_,rfl,?_,zr.alloc lr _⟩
 rw[HP.out]
 exact World.ownsRow_lit w1 _ 2 lr (by decide) rfl
theorem implied_2 (x:Int) (w:World) (h:isPtB x=true) (h1:19904≤x) (h2:x≤19967):Calls prog 223 #[.int .i64 x] w (ImpPost x w):=by
 have HP:=zh (show impM x=[⟨false,64448+x / 32768,32,2⟩,⟨false,32768+x % 32768,0,0⟩] by unfold impM impBase;rw[h];simp only [if_true];rw[if_neg (by omega),if_neg (by omega)])
 have d0:decide (19968≤x)=false:=by simp;omega
 have d1:decide (x≤40959)=true:=by simp;omega
 have d2:decide (63744≤x)=false:=by simp;omega
 have d3:decide (x≤64255)=true:=by simp;omega
 have d4:decide (13312≤x)=true:=by simp;omega
 have d5:decide (x≤19903)=false:=by simp;omega
 have d6:decide (131072≤x)=false:=by simp;omega
 have d7:decide (x≤262143)=true:=by simp;omega
 have h0:0≤x:=by omega
 have h9:x≤1114111:=by omega
 clear h1 h2
 go_enter func223,ntmps223
 go_wp2_with fail
 refine(isPoint_any x w).mono ?_
 rintro e w1 ⟨rfl,rfl⟩
 rw[h]
 go_wp2_with fail
 go_ret
 refine⟨_,rfl,?_,zr.alloc lr _⟩
 rw[HP.out]
 exact World.ownsRow_lit w1 _ 2 lr (by decide) rfl
theorem implied_3 (x:Int) (w:World) (h:isPtB x=true) (h1:19968≤x) (h2:x≤40959):Calls prog 223 #[.int .i64 x] w (ImpPost x w):=by
 have HP:=zh (show impM x=[⟨false,64320+x / 32768,32,2⟩,⟨false,32768+x % 32768,0,0⟩] by unfold impM impBase;rw[h];simp only [if_true];rw[if_pos (by omega)])
 have d0:decide (19968≤x)=true:=by simp;omega
 have d1:decide (x≤40959)=true:=by simp;omega
 have d2:decide (63744≤x)=false:=by simp;omega
 have d3:decide (x≤64255)=true:=by simp;omega
 have d4:decide (13312≤x)=true:=by simp;omega
 have d5:decide (x≤19903)=false:=by simp;omega
 have d6:decide (131072≤x)=false:=by simp;omega
 have d7:decide (x≤262143)=true:=by simp;omega
 have h0:0≤x:=by omega
 have h9:x≤1114111:=by omega
 clear h1 h2
 go_enter func223,ntmps223
 go_wp2_with fail
 refine(isPoint_any x w).mono ?_
 rintro e w1 ⟨rfl,rfl⟩
 rw[h]
 go_wp2_with fail
 go_ret
 refine⟨_,rfl,?_,zr.alloc lr _⟩
 rw[HP.out]
 exact World.ownsRow_lit w1 _ 2 lr (by decide) rfl
theorem implied_4 (x:Int) (w:World) (h:isPtB x=true) (h1:40960≤x) (h2:x≤63743):Calls prog 223 #[.int .i64 x] w (ImpPost x w):=by
 have HP:=zh (show impM x=[⟨false,64448+x / 32768,32,2⟩,⟨false,32768+x % 32768,0,0⟩] by unfold impM impBase;rw[h];simp only [if_true];rw[if_neg (by omega),if_neg (by omega)])
 have d0:decide (19968≤x)=true:=by simp;omega
 have d1:decide (x≤40959)=false:=by simp;omega
 have d2:decide (63744≤x)=false:=by simp;omega
 have d3:decide (x≤64255)=true:=by simp;omega
 have d4:decide (13312≤x)=true:=by simp;omega
 have d5:decide (x≤19903)=false:=by simp;omega
 have d6:decide (131072≤x)=false:=by simp;omega
 have d7:decide (x≤262143)=true:=by simp;omega
 have h0:0≤x:=by omega
 have h9:x≤1114111:=by omega
 clear h1 h2
 go_enter func223,ntmps223
 go_wp2_with fail
 refine(isPoint_any x w).mono ?_
 rintro e w1 ⟨rfl,rfl⟩
 rw[h]
 go_wp2_with fail
 go_ret
 refine⟨_,rfl,?_,zr.alloc lr _⟩
 rw[HP.out]
 exact World.ownsRow_lit w1 _ 2 lr (by decide) rfl
theorem implied_5 (x:Int) (w:World) (h:isPtB x=true) (h1:63744≤x) (h2:x≤64255):Calls prog 223 #[.int .i64 x] w (ImpPost x w):=by
 have HP:=zh (show impM x=[⟨false,64320+x / 32768,32,2⟩,⟨false,32768+x % 32768,0,0⟩] by unfold impM impBase;rw[h];simp only [if_true];rw[if_pos (by omega)])
 have d0:decide (19968≤x)=true:=by simp;omega
 have d1:decide (x≤40959)=false:=by simp;omega
 have d2:decide (63744≤x)=true:=by simp;omega
 have d3:decide (x≤64255)=true:=by simp;omega
 have d4:decide (13312≤x)=true:=by simp;omega
 have d5:decide (x≤19903)=false:=by simp;omega
 have d6:decide (131072≤x)=false:=by simp;omega
 have d7:decide (x≤262143)=true:=by simp;omega
 have h0:0≤x:=by omega
 have h9:x≤1114111:=by omega
 clear h1 h2
 go_enter func223,ntmps223
 go_wp2_with fail
 refine(isPoint_any x w).mono ?_
 rintro e w1 ⟨rfl,rfl⟩
 rw[h]
 go_wp2_with fail
 go_ret
 refine⟨_,rfl,?_,zr.alloc lr _⟩
 rw[HP.out]
 exact World.ownsRow_lit w1 _ 2 lr (by decide) rfl
theorem implied_6 (x:Int) (w:World) (h:isPtB x=true) (h1:64256≤x) (h2:x≤131071):Calls prog 223 #[.int .i64 x] w (ImpPost x w):=by
 have HP:=zh (show impM x=[⟨false,64448+x / 32768,32,2⟩,⟨false,32768+x % 32768,0,0⟩] by unfold impM impBase;rw[h];simp only [if_true];rw[if_neg (by omega),if_neg (by omega)])
 have d0:decide (19968≤x)=true:=by simp;omega
 have d1:decide (x≤40959)=false:=by simp;omega
 have d2:decide (63744≤x)=true:=by simp;omega
 have d3:decide (x≤64255)=false:=by simp;omega
 have d4:decide (13312≤x)=true:=by simp;omega
 have d5:decide (x≤19903)=false:=by simp;omega
 have d6:decide (131072≤x)=false:=by simp;omega
 have d7:decide (x≤262143)=true:=by simp;omega
 have h0:0≤x:=by omega
 have h9:x≤1114111:=by omega
 clear h1 h2
 go_enter func223,ntmps223
 go_wp2_with fail
 refine(isPoint_any x w).mono ?_
 rintro e w1 ⟨rfl,rfl⟩
 rw[h]
 go_wp2_with fail
 go_ret
 refine⟨_,rfl,?_,zr.alloc lr _⟩
 rw[HP.out]
 exact World.ownsRow_lit w1 _ 2 lr (by decide) rfl
theorem implied_7 (x:Int) (w:World) (h:isPtB x=true) (h1:131072≤x) (h2:x≤262143):Calls prog 223 #[.int .i64 x] w (ImpPost x w):=by
 have HP:=zh (show impM x=[⟨false,64384+x / 32768,32,2⟩,⟨false,32768+x % 32768,0,0⟩] by unfold impM impBase;rw[h];simp only [if_true];rw[if_neg (by omega),if_pos (by omega)])
 have d0:decide (19968≤x)=true:=by simp;omega
 have d1:decide (x≤40959)=false:=by simp;omega
 have d2:decide (63744≤x)=true:=by simp;omega
 have d3:decide (x≤64255)=false:=by simp;omega
 have d4:decide (13312≤x)=true:=by simp;omega
 have d5:decide (x≤19903)=false:=by simp;omega
 have d6:decide (131072≤x)=true:=by simp;omega
 have d7:decide (x≤262143)=true:=by simp;omega
 have h0:0≤x:=by omega
 have h9:x≤1114111:=by omega
 clear h1 h2
 go_enter func223,ntmps223
 go_wp2_with fail
 refine(isPoint_any x w).mono ?_
 rintro e w1 ⟨rfl,rfl⟩
 rw[h]
 go_wp2_with fail
 go_ret
 refine⟨_,rfl,?_,zr.alloc lr _⟩
 rw[HP.out]
 exact World.ownsRow_lit w1 _ 2 lr (by decide) rfl
theorem implied_8 (x:Int) (w:World) (h:isPtB x=true) (h1:262144≤x) (h2:x≤1114111):Calls prog 223 #[.int .i64 x] w (ImpPost x w):=by
 have HP:=zh (show impM x=[⟨false,64448+x / 32768,32,2⟩,⟨false,32768+x % 32768,0,0⟩] by unfold impM impBase;rw[h];simp only [if_true];rw[if_neg (by omega),if_neg (by omega)])
 have d0:decide (19968≤x)=true:=by simp;omega
 have d1:decide (x≤40959)=false:=by simp;omega
 have d2:decide (63744≤x)=true:=by simp;omega
 have d3:decide (x≤64255)=false:=by simp;omega
 have d4:decide (13312≤x)=true:=by simp;omega
 have d5:decide (x≤19903)=false:=by simp;omega
 have d6:decide (131072≤x)=true:=by simp;omega
 have d7:decide (x≤262143)=false:=by simp;omega
 have h0:0≤x:=by omega
 have h9:x≤1114111:=by omega
 clear h1 h2
 go_enter func223,ntmps223
 go_wp2_with fail
 refine(isPoint_any x w).mono ?_
 rintro e w1 ⟨rfl,rfl⟩
 rw[h]
 go_wp2_with fail
 go_ret
 refine⟨_,rfl,?_,zr.alloc lr _⟩
 rw[HP.out]
 exact World.ownsRow_lit w1 _ 2 lr (by decide) rfl
theorem Implied_any (x:Int) (w:World):Calls prog 223 #[.int .i64 x] w (ImpPost x w):=by
 cases h:isPtB x with
 | false=>exact implied_no x w h
 | true =>
  have hp:0≤x∧x≤1114111:=by simp[isPtB] at h;omega
  by_cases c0:x≤13311
  · exact implied_0 x w h (by omega) c0
  by_cases c1:x≤19903
  · exact implied_1 x w h (by omega) c1
  by_cases c2:x≤19967
  · exact implied_2 x w h (by omega) c2
  by_cases c3:x≤40959
  · exact implied_3 x w h (by omega) c3
  by_cases c4:x≤63743
  · exact implied_4 x w h (by omega) c4
  by_cases c5:x≤64255
  · exact implied_5 x w h (by omega) c5
  by_cases c6:x≤131071
  · exact implied_6 x w h (by omega) c6
  by_cases c7:x≤262143
  · exact implied_7 x w h (by omega) c7
  exact implied_8 x w h (by omega) (by omega)
open Go.Maps Go.WideMaps
open D (isI64 wf64)
def rowK (l:List Int):List Int:=if l.length≤8 then (l.length:Int)::(l++List.replicate (8-l.length) 0) else List.replicate 9 0
def encRow (xs:List Int):Value:=.agg (nv xs).toArray
theorem rowK_len (l:List Int):(rowK l).length=9:=by
 unfold rowK
 split
 · simp;omega
 · simp
theorem rowOf_no (s:Value) (l:List Int) (w:World) (lo hi:Nat) (hs:IntsIn w lo hi s l) (hl:¬ l.length≤8) :
 Calls prog 65 #[s] w fun e w'=>e=.returned (.tuple #[encRow (rowK l),.bool (decide (l.length≤8))])∧Below w.heap.size w w':=by
 obtain⟨a,cap,rfl,hc,_⟩:=hs.form
 rw[show decide (l.length≤8)=false by simpa using hl,show encRow (rowK l)=.agg #[.int .i64 0,.int .i64 0,.int .i64 0,.int .i64 0,.int .i64 0,.int .i64 0,.int .i64 0,.int .i64 0,.int .i64 0] by unfold rowK;rw[if_neg hl];rfl]
 have d0:decide ((8:Int)<(l.length:Int))=true:=by simp;omega
 clear hs hl
 go_enter func65,ntmps65
 go_wp2_with fail
 exact bodyPost_ret (v:=.tuple #[.agg #[.int .i64 0,.int .i64 0,.int .i64 0,.int .i64 0,.int .i64 0,.int .i64 0,.int .i64 0,.int .i64 0,.int .i64 0],.bool false]) (by simp[results,Tryz.f65,go_sem]) rfl ⟨rfl,(zr.alloc lr _).alloc (by simp) _⟩
theorem nv_all (l:List Int):(nv l).toArray.all (·.oneCell')=true:=by
 rw[Array.all_eq_true_iff_forall_mem]
 intro u hu
 exact nv_one l u (by simpa using hu)
theorem row_sz (l:List Int):(nv (rowK l)).toArray.size=9:=by simp[nv_length,rowK_len]
theorem info179:(prog.info? 179).map (·.size)=some 9:=by kernel_rfl
theorem infoSz:(prog.info? 3).map (·.size)=some 1:=by kernel_rfl
def zeros9:Array Value:=#[.int .i64 0,.int .i64 0,.int .i64 0,.int .i64 0,.int .i64 0,.int .i64 0,.int .i64 0,.int .i64 0,.int .i64 0]
theorem splice_row (l:List Int) (h:l.length≤8):splice ((zeros9.setIfInBounds 0 (.int .i64 l.length)).toList) 1 (nv l)=nv (rowK l):=by
 unfold rowK
 rw[if_pos h]
 match l,h with
 | [],_=>rfl
 | [_],_=>rfl
 | [_,_],_=>rfl
 | [_,_,_],_=>rfl
 | [_,_,_,_],_=>rfl
 | [_,_,_,_,_],_=>rfl
 | [_,_,_,_,_,_],_=>rfl
 | [_,_,_,_,_,_,_],_=>rfl
 | [_,_,_,_,_,_,_,_],_=>rfl
 | _::_::_::_::_::_::_::_::_::_,h=>simp at h
theorem rowOf_yes (s:Value) (l:List Int) (w:World) (lo hi:Nat) (hs:IntsIn w lo hi s l) (hhi:hi≤w.heap.size) (hl:l.length≤8) :
 Calls prog 65 #[s] w fun e w'=>e=.returned (.tuple #[encRow (rowK l),.bool (decide (l.length≤8))])∧Below w.heap.size w w':=by
 obtain⟨a,cap,rfl,hc,hn⟩:=hs.form
 rw[show decide (l.length≤8)=true by simpa using hl]
 have d0:decide ((8:Int)<(l.length:Int))=false:=by simp;omega
 obtain⟨W1,hW1⟩:∃ W1,(w.alloc (.cells zeros9 179)).alloc (.cells (zeros9.setIfInBounds 0 (.int .i64 l.length)) 179)=W1:=⟨_,rfl⟩
 have g3:W1.heap[w.heap.size]?=some (.cells zeros9 179 (0,0)):=by rw[← hW1];exact heap_alloc2_old w _ _
 have g2:W1.heap[w.heap.size+1]?=some (.cells ((zeros9.setIfInBounds 0 (.int .i64 l.length)).toList.toArray) 179 (0,0)):=by rw[← hW1];exact heap_alloc2_new w _ _
 have hb2:Below w.heap.size w W1:=by rw[← hW1];exact(zr.alloc lr _).alloc (by simp) _
 have hsrc:0<(nv l).length→(some (⟨w.heap.size+1,1,none⟩:Addr))=some ⟨w.heap.size+1,1,none⟩∧∃ ad,a=some ad∧∀ j v,(nv l)[j]?=some v→W1.cell? (ad.add j)=some v:=by
  intro hpos
  refine⟨rfl,?_⟩
  obtain⟨a',cap',he,_,_,hcells⟩:=hs
  injection he with e1 e2 e3
  subst e1
  rw[nv_length] at hpos
  obtain⟨g,off,ha,_⟩:=hcells 0 hpos
  refine⟨⟨g,off,none⟩,ha,fun j v hv=>?_⟩
  simp only [nv,List.getElem?_map,Option.map_eq_some_iff] at hv
  obtain⟨y,hy,rfl⟩:=hv
  obtain⟨hj,rfl⟩:=List.getElem?_eq_some_iff.1 hy
  obtain⟨g',off',ha',_,h4,h5⟩:=hcells j hj
  rw[ha] at ha'
  cases ha'
  have h6:=(hb2.cell (p:=⟨g,off+j,none⟩) (by show g<w.heap.size;omega)).trans h5
  by_cases h0:j=0
  · subst h0;simpa[Addr.add] using h6
  · simpa[Addr.add,h0] using h6
 have HS:=zh hsrc
 have HG2:=zh g2
 have HG3:=zh g3
 have HB2:=zh hb2
 have HL:=zh hl
 have HW:=zh hW1
 clear hs hl hsrc g2 g3 hb2 hW1 hn
 go_enter func65,ntmps65
 go_wp2_with (first
  | (refine wpList_copy_splice rfl (.tmp 12) (.tmp 13) 42 42 rfl 3 underlying42 infoSz _ a 8 8 l.length cap rfl rfl (w.heap.size+1) 1 _ 179 (by rw[← HW.out] at HG2;exact HG2.out) (nv l) (by rw[nv_length];exact(Nat.min_eq_left HL.out).symm) (by rw[← HW.out] at HS;exact HS.out) (by rw[nv_length];have:=HL.out;simp[zeros9];omega) (nv_one l) (w.heap.size+1) _ zr lr ?_
     intro w3 hg3 hb3
     have HG4:=zh (show w3.heap[w.heap.size+1]?=some (.cells (nv (rowK l)).toArray 179 (0,0)) by rw[← splice_row l HL.out];exact hg3)
     have HG5:=zh (show w3.heap[w.heap.size]?=some (.cells zeros9 179 (0,0)) from(hb3.block w.heap.size (Nat.lt_succ_self _)).trans (by rw[← HW.out] at HG3;exact HG3.out))
     have HB3:=zh (show Below w.heap.size w w3 from(show Below w.heap.size w _ by rw[← HW.out] at HB2;exact HB2.out).trans (hb3.mono (Nat.le_succ _)))
     clear hg3 hb3)
  | (refine wpList_load_row rfl 179 (.tmp 4) rfl (w.heap.size+1) rfl 179 _ (0,0) (.array 9 3) (Hid.out (by assumption)) underlying179 rfl (by rw[row_sz];exact info179) ?_)
  | (refine wpList_store_row rfl 179 (.tmp 2) (.tmp 15) rfl w.heap.size (nv (rowK l)).toArray rfl rfl 179 zeros9 (Hid.out (by assumption)) (by rw[row_sz];exact info179) (by rw[row_sz];rfl) (nv_all _) ?_))
 have h1:=setRow_heap w3 w.heap.size zeros9 (nv (rowK l)).toArray 179 _ HG5.out
 have hr:=run_loadVar_row (P:=prog) _ w.heap.size 179 179 (nv (rowK l)).toArray (0,0) (.array 9 3) h1 underlying179 rfl (by rw[row_sz];exact info179)
 have hb9:Below w.heap.size w (w3.setRow w.heap.size (nv (rowK l)).toArray):=HB3.out.trans ⟨rfl,rfl,rfl,by simp[World.setRow],fun k hk=>setRow_other w3 w.heap.size k _ (by omega)⟩
 exact bodyPost_ret (v:=.tuple #[encRow (rowK l),.bool true]) (by simp[results,Tryz.f65,asAddr,hr,encRow]) rfl ⟨rfl,hb9⟩
theorem rowOf_any (s:Value) (l:List Int) (w:World) (lo hi:Nat) (hs:IntsIn w lo hi s l) (hhi:hi≤w.heap.size) :
 Calls prog 65 #[s] w fun e w'=>e=.returned (.tuple #[encRow (rowK l),.bool (decide (l.length≤8))])∧Below w.heap.size w w':=by
 by_cases h:l.length≤8
 · exact rowOf_yes s l w lo hi hs hhi h
 · exact rowOf_no s l w lo hi hs h
theorem rowArr:ArrKey prog 179 3 9:=⟨underlying179,by kernel_rfl,by kernel_rfl,by kernel_rfl⟩
theorem rowKeyed:Keyed prog 179:=Keyed.of_law rowArr.law
theorem typesN:∃ m,prog.types.size=m+1:=⟨prog.types.size-1,by kernel_rfl⟩
theorem keyRow (a b c d e f g h i:Int) (wa:isI64 a) (wb:isI64 b) (wc:isI64 c) (wd:isI64 d) (we:isI64 e) (wf:isI64 f) (wg:isI64 g) (wh:isI64 h) (wi:isI64 i) :
 keyOf prog 179 (encRow [a,b,c,d,e,f,g,h,i])=some (.string (keyBytes [.int .i64 a,.int .i64 b,.int .i64 c,.int .i64 d,.int .i64 e,.int .i64 f,.int .i64 g,.int .i64 h,.int .i64 i])):=by
 have c1:prog.cellsOf 179=9:=rowArr.size
 have c2:prog.cellsOf 3=1:=rowArr.one
 obtain⟨m,hm⟩:=typesN
 unfold keyOf
 simp only [underlying179,rowArr.keyType typesN,Value.formed,encRow,nv,Bool.true_and,c1]
 rw[hm]
 simp[Program.keyLits,underlying179,underlying3,c1,c2,Value.cells,List.range,List.range.loop,wf64 wa,wf64 wb,wf64 wc,wf64 wd,wf64 we,wf64 wf,wf64 wg,wf64 wh,wf64 wi]
theorem keyRow_any (xs:List Int) (h:xs.length=9) (hw:∀ x∈xs,isI64 x):∃ kl,keyOf prog 179 (encRow xs)=some kl:=by
 match xs,h with
 | [a,b,c,d,e,f,g,h,i],_ =>
  simp only [List.mem_cons,List.not_mem_nil,or_false,forall_eq_or_imp,forall_eq] at hw
  obtain⟨h1,h2,h3,h4,h5,h6,h7,h8,h9⟩:=hw
  exact⟨_,keyRow a b c d e f g h i h1 h2 h3 h4 h5 h6 h7 h8 h9⟩
theorem rowK_fine {l:List Int} (h:∀ x∈l,isI64 x):∀ x∈rowK l,isI64 x:=by
 intro x hx
 unfold rowK at hx
 split at hx
 · rcases List.mem_cons.1 hx with rfl | hx
   · unfold isI64;omega
   · rcases List.mem_append.1 hx with hx | hx
     · exact h x hx
     · obtain rfl:=List.eq_of_mem_replicate hx;unfold isI64;omega
 · obtain rfl:=List.eq_of_mem_replicate hx;unfold isI64;omega
theorem encRow_inj {x y:List Int} (h:encRow x=encRow y):x=y:=by
 unfold encRow at h
 injection h with h
 have h2:nv x=nv y:=by simpa using congrArg Array.toList h
 exact List.map_inj_right (fun a b e=>by injection e) |>.1 h2
theorem rowK_inj {l m:List Int} (hl:l.length≤8) (hm:m.length≤8) (h:rowK l=rowK m):l=m:=by
 unfold rowK at h
 rw[if_pos hl,if_pos hm] at h
 injection h with h1 h2
 have h3:l.length=m.length:=by omega
 rw[h3] at h2
 exact List.append_inj_left h2 h3
end Ta
namespace U
open Go.Shelf
attribute [local go_sem] Oper.semAt_some
def KpB (b:Nat) (W W':World):Prop:=W'.cell? ⟨b,0,none⟩=W.cell? ⟨b,0,none⟩
theorem kpB_t {b:Nat} {A B C:World} (h:KpB b A B) (k:KpB b B C):KpB b A C:=Eq.trans k h
theorem kpB_b {b:Nat} {w:World} (hb:b<w.heap.size) (W:World) (l:Nat) (o o':Obj) (hl:w.heap.size≤l) (h:W.heap[l]?=some o) (h1:o.isCells=false) (h2:o.isWalk=false):KpB b W (W.putObj l o') :=
 (belowK_b lr W l o o' hl h h1 h2).cell (p:=⟨b,0,none⟩) hb
theorem wraps_62 (n:Int) (h₀:0≤n) (h₁:n<2 ^ 62):IntKind.i64.wrap n=n:=by rw[IntKind.wrap_i64];omega
theorem w64 (n:Nat) (h:n<4611686018427387904):wrap64 (n:Int)=(n:Int):=by unfold wrap64;omega
theorem first_bits (b m:Nat) (hb:b<256):bits BinOp.and IntKind.i64 (wrap64 (b:Int)) (127 / 2 ^ m)=((b &&& (127 / 2 ^ m):Nat):Int):=by
 rw[w64 b (by omega)]
 have:=(bits_nat .i64 62 (by decide) wraps_62 b (127 / 2 ^ m) (by omega) (Nat.lt_of_le_of_lt (Nat.div_le_self ..) (by decide))).1
 rw[← this]
 congr 1
theorem next_bits (p b:Nat) (hp:p<2 ^ 40) (hb:b<256) :
 bits BinOp.or IntKind.i64 (wrap64 ((p:Int)*64)) (wrap64 (bits BinOp.and IntKind.u8 (b:Int) 63))=((p*64 ||| (b &&& 63):Nat):Int):=by
 have h1:b &&& 63<64:=Nat.lt_of_le_of_lt Nat.and_le_right (by decide)
 rw[show bits BinOp.and IntKind.u8 (b:Int) 63=((b &&& 63:Nat):Int) from u8_and_nat b 63 hb (by decide),w64 _ (by omega),show ((p:Int)*64)=((p*64:Nat):Int) by simp,w64 _ (by omega)]
 exact(bits_nat .i64 62 (by decide) wraps_62 (p*64) (b &&& 63) (by omega) (by omega)).2
theorem byteAt_get {s:ByteArray} {k:Nat} (h:k<s.size):byteAt s k=s[k].toNat:=by unfold byteAt;rw[dif_pos h]
theorem chars1_in (l Bs:Nat) (s:ByteArray) (hs:s.size≤4611686018427387904) (J Jx:List (Int×Int)→World→Prop)
 (hY:∀ pre x W,J pre W→pre.length<(items s).length→YieldAt Fence.wide 8 prog l #[.int .i64 x.1,.int .i64 x.2] W fun e W' =>
  (e=.returned (.bool true)∧J (pre++[x]) W'∧KpB Bs W W')∨(e=.returned (.bool false)∧Jx (pre++[x]) W'))
 (W:World) (hBs:W.cell? ⟨Bs,0,none⟩=some (.string s)) (h0:J [] W) :
 CallsIn Fence.wide 9 prog 108 #[.func (.yield l) #[] #[],.pointer (some ⟨Bs,0,none⟩)] W fun e W'=>(∃ v,e=.returned v) ∧
  ((∃ ys,ys=items s∧J ys W')∨(∃ pre,pre <+: items s∧Jx pre W')):=by
 refine callsIn_of_wp func108 rfl trivial ?_ rfl
 simp only [ntmps108,List.size_toArray,List.length_cons,List.length_nil,Nat.reduceAdd,Nat.reduceSub,Array.replicate_succ,Array.replicate_zero,List.push_toArray,List.append_toArray,List.nil_append,List.cons_append]
 gi_wp2
 gi_loopw [3] (fun i wr=>∃ (k f:Nat) (pre:List (Int×Int)),k≤s.size∧i=.int .i64 k∧items s=pre++itemsF s f k∧s.size≤k+f∧J pre wr∧wr.cell? ⟨Bs,0,none⟩=some (.string s))
  (fun i _=>s.size-(intOf i).toNat)
 case atStart=>exact⟨0,s.size,[],Nat.zero_le _,rfl,rfl,by omega,h0,hBs⟩
 case round =>
  obtain⟨k,f,pre,hk,rfl,hpre,hf,hJ,hc⟩:=hrel
  by_cases hlt:k<s.size
  · obtain⟨f,rfl⟩:∃ g,f=g+1:=⟨f-1,by omega⟩
    obtain⟨m,hm⟩:∃ m,wideN s k=m:=⟨_,rfl⟩
    have HM:=zh hm
    gi_wp2
    refine⟨trivial,(callsIn_wide.2 (wide_any s k _ rfl _ hlt hs)).mono ?_⟩
    rintro e w1 ⟨rfl,rfl⟩
    rw[hm]
    clear hm
    by_cases hz:m=0
    · subst hz
      obtain⟨fn,tmps,assign,body,hy,hR⟩:=hY _ ((k:Int),-1) _ hJ (by rw[hpre];simp[itemsF,hlt,HM.out])
      dsimp only at hy
      have hlast:items s=pre++[((k:Int),-1)]:=by rw[hpre];simp[itemsF,hlt,HM.out]
      gi_wp2
      refine hR.mono ?_
      rintro e W3 (⟨rfl,hJ3,hk3⟩ | ⟨rfl,hJx3⟩)
      · gi_wp2
        refine bodyPost_ret (results_none rfl _ _ _) rfl ?_
        exact⟨⟨_,rfl⟩,.inl ⟨_,hlast.symm,hJ3⟩⟩
      · gi_wp2
        refine bodyPost_ret (results_none rfl _ _ _) rfl ?_
        exact⟨⟨_,rfl⟩,.inr ⟨_,by rw[hlast];exact List.prefix_refl _,hJx3⟩⟩
    · have hin:=wideN_in (s:=s) (k:=k) (by rw[HM.out];exact hz)
      rw[HM.out] at hin
      have hm4:m≤4:=by rw[← HM.out];exact wideN_le ..
      have ez:((m:Int)==0)=false:=by simp;omega
      have HI:=zh (show items s=pre++([((k:Int),(pointN s k m:Int))]++itemsF s f (k+m)) by rw[hpre];simp[itemsF,hlt,HM.out,hz])
      have HX:=zh (show pre++[((k:Int),(pointN s k m:Int))] <+: items s by rw[HI.out,← List.append_assoc];exact List.prefix_append _ _)
      obtain⟨fn,tmps,assign,body,hy,hR⟩:=hY pre ((k:Int),(pointN s k m:Int)) _ hJ (by rw[HI.out];simp)
      dsimp only at hy
      by_cases h1:1<m
      · have e1:decide ((1:Int)<(m:Int))=true:=by simp;omega
        have HP0:(bits BinOp.and IntKind.i64 (wrap64 ↑s[k].toNat) (127 / 2 ^ m))=((ptF s k m 0:Nat):Int):=by
         rw[first_bits _ _ (UInt8.toNat_lt _)]
         show _=((pt0 s k m:Nat):Int)
         unfold pt0
         rw[if_pos h1,byteAt_get hlt]
        gi_wp2
        gi_loopw [5,6] (fun p i wr=>∃ j:Nat,j+1≤m∧i=.int .i64 (j+1:Nat)∧p=.int .i64 (ptF s k m j:Nat)∧wr=w1)
         (fun _ i _=>m-(intOf i).toNat)
        case atStart=>exact⟨0,by omega,rfl,rfl,rfl⟩
        case round =>
         obtain⟨j,hj,rfl,rfl,rfl⟩:=hrel
         by_cases hlt2:j+1<m
         · have HN:=zh (show bits BinOp.or IntKind.i64 (wrap64 (((ptF s k m j:Nat):Int)*64)) (wrap64 (bits BinOp.and IntKind.u8 (↑s[k+(j+1)].toNat) 63))=((ptF s k m (j+1):Nat):Int) by
            rw[next_bits _ _ (Nat.lt_of_lt_of_le (ptF_lt s k m j) (Nat.pow_le_pow_right (by decide) (by omega))) (UInt8.toNat_lt _)]
            show _=(((ptF s k m j*64) ||| (byteAt s (k+1+j) &&& 63):Nat):Int)
            rw[byteAt_get (by omega)]
            congr 5
            omega)
           gi_wp2
           refine⟨⟨j+1,by omega,by simp,by rw[HN.out],trivial⟩,?_⟩
           simp[intOf];omega
         · obtain rfl:m=j+1:=by omega
           have hpn:pointN s k (j+1)=ptF s k (j+1) j:=rfl
           rw[hpn] at hy HI HX hR
           gi_wp2
           refine hR.mono ?_
           rintro e W3 (⟨rfl,hJ3,hk3⟩ | ⟨rfl,hJx3⟩)
           · have hc3:=Eq.trans hk3 hc
             gi_wp2
             go_roundw
             case rel=>exact⟨k+(j+1),f,pre++[((k:Int),(ptF s k (j+1) j:Int))],hin,by simp,by rw[List.append_assoc];exact HI.out,by omega,hJ3,hc3⟩
             case measure=>simp[intOf];omega
           · gi_wp2
             refine bodyPost_ret (results_none rfl _ _ _) rfl ?_
             exact⟨⟨_,rfl⟩,.inr ⟨_,HX.out,hJx3⟩⟩
      · obtain rfl:m=1:=by omega
        have e1:decide ((1:Int)<((1:Nat):Int))=false:=by simp
        have HP0:wrap64 (s[k].toNat:Int)=((pointN s k 1:Nat):Int):=by
         rw[w64 _ (by have:=UInt8.toNat_lt s[k];omega)]
         show _=((pt0 s k 1:Nat):Int)
         unfold pt0
         rw[if_neg (by omega),byteAt_get hlt]
        gi_wp2
        gi_loopw [5,6] (fun p i wr=>i=.int .i64 1∧p=.int .i64 (pointN s k 1:Nat)∧wr=w1) (fun _ _ _=>0)
        case atStart=>exact⟨rfl,by rw[HP0],rfl⟩
        case round =>
         obtain⟨rfl,rfl,rfl⟩:=hrel
         gi_wp2
         refine hR.mono ?_
         rintro e W3 (⟨rfl,hJ3,hk3⟩ | ⟨rfl,hJx3⟩)
         · have hc3:=Eq.trans hk3 hc
           gi_wp2
           go_roundw
           case rel=>exact⟨k+1,f,pre++[((k:Int),(pointN s k 1:Int))],hin,by simp,by rw[List.append_assoc];exact HI.out,by omega,hJ3,hc3⟩
           case measure=>simp[intOf];omega
         · gi_wp2
           refine bodyPost_ret (results_none rfl _ _ _) rfl ?_
           exact⟨⟨_,rfl⟩,.inr ⟨_,HX.out,hJx3⟩⟩
  · have hz:itemsF s f k=[]:=by cases f<;>simp[itemsF,hlt]
    gi_wp2
    go_end0
    exact⟨⟨_,rfl⟩,.inl ⟨pre,by rw[hpre,hz,List.append_nil],hJ⟩⟩
