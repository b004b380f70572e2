import Derived.Stop.Asserts
import Derived.Test.YtcgnajeenflfaaaGreatDoorP1
import Derived.Test.YtcgnajeenflfaaaGreatDoorP4
set_option maxRecDepth 100000
set_option maxHeartbeats 4000000
set_option linter.all false
open Go.Proofs.Tryz Go.RowKit
namespace Go.Proofs.YtcgnajeenflfaaaGreatDoor
section
def RowIn (size:Nat) (w:World) (lo hi:Nat) (v:Value) (n:Nat) (xs:List Value):Prop :=
 xs.length=n*size∧∃ (a:Option Addr) (cap:Nat),v=.slice a n cap∧n≤cap∧(a=none→cap=0) ∧
  ∀ j (h:j<xs.length),∃ g off,a=some ⟨g,off,none⟩∧lo≤g∧g<hi∧w.cell? ⟨g,off+j,none⟩=some xs[j]
theorem RowIn.nil (size:Nat) (w:World) (lo hi:Nat):RowIn size w lo hi (.slice none 0 0) 0 []:=⟨by simp,none,0,rfl,Nat.le_refl _,fun _=>rfl,fun j h=>by cases h⟩
theorem RowIn.wide {size n:Nat} {w:World} {lo hi lo' hi':Nat} {v:Value} {xs:List Value} (h:RowIn size w lo hi v n xs) (h1:lo'≤lo) (h2:hi≤hi'):RowIn size w lo' hi' v n xs:=by
 obtain⟨hx,a,cap,rfl,hc,hn,hcells⟩:=h
 exact⟨hx,a,cap,rfl,hc,hn,fun j hj=>by obtain⟨g,off,ha,h3,h4,h5⟩:=hcells j hj;exact⟨g,off,ha,by omega,by omega,h5⟩⟩
theorem RowIn.later {size n:Nat} {w w':World} {lo hi:Nat} {v:Value} {xs:List Value} (h:RowIn size w lo hi v n xs) (hb:Below hi w w'):RowIn size w' lo hi v n xs:=by
 obtain⟨hx,a,cap,rfl,hc,hn,hcells⟩:=h
 exact⟨hx,a,cap,rfl,hc,hn,fun j hj=>by obtain⟨g,off,ha,h3,h4,h5⟩:=hcells j hj;exact⟨g,off,ha,h3,h4,(hb.cell (p:=⟨g,off+j,none⟩) h4).trans h5⟩⟩
theorem RowIn.form {size n:Nat} {w:World} {lo hi:Nat} {v:Value} {xs:List Value} (h:RowIn size w lo hi v n xs):xs.length=n*size∧∃ a cap,v=.slice a n cap∧n≤cap∧(a=none→cap=0) ∧
 ∀ j (h:j<xs.length),∃ g off,a=some ⟨g,off,none⟩∧lo≤g∧g<hi∧w.cell? ⟨g,off+j,none⟩=some xs[j]:=h
theorem RowIn.ints {w:World} {lo hi n:Nat} {v:Value} {l:List Int} (h:IntsIn w lo hi v l) (hn:l.length=n):RowIn 1 w lo hi v n (nv l):=by
 subst hn
 obtain⟨a,cap,rfl,hc,hn,hcells⟩:=h
 refine⟨by rw[nv_length,Nat.mul_one],a,cap,rfl,hc,hn,fun j hj=>?_⟩
 have hj':j<l.length:=by rwa [nv_length] at hj
 obtain⟨g,off,ha,h3,h4,h5⟩:=hcells j hj'
 exact⟨g,off,ha,h3,h4,by rw[h5];simp[nv]⟩
theorem RowIn.own {w:World} {base:Nat} {e:TypeId} {size n:Nat} {v:Value} {xs:List Value} (h:w.ownsRow base e size v n xs):RowIn size w base w.heap.size v n xs:=by
 have hx:=h.1
 rcases h.2 with ⟨rfl,hn⟩ | ⟨g,cap,cur,rfl,hg,hgg,h1,h2,h3,h4⟩
 · subst hn
   obtain rfl:xs=[]:=List.eq_nil_of_length_eq_zero (by omega)
   exact RowIn.nil ..
 · refine⟨hx,_,cap,rfl,h1,fun h=>by(cases h),fun j hj=>⟨g,0,rfl,hg,(Array.getElem?_eq_some_iff.1 hgg).1,?_⟩⟩
   have h5:cur[j]?=some xs[j]:=by
    have h6:=congrArg (·[j]?) h4
    simp only [List.getElem?_eq_getElem hj] at h6
    rw[List.getElem?_take_of_lt (by omega)] at h6
    simpa using h6
   simp[World.cell?,hgg,h5]
theorem RowIn.lit (w:World) (e:TypeId) (cs:Array Value) (size n:Nat) (hs:cs.size=n*size) :
 RowIn size (w.alloc (.cells cs e)) w.heap.size (w.heap.size+1) (.slice (some ⟨w.heap.size,0,none⟩) n n) n cs.toList :=
 ⟨by simpa using hs,_,n,rfl,Nat.le_refl _,fun h=>by(cases h),fun j hj=>⟨w.heap.size,0,rfl,Nat.le_refl _,Nat.lt_succ_self _,by
  have hj':j<cs.size:=by simpa using hj
  have hb:(w.alloc (.cells cs e)).heap[w.heap.size]?=some (.cells cs e (0,0)):=heap_alloc_new w _
  simp only [World.cell?,hb]
  simp[hj']⟩⟩
theorem wpList_append_row {P:Program} {ops:Array Oper} {rest:List Oper} {o:Oper} {a:Act} {Q:Exit→Act→World→Prop} {W w:World} (hgd:o.guard=none) (s x:Operand) (t:TypeId)
 (ho:o.op=.call { callee:=.builtin .append,args:=#[s,x],argTypes:=#[t,t] }) (e:TypeId) (z:Value) (size bytes:Nat) (ht:P.underlying t=some (.slice e))
 (hinfo:(P.info? e).map (fun i=>(i.zero,i.size,i.bytes))=some (some z,size,bytes)) (hzs:z.cells.size=size) (hsz:0<size)
 {base n:Nat} {v:Value} {xs:List Value} (hs:a.eval s=v) (hown:w.ownsRow base e size v n xs) {lo hi m:Nat} {u:Value} {news:List Value} (hx:a.eval x=u) (hu:RowIn size w lo hi u m news) (h1:∀ u∈news,u.oneCell'=true)
 (hlen:n+m≤1099511627776) (hby:bytes≤64) (hB:Below base W w) (hbase:base≤w.heap.size)
 (h:∀ c cap w',w'.ownsRow base e size (.slice c (n+m) cap) (n+m) (xs++news)→Below base W w'→base≤w'.heap.size→w.heap.size≤w'.heap.size→wpList P ops Q rest (a.put o.dst (.slice c (n+m) cap)) w'):wpList P ops Q (o::rest) a w:=by
 obtain⟨i0,hi,hz0,hz1,hz2⟩:=info_parts hinfo
 obtain⟨hl,ad,cap,rfl,hc,hn,hcells⟩:=hu
 have fin:∀ v' w',w'.ownsRow base e size v' (n+m) (xs++news)→w.grownBy w' v.ownBlock→wpList P ops Q rest (a.put o.dst v') w':=by
  intro v' w' ho' hg
  obtain⟨c,cap',rfl⟩:=row_slice ho'
  exact h c cap' w' ho' (hB.grown hg hbase fun k hk=>(World.ownsRow.lt hown k hk).1) (Nat.le_trans hbase hg.size) hg.size
 cases ad with
 | none =>
  obtain rfl:=hn rfl
  obtain rfl:m=0:=by omega
  have hm:news=[]:=List.eq_nil_of_length_eq_zero (by omega)
  subst hm
  exact wpList_append_own_none hgd s x t ho base e i0 size ht hi v n xs hs hown hx (fin v w (by simpa using hown) ⟨rfl,rfl,rfl,Nat.le_refl _,fun _ _ _=>rfl⟩)
 | some ad =>
  have hnews:∀ j u,news[j]?=some u→w.cell? (ad.add j)=some u:=by
   intro j u hu
   obtain⟨hj,rfl⟩:=List.getElem?_eq_some_iff.1 hu
   obtain⟨g,off,ha,_,_,h3⟩:=hcells j hj
   cases ha
   by_cases h0:j=0
   · subst h0;simpa[Addr.add] using h3
   · simpa[Addr.add,h0] using h3
  exact wpList_append_own w hgd s x t ho base e i0 z size bytes ht hi hz0 hz1 hz2 hzs hsz v n xs hs hown ad m cap news hx hl hnews h1 (Nat.le_trans hlen (by decide)) (Nat.le_trans (Nat.mul_le_mul hlen hby) (by decide)) hbase (fun v' w' h1 h2 _=>fin v' w' h1 h2)
theorem row_below {w w':World} {base:Nat} {e:TypeId} {size n:Nat} {v:Value} {xs:List Value} (h:w.ownsRow base e size v n xs) (hb:Below w.heap.size w w'):w'.ownsRow base e size v n xs:=by
 refine⟨h.1,?_⟩
 rcases h.2 with hn | ⟨g,cap,cur,rfl,hg,hgg,rest⟩
 · exact .inl hn
 · exact .inr ⟨g,cap,cur,rfl,hg,(hb.block g (Array.getElem?_eq_some_iff.1 hgg).1).trans hgg,rest⟩
theorem row_low {w:World} {base base':Nat} {e:TypeId} {size n:Nat} {v:Value} {xs:List Value} (h:w.ownsRow base e size v n xs) (hb:base'≤base):w.ownsRow base' e size v n xs:=by
 refine⟨h.1,?_⟩
 rcases h.2 with hn | ⟨g,cap,cur,rfl,hg,hgg,rest⟩
 · exact .inl hn
 · exact .inr ⟨g,cap,cur,rfl,by omega,hgg,rest⟩
end
section
theorem eqlN_nil (w:World):(binOp .eql 42 (.slice none 0 0) (.slice none 0 0)).run prog w=.ok (.bool true) w:=by kernel_rfl
theorem eqlN_some (a:Addr) (n cap:Nat) (w:World):(binOp .eql 42 (.slice (some a) n cap) (.slice none 0 0)).run prog w=.ok (.bool false) w:=by kernel_rfl
theorem eqlE_nil (w:World):(binOp .eql 170 (.slice none 0 0) (.slice none 0 0)).run prog w=.ok (.bool true) w:=by kernel_rfl
theorem eqlE_some (a:Addr) (n cap:Nat) (w:World):(binOp .eql 170 (.slice (some a) n cap) (.slice none 0 0)).run prog w=.ok (.bool false) w:=by kernel_rfl
theorem infoEl:(prog.info? 176).map (fun i=>(i.zero,i.size,i.bytes))=some (some (.agg #[.bool false,.int .i64 0,.int .i64 0,.int .i64 0]),4,32):=by kernel_rfl
theorem IntsIn.form {w:World} {lo hi:Nat} {v:Value} {l:List Int} (h:IntsIn w lo hi v l):∃ a cap,v=.slice a l.length cap∧l.length≤cap∧(a=none→cap=0∧l=[]):=by
 obtain⟨a,cap,rfl,hc,hn,_⟩:=h
 exact⟨a,cap,rfl,hc,fun e=>⟨hn e,List.eq_nil_of_length_eq_zero (by have:=hn e;omega)⟩⟩
theorem IntsIn.alloc {w:World} {lo hi:Nat} {v:Value} {l:List Int} (h:IntsIn w lo hi v l) (o:Obj) (hh:hi≤w.heap.size):IntsIn (w.alloc o) lo hi v l:=h.later ((Below.refl hi w).alloc hh o)
theorem RowIn.alloc {size n:Nat} {w:World} {lo hi:Nat} {v:Value} {xs:List Value} (h:RowIn size w lo hi v n xs) (o:Obj) (hh:hi≤w.heap.size):RowIn size (w.alloc o) lo hi v n xs:=h.later ((Below.refl hi w).alloc hh o)
theorem cloneN_any (s:Value) (l:List Int) (w:World) (lo hi:Nat) (hs:IntsIn w lo hi s l) (hhi:hi≤w.heap.size) (hl:l.length≤1099511627776) :
 Calls prog 90 #[s] w fun e w'=>∃ u,e=.returned u∧OwnN w' w.heap.size u l∧Below w.heap.size w w':=by
 obtain⟨a,cap,rfl,hc,hn⟩:=hs.form
 cases a with
 | none =>
  obtain⟨rfl,rfl⟩:=hn rfl
  have f1:=eqlN_nil
  clear hs hn
  simp only [List.length_nil]
  go_enter func90,ntmps90
  go_wp2_with fail
  go_ret
  exact⟨_,rfl,OwnN.nil _ _,zr⟩
 | some a =>
  have f1:=eqlN_some
  have HS:=zh (hs.alloc (.cells #[] 3) hhi)
  have HL:=zh hl
  have hO:=World.ownsRow_lit w #[] 0 (Nat.le_refl w.heap.size) (by decide) (show (#[]:Array Value).size=0*1 from rfl) (e:=3)
  have HO:=zh (show OwnN (w.alloc (.cells #[] 3)) w.heap.size (.slice (some ⟨w.heap.size,0,none⟩) 0 0) [] from hO)
  have HB:=zh ((Below.refl w.heap.size w).alloc lr (.cells #[] 3))
  clear hs hn hl hO
  go_enter func90,ntmps90
  go_wp2_with (at_builtin;refine wpList_append_ints rfl (.tmp 5) (.tmp 6) rfl rfl HO.out rfl HS.out (by simpa using HL.out) HB.out (by simp) ?_;intro c3 cap3 w3 hO3 hB3 _ _)
  go_ret
  exact⟨_,rfl,by simpa using hO3,hB3⟩
theorem cloneE_any (s:Value) (n:Nat) (xs:List Value) (w:World) (lo hi:Nat) (hs:RowIn 4 w lo hi s n xs) (h1:∀ u∈xs,u.oneCell'=true) (hhi:hi≤w.heap.size) (hl:n≤1099511627776) :
 Calls prog 240 #[s] w fun e w'=>∃ u,e=.returned u∧w'.ownsRow w.heap.size 176 4 u n xs∧Below w.heap.size w w':=by
 obtain⟨hx,a,cap,rfl,hc,hn,_⟩:=hs.form
 cases a with
 | none =>
  obtain rfl:=hn rfl
  obtain rfl:n=0:=by omega
  obtain rfl:xs=[]:=List.eq_nil_of_length_eq_zero (by omega)
  have f1:=eqlE_nil
  clear hs hn
  go_enter func240,ntmps240
  go_wp2_with fail
  go_ret
  exact⟨_,rfl,World.ownsRow_nil _ _ _ _,zr⟩
 | some a =>
  have f1:=eqlE_some
  have HS:=zh (hs.alloc (.cells #[] 176) hhi)
  have HL:=zh hl
  have H1:=zh h1
  have HO:=zh (World.ownsRow_lit w #[] 0 (Nat.le_refl w.heap.size) (by decide) (show (#[]:Array Value).size=0*4 from rfl) (e:=176))
  have HB:=zh ((Below.refl w.heap.size w).alloc lr (.cells #[] 176))
  clear hs hn hl h1
  go_enter func240,ntmps240
  go_wp2_with (at_builtin;refine wpList_append_row rfl (.tmp 5) (.tmp 6) 170 rfl 176 _ 4 32 underlying170 infoEl rfl (by decide) rfl HO.out rfl HS.out H1.out (by simpa using HL.out) (by decide) HB.out (by simp) ?_;intro c3 cap3 w3 hO3 hB3 _ _)
  go_ret
  exact⟨_,rfl,by simpa using hO3,hB3⟩
end
namespace Ta
structure El where
 v:Bool
 p:Int
 s:Int
 t:Int
deriving DecidableEq
def El.cells (x:El):List Value:=[.bool x.v,.int .i64 x.p,.int .i64 x.s,.int .i64 x.t]
def ev (l:List El):List Value:=l.flatMap El.cells
theorem ev_cons (x:El) (l:List El):ev (x::l)=x.cells++ev l:=rfl
theorem ev_app (l m:List El):ev (l++m)=ev l++ev m:=List.flatMap_append
theorem ev_len (l:List El):(ev l).length=l.length*4:=by
 induction l with
 | nil=>rfl
 | cons x l ih=>rw[ev_cons,List.length_append,ih,List.length_cons,show x.cells.length=4 from rfl];omega
theorem ev_one (l:List El):∀ u∈ev l,u.oneCell'=true:=by
 intro u hu
 obtain⟨x,_,h⟩:=List.mem_flatMap.1 hu
 simp only [El.cells,List.mem_cons,List.not_mem_nil,or_false] at h
 rcases h with rfl | rfl | rfl | rfl<;>rfl
theorem ev_at (l:List El) (j:Nat) (h:j<l.length) (k:Nat) (hk:k<4):(ev l)[j*4+k]?=l[j].cells[k]?:=by
 induction l generalizing j with
 | nil=>cases h
 | cons x l ih =>
  rw[ev_cons]
  cases j with
  | zero=>rw[Nat.zero_mul,Nat.zero_add,List.getElem?_append_left (by show k<4;exact hk)];rfl
  | succ j =>
   rw[List.getElem?_append_right (by show 4≤_;omega),show (j+1)*4+k-x.cells.length=j*4+k by show (j+1)*4+k-4=_;omega]
   exact ih j (by simpa using h)
structure Tm where
 ent:List Int→Option (List El)
 long:Int→Int
def isPtB (n:Int):Bool:=decide (0≤n)&&decide (n≤1114111)&&(decide (n<55296) || decide (57343<n))
def impBase (x:Int):Int:=if (19968≤x∧x≤40959)∨(63744≤x∧x≤64255) then 64320 else if (13312≤x∧x≤19903)∨(131072≤x∧x≤262143) then 64384 else 64448
def impM (x:Int):List El:=if isPtB x then [⟨false,impBase x+x / 32768,32,2⟩,⟨false,32768+x % 32768,0,0⟩] else []
end Ta
namespace U
theorem behind_any (s:ByteArray) (k:Nat) (x:Int) (hx:(k:Int)=x) (lo hi:Nat) (y z:Int) (hy:(lo:Int)=y) (hz:(hi:Int)=z) (w:World) :
 Calls prog 150 #[.string s,.int .i64 x,.int .u8 y,.int .u8 z] w fun e w'=>e=.returned (.bool (behB s k lo hi))∧w'=w:=by
 subst hx hy hz
 by_cases h1:k<s.size
 · have e1:decide ((k:Int)<(s.size:Int))=true:=by simp;omega
   have hb:behB s k lo hi=(decide (lo≤s[k].toNat)&&decide (s[k].toNat≤hi)):=by unfold behB;rw[dif_pos h1]
   by_cases h2:lo≤s[k].toNat
   · have e2:decide ((lo:Int)≤(s[k].toNat:Int))=true:=by simp;omega
     by_cases h3:s[k].toNat≤hi
     · have e3:decide ((s[k].toNat:Int)≤(hi:Int))=true:=by simp;omega
       rw[hb,decide_eq_true h2,decide_eq_true h3]
       clear hb
       go_enter func150,ntmps150
       go_wp2_with fail
       go_ret
       exact⟨rfl,rfl⟩
     · have e3:decide ((s[k].toNat:Int)≤(hi:Int))=false:=by simp;omega
       rw[hb,decide_eq_true h2,decide_eq_false h3]
       clear hb
       go_enter func150,ntmps150
       go_wp2_with fail
       go_ret
       exact⟨rfl,rfl⟩
   · have e2:decide ((lo:Int)≤(s[k].toNat:Int))=false:=by simp;omega
     rw[hb,decide_eq_false h2,Bool.false_and]
     clear hb
     go_enter func150,ntmps150
     go_wp2_with fail
     go_ret
     exact⟨rfl,rfl⟩
 · have e1:decide ((k:Int)<(s.size:Int))=false:=by simp;omega
   rw[show behB s k lo hi=false by unfold behB;rw[dif_neg h1]]
   go_enter func150,ntmps150
   go_wp2_with fail
   go_ret
   exact⟨rfl,rfl⟩
theorem wideN_at {s:ByteArray} {k:Nat} (h:k<s.size):wideN s k=wideB s k s[k].toNat:=by unfold wideN byteAt;rw[if_pos h,dif_pos h]
theorem wide_low (s:ByteArray) (k:Nat) (x:Int) (hx:(k:Int)=x) (w:World) (h:k<s.size) (hs:s.size≤4611686018427387904) (hc:s[k].toNat≤127) :
 Calls prog 109 #[.string s,.int .i64 x] w fun e w'=>e=.returned (.int .i64 (wideN s k:Int))∧w'=w:=by
 subst hx
 have sn:shapeN s[k].toNat=1:=by unfold shapeN;(repeat' split)<;>omega
 have d0:(decide ((s[k].toNat:Int)≤127))=true:=by simp;omega
 have d1:(decide (194≤(s[k].toNat:Int)))=false:=by simp;omega
 have d2:(decide ((s[k].toNat:Int)≤223))=true:=by simp;omega
 have d3:(decide (224≤(s[k].toNat:Int)))=false:=by simp;omega
 have d4:(decide ((s[k].toNat:Int)≤239))=true:=by simp;omega
 have d5:(((s[k].toNat:Int)==224))=false:=by simp;omega
 have d6:(((s[k].toNat:Int)==237))=false:=by simp;omega
 have d7:(decide (240≤(s[k].toNat:Int)))=false:=by simp;omega
 have d8:(decide ((s[k].toNat:Int)≤244))=true:=by simp;omega
 have d9:(((s[k].toNat:Int)==240))=false:=by simp;omega
 have d10:(((s[k].toNat:Int)==244))=false:=by simp;omega
 have hv:wideN s k=1:=by rw[wideN_at h];unfold wideB;simp[sn]
 clear sn hc
 rw[hv]
 clear hv
 go_enter func109,ntmps109
 go_wp2_with fail
 go_ret
 exact⟨rfl,rfl⟩
theorem wide_two (s:ByteArray) (k:Nat) (x:Int) (hx:(k:Int)=x) (w:World) (h:k<s.size) (hs:s.size≤4611686018427387904) (hb:194≤s[k].toNat) (hc:s[k].toNat≤223) :
 Calls prog 109 #[.string s,.int .i64 x] w fun e w'=>e=.returned (.int .i64 (wideN s k:Int))∧w'=w:=by
 subst hx
 have sn:shapeN s[k].toNat=2:=by unfold shapeN;(repeat' split)<;>omega
 have sl:shapeLo s[k].toNat=128:=by unfold shapeLo;(repeat' split)<;>omega
 have sh:shapeHi s[k].toNat=191:=by unfold shapeHi;(repeat' split)<;>omega
 have d0:(decide ((s[k].toNat:Int)≤127))=false:=by simp;omega
 have d1:(decide (194≤(s[k].toNat:Int)))=true:=by simp;omega
 have d2:(decide ((s[k].toNat:Int)≤223))=true:=by simp;omega
 have d3:(decide (224≤(s[k].toNat:Int)))=false:=by simp;omega
 have d4:(decide ((s[k].toNat:Int)≤239))=true:=by simp;omega
 have d5:(((s[k].toNat:Int)==224))=false:=by simp;omega
 have d6:(((s[k].toNat:Int)==237))=false:=by simp;omega
 have d7:(decide (240≤(s[k].toNat:Int)))=false:=by simp;omega
 have d8:(decide ((s[k].toNat:Int)≤244))=true:=by simp;omega
 have d9:(((s[k].toNat:Int)==240))=false:=by simp;omega
 have d10:(((s[k].toNat:Int)==244))=false:=by simp;omega
 have hv:wideN s k=if behB s (k+1) 128 191 then (2) else 0:=by rw[wideN_at h];unfold wideB;simp[sn,sl,sh]
 clear sn sl sh hb hc
 have HV:=zh hv
 clear hv
 go_enter func109,ntmps109
 go_wp2_with fail
 refine(behind_any s (k+1) _ (by omega) 128 191 _ _ rfl rfl _).mono ?_
 rintro e w1 ⟨rfl,rfl⟩
 cases hB1:behB s (k+1) 128 191
 · have HW:=zh (show wideN s k=0 by rw[HV.out];simp[hB1])
   clear HV
   go_wp2_with fail
   go_ret
   exact⟨by rw[HW.out];rfl,rfl⟩
 · go_wp2_with fail
   refine wp_loop_rounds 1 ?_
   rw[rounds_succ]
   have HW:=zh (show wideN s k=2 by rw[HV.out];simp[hB1])
   clear HV
   go_wp2_with fail
   go_ret
   exact⟨by rw[HW.out];rfl,rfl⟩
theorem wide_e0 (s:ByteArray) (k:Nat) (x:Int) (hx:(k:Int)=x) (w:World) (h:k<s.size) (hs:s.size≤4611686018427387904) (hb:s[k].toNat=224) :
 Calls prog 109 #[.string s,.int .i64 x] w fun e w'=>e=.returned (.int .i64 (wideN s k:Int))∧w'=w:=by
 subst hx
 have sn:shapeN s[k].toNat=3:=by unfold shapeN;(repeat' split)<;>omega
 have sl:shapeLo s[k].toNat=160:=by unfold shapeLo;(repeat' split)<;>omega
 have sh:shapeHi s[k].toNat=191:=by unfold shapeHi;(repeat' split)<;>omega
 have d0:(decide ((s[k].toNat:Int)≤127))=false:=by simp;omega
 have d1:(decide (194≤(s[k].toNat:Int)))=true:=by simp;omega
 have d2:(decide ((s[k].toNat:Int)≤223))=false:=by simp;omega
 have d3:(decide (224≤(s[k].toNat:Int)))=true:=by simp;omega
 have d4:(decide ((s[k].toNat:Int)≤239))=true:=by simp;omega
 have d5:(((s[k].toNat:Int)==224))=true:=by simp;omega
 have d6:(((s[k].toNat:Int)==237))=false:=by simp;omega
 have d7:(decide (240≤(s[k].toNat:Int)))=false:=by simp;omega
 have d8:(decide ((s[k].toNat:Int)≤244))=true:=by simp;omega
 have d9:(((s[k].toNat:Int)==240))=false:=by simp;omega
 have d10:(((s[k].toNat:Int)==244))=false:=by simp;omega
 have hv:wideN s k=if behB s (k+1) 160 191 then (if behB s (k+2) 128 191 then 3 else 0) else 0:=by rw[wideN_at h];unfold wideB;simp[sn,sl,sh]
 clear sn sl sh hb
 have HV:=zh hv
 clear hv
 go_enter func109,ntmps109
 go_wp2_with fail
 refine(behind_any s (k+1) _ (by omega) 160 191 _ _ rfl rfl _).mono ?_
 rintro e w1 ⟨rfl,rfl⟩
 cases hB1:behB s (k+1) 160 191
 · have HW:=zh (show wideN s k=0 by rw[HV.out];simp[hB1])
   clear HV
   go_wp2_with fail
   go_ret
   exact⟨by rw[HW.out];rfl,rfl⟩
 · go_wp2_with fail
   refine wp_loop_rounds 2 ?_
   rw[rounds_succ]
   go_wp2_with fail
   refine(behind_any s (k+2) _ (by omega) 128 191 _ _ rfl rfl _).mono ?_
   rintro e w2 ⟨rfl,rfl⟩
   cases hB2:behB s (k+2) 128 191
   · have HW:=zh (show wideN s k=0 by rw[HV.out];simp[hB1,hB2])
     clear HV
     go_wp2_with fail
     go_ret
     exact⟨by rw[HW.out];rfl,rfl⟩
   · go_wp2_with fail
     rw[rounds_succ]
     have HW:=zh (show wideN s k=3 by rw[HV.out];simp[hB1,hB2])
     clear HV
     go_wp2_with fail
     go_ret
     exact⟨by rw[HW.out];rfl,rfl⟩
theorem wide_ed (s:ByteArray) (k:Nat) (x:Int) (hx:(k:Int)=x) (w:World) (h:k<s.size) (hs:s.size≤4611686018427387904) (hb:s[k].toNat=237) :
 Calls prog 109 #[.string s,.int .i64 x] w fun e w'=>e=.returned (.int .i64 (wideN s k:Int))∧w'=w:=by
 subst hx
 have sn:shapeN s[k].toNat=3:=by unfold shapeN;(repeat' split)<;>omega
 have sl:shapeLo s[k].toNat=128:=by unfold shapeLo;(repeat' split)<;>omega
 have sh:shapeHi s[k].toNat=159:=by unfold shapeHi;(repeat' split)<;>omega
 have d0:(decide ((s[k].toNat:Int)≤127))=false:=by simp;omega
 have d1:(decide (194≤(s[k].toNat:Int)))=true:=by simp;omega
 have d2:(decide ((s[k].toNat:Int)≤223))=false:=by simp;omega
 have d3:(decide (224≤(s[k].toNat:Int)))=true:=by simp;omega
 have d4:(decide ((s[k].toNat:Int)≤239))=true:=by simp;omega
 have d5:(((s[k].toNat:Int)==224))=false:=by simp;omega
 have d6:(((s[k].toNat:Int)==237))=true:=by simp;omega
 have d7:(decide (240≤(s[k].toNat:Int)))=false:=by simp;omega
 have d8:(decide ((s[k].toNat:Int)≤244))=true:=by simp;omega
 have d9:(((s[k].toNat:Int)==240))=false:=by simp;omega
 have d10:(((s[k].toNat:Int)==244))=false:=by simp;omega
 have hv:wideN s k=if behB s (k+1) 128 159 then (if behB s (k+2) 128 191 then 3 else 0) else 0:=by rw[wideN_at h];unfold wideB;simp[sn,sl,sh]
 clear sn sl sh hb
 have HV:=zh hv
 clear hv
 go_enter func109,ntmps109
 go_wp2_with fail
 refine(behind_any s (k+1) _ (by omega) 128 159 _ _ rfl rfl _).mono ?_
 rintro e w1 ⟨rfl,rfl⟩
 cases hB1:behB s (k+1) 128 159
 · have HW:=zh (show wideN s k=0 by rw[HV.out];simp[hB1])
   clear HV
   go_wp2_with fail
   go_ret
   exact⟨by rw[HW.out];rfl,rfl⟩
 · go_wp2_with fail
   refine wp_loop_rounds 2 ?_
   rw[rounds_succ]
   go_wp2_with fail
   refine(behind_any s (k+2) _ (by omega) 128 191 _ _ rfl rfl _).mono ?_
   rintro e w2 ⟨rfl,rfl⟩
   cases hB2:behB s (k+2) 128 191
   · have HW:=zh (show wideN s k=0 by rw[HV.out];simp[hB1,hB2])
     clear HV
     go_wp2_with fail
     go_ret
     exact⟨by rw[HW.out];rfl,rfl⟩
   · go_wp2_with fail
     rw[rounds_succ]
     have HW:=zh (show wideN s k=3 by rw[HV.out];simp[hB1,hB2])
     clear HV
     go_wp2_with fail
     go_ret
     exact⟨by rw[HW.out];rfl,rfl⟩
theorem wide_three (s:ByteArray) (k:Nat) (x:Int) (hx:(k:Int)=x) (w:World) (h:k<s.size) (hs:s.size≤4611686018427387904) (hb:225≤s[k].toNat) (hc:s[k].toNat≤239) (hn0:s[k].toNat≠237) :
 Calls prog 109 #[.string s,.int .i64 x] w fun e w'=>e=.returned (.int .i64 (wideN s k:Int))∧w'=w:=by
 subst hx
 have sn:shapeN s[k].toNat=3:=by unfold shapeN;(repeat' split)<;>omega
 have sl:shapeLo s[k].toNat=128:=by unfold shapeLo;(repeat' split)<;>omega
 have sh:shapeHi s[k].toNat=191:=by unfold shapeHi;(repeat' split)<;>omega
 have d0:(decide ((s[k].toNat:Int)≤127))=false:=by simp;omega
 have d1:(decide (194≤(s[k].toNat:Int)))=true:=by simp;omega
 have d2:(decide ((s[k].toNat:Int)≤223))=false:=by simp;omega
 have d3:(decide (224≤(s[k].toNat:Int)))=true:=by simp;omega
 have d4:(decide ((s[k].toNat:Int)≤239))=true:=by simp;omega
 have d5:(((s[k].toNat:Int)==224))=false:=by simp;omega
 have d6:(((s[k].toNat:Int)==237))=false:=by simp;omega
 have d7:(decide (240≤(s[k].toNat:Int)))=false:=by simp;omega
 have d8:(decide ((s[k].toNat:Int)≤244))=true:=by simp;omega
 have d9:(((s[k].toNat:Int)==240))=false:=by simp;omega
 have d10:(((s[k].toNat:Int)==244))=false:=by simp;omega
 have hv:wideN s k=if behB s (k+1) 128 191 then (if behB s (k+2) 128 191 then 3 else 0) else 0:=by rw[wideN_at h];unfold wideB;simp[sn,sl,sh]
 clear sn sl sh hb hc hn0
 have HV:=zh hv
 clear hv
 go_enter func109,ntmps109
 go_wp2_with fail
 refine(behind_any s (k+1) _ (by omega) 128 191 _ _ rfl rfl _).mono ?_
 rintro e w1 ⟨rfl,rfl⟩
 cases hB1:behB s (k+1) 128 191
 · have HW:=zh (show wideN s k=0 by rw[HV.out];simp[hB1])
   clear HV
   go_wp2_with fail
   go_ret
   exact⟨by rw[HW.out];rfl,rfl⟩
 · go_wp2_with fail
   refine wp_loop_rounds 2 ?_
   rw[rounds_succ]
   go_wp2_with fail
   refine(behind_any s (k+2) _ (by omega) 128 191 _ _ rfl rfl _).mono ?_
   rintro e w2 ⟨rfl,rfl⟩
   cases hB2:behB s (k+2) 128 191
   · have HW:=zh (show wideN s k=0 by rw[HV.out];simp[hB1,hB2])
     clear HV
     go_wp2_with fail
     go_ret
     exact⟨by rw[HW.out];rfl,rfl⟩
   · go_wp2_with fail
     rw[rounds_succ]
     have HW:=zh (show wideN s k=3 by rw[HV.out];simp[hB1,hB2])
     clear HV
     go_wp2_with fail
     go_ret
     exact⟨by rw[HW.out];rfl,rfl⟩
theorem wide_f0 (s:ByteArray) (k:Nat) (x:Int) (hx:(k:Int)=x) (w:World) (h:k<s.size) (hs:s.size≤4611686018427387904) (hb:s[k].toNat=240) :
 Calls prog 109 #[.string s,.int .i64 x] w fun e w'=>e=.returned (.int .i64 (wideN s k:Int))∧w'=w:=by
 subst hx
 have sn:shapeN s[k].toNat=4:=by unfold shapeN;(repeat' split)<;>omega
 have sl:shapeLo s[k].toNat=144:=by unfold shapeLo;(repeat' split)<;>omega
 have sh:shapeHi s[k].toNat=191:=by unfold shapeHi;(repeat' split)<;>omega
 have d0:(decide ((s[k].toNat:Int)≤127))=false:=by simp;omega
 have d1:(decide (194≤(s[k].toNat:Int)))=true:=by simp;omega
 have d2:(decide ((s[k].toNat:Int)≤223))=false:=by simp;omega
 have d3:(decide (224≤(s[k].toNat:Int)))=true:=by simp;omega
 have d4:(decide ((s[k].toNat:Int)≤239))=false:=by simp;omega
 have d5:(((s[k].toNat:Int)==224))=false:=by simp;omega
 have d6:(((s[k].toNat:Int)==237))=false:=by simp;omega
 have d7:(decide (240≤(s[k].toNat:Int)))=true:=by simp;omega
 have d8:(decide ((s[k].toNat:Int)≤244))=true:=by simp;omega
 have d9:(((s[k].toNat:Int)==240))=true:=by simp;omega
 have d10:(((s[k].toNat:Int)==244))=false:=by simp;omega
 have hv:wideN s k=if behB s (k+1) 144 191 then (if behB s (k+2) 128 191 then (if behB s (k+3) 128 191 then 4 else 0) else 0) else 0:=by rw[wideN_at h];unfold wideB;simp[sn,sl,sh]
 clear sn sl sh hb
 have HV:=zh hv
 clear hv
 go_enter func109,ntmps109
 go_wp2_with fail
 refine(behind_any s (k+1) _ (by omega) 144 191 _ _ rfl rfl _).mono ?_
 rintro e w1 ⟨rfl,rfl⟩
 cases hB1:behB s (k+1) 144 191
 · have HW:=zh (show wideN s k=0 by rw[HV.out];simp[hB1])
   clear HV
   go_wp2_with fail
   go_ret
   exact⟨by rw[HW.out];rfl,rfl⟩
 · go_wp2_with fail
   refine wp_loop_rounds 3 ?_
   rw[rounds_succ]
   go_wp2_with fail
   refine(behind_any s (k+2) _ (by omega) 128 191 _ _ rfl rfl _).mono ?_
   rintro e w2 ⟨rfl,rfl⟩
   cases hB2:behB s (k+2) 128 191
   · have HW:=zh (show wideN s k=0 by rw[HV.out];simp[hB1,hB2])
     clear HV
     go_wp2_with fail
     go_ret
     exact⟨by rw[HW.out];rfl,rfl⟩
   · go_wp2_with fail
     rw[rounds_succ]
     go_wp2_with fail
     refine(behind_any s (k+3) _ (by omega) 128 191 _ _ rfl rfl _).mono ?_
     rintro e w3 ⟨rfl,rfl⟩
     cases hB3:behB s (k+3) 128 191
     · have HW:=zh (show wideN s k=0 by rw[HV.out];simp[hB1,hB2,hB3])
       clear HV
       go_wp2_with fail
       go_ret
       exact⟨by rw[HW.out];rfl,rfl⟩
     · go_wp2_with fail
       rw[rounds_succ]
       have HW:=zh (show wideN s k=4 by rw[HV.out];simp[hB1,hB2,hB3])
       clear HV
       go_wp2_with fail
       go_ret
       exact⟨by rw[HW.out];rfl,rfl⟩
theorem wide_f4 (s:ByteArray) (k:Nat) (x:Int) (hx:(k:Int)=x) (w:World) (h:k<s.size) (hs:s.size≤4611686018427387904) (hb:s[k].toNat=244) :
 Calls prog 109 #[.string s,.int .i64 x] w fun e w'=>e=.returned (.int .i64 (wideN s k:Int))∧w'=w:=by
 subst hx
 have sn:shapeN s[k].toNat=4:=by unfold shapeN;(repeat' split)<;>omega
 have sl:shapeLo s[k].toNat=128:=by unfold shapeLo;(repeat' split)<;>omega
 have sh:shapeHi s[k].toNat=143:=by unfold shapeHi;(repeat' split)<;>omega
 have d0:(decide ((s[k].toNat:Int)≤127))=false:=by simp;omega
 have d1:(decide (194≤(s[k].toNat:Int)))=true:=by simp;omega
 have d2:(decide ((s[k].toNat:Int)≤223))=false:=by simp;omega
 have d3:(decide (224≤(s[k].toNat:Int)))=true:=by simp;omega
 have d4:(decide ((s[k].toNat:Int)≤239))=false:=by simp;omega
 have d5:(((s[k].toNat:Int)==224))=false:=by simp;omega
 have d6:(((s[k].toNat:Int)==237))=false:=by simp;omega
 have d7:(decide (240≤(s[k].toNat:Int)))=true:=by simp;omega
 have d8:(decide ((s[k].toNat:Int)≤244))=true:=by simp;omega
 have d9:(((s[k].toNat:Int)==240))=false:=by simp;omega
 have d10:(((s[k].toNat:Int)==244))=true:=by simp;omega
 have hv:wideN s k=if behB s (k+1) 128 143 then (if behB s (k+2) 128 191 then (if behB s (k+3) 128 191 then 4 else 0) else 0) else 0:=by rw[wideN_at h];unfold wideB;simp[sn,sl,sh]
 clear sn sl sh hb
 have HV:=zh hv
 clear hv
 go_enter func109,ntmps109
 go_wp2_with fail
 refine(behind_any s (k+1) _ (by omega) 128 143 _ _ rfl rfl _).mono ?_
 rintro e w1 ⟨rfl,rfl⟩
 cases hB1:behB s (k+1) 128 143
 · have HW:=zh (show wideN s k=0 by rw[HV.out];simp[hB1])
   clear HV
   go_wp2_with fail
   go_ret
   exact⟨by rw[HW.out];rfl,rfl⟩
 · go_wp2_with fail
   refine wp_loop_rounds 3 ?_
   rw[rounds_succ]
   go_wp2_with fail
   refine(behind_any s (k+2) _ (by omega) 128 191 _ _ rfl rfl _).mono ?_
   rintro e w2 ⟨rfl,rfl⟩
   cases hB2:behB s (k+2) 128 191
   · have HW:=zh (show wideN s k=0 by rw[HV.out];simp[hB1,hB2])
     clear HV
     go_wp2_with fail
     go_ret
     exact⟨by rw[HW.out];rfl,rfl⟩
   · go_wp2_with fail
     rw[rounds_succ]
     go_wp2_with fail
     refine(behind_any s (k+3) _ (by omega) 128 191 _ _ rfl rfl _).mono ?_
     rintro e w3 ⟨rfl,rfl⟩
     cases hB3:behB s (k+3) 128 191
     · have HW:=zh (show wideN s k=0 by rw[HV.out];simp[hB1,hB2,hB3])
       clear HV
       go_wp2_with fail
       go_ret
       exact⟨by rw[HW.out];rfl,rfl⟩
     · go_wp2_with fail
       rw[rounds_succ]
       have HW:=zh (show wideN s k=4 by rw[HV.out];simp[hB1,hB2,hB3])
       clear HV
       go_wp2_with fail
       go_ret
       exact⟨by rw[HW.out];rfl,rfl⟩
theorem wide_four (s:ByteArray) (k:Nat) (x:Int) (hx:(k:Int)=x) (w:World) (h:k<s.size) (hs:s.size≤4611686018427387904) (hb:241≤s[k].toNat) (hc:s[k].toNat≤243) :
 Calls prog 109 #[.string s,.int .i64 x] w fun e w'=>e=.returned (.int .i64 (wideN s k:Int))∧w'=w:=by
 subst hx
 have sn:shapeN s[k].toNat=4:=by unfold shapeN;(repeat' split)<;>omega
 have sl:shapeLo s[k].toNat=128:=by unfold shapeLo;(repeat' split)<;>omega
 have sh:shapeHi s[k].toNat=191:=by unfold shapeHi;(repeat' split)<;>omega
 have d0:(decide ((s[k].toNat:Int)≤127))=false:=by simp;omega
 have d1:(decide (194≤(s[k].toNat:Int)))=true:=by simp;omega
 have d2:(decide ((s[k].toNat:Int)≤223))=false:=by simp;omega
 have d3:(decide (224≤(s[k].toNat:Int)))=true:=by simp;omega
 have d4:(decide ((s[k].toNat:Int)≤239))=false:=by simp;omega
 have d5:(((s[k].toNat:Int)==224))=false:=by simp;omega
 have d6:(((s[k].toNat:Int)==237))=false:=by simp;omega
 have d7:(decide (240≤(s[k].toNat:Int)))=true:=by simp;omega
 have d8:(decide ((s[k].toNat:Int)≤244))=true:=by simp;omega
 have d9:(((s[k].toNat:Int)==240))=false:=by simp;omega
 have d10:(((s[k].toNat:Int)==244))=false:=by simp;omega
 have hv:wideN s k=if behB s (k+1) 128 191 then (if behB s (k+2) 128 191 then (if behB s (k+3) 128 191 then 4 else 0) else 0) else 0:=by rw[wideN_at h];unfold wideB;simp[sn,sl,sh]
 clear sn sl sh hb hc
 have HV:=zh hv
 clear hv
 go_enter func109,ntmps109
 go_wp2_with fail
 refine(behind_any s (k+1) _ (by omega) 128 191 _ _ rfl rfl _).mono ?_
 rintro e w1 ⟨rfl,rfl⟩
 cases hB1:behB s (k+1) 128 191
 · have HW:=zh (show wideN s k=0 by rw[HV.out];simp[hB1])
   clear HV
   go_wp2_with fail
   go_ret
   exact⟨by rw[HW.out];rfl,rfl⟩
 · go_wp2_with fail
   refine wp_loop_rounds 3 ?_
   rw[rounds_succ]
   go_wp2_with fail
   refine(behind_any s (k+2) _ (by omega) 128 191 _ _ rfl rfl _).mono ?_
   rintro e w2 ⟨rfl,rfl⟩
   cases hB2:behB s (k+2) 128 191
   · have HW:=zh (show wideN s k=0 by rw[HV.out];simp[hB1,hB2])
     clear HV
     go_wp2_with fail
     go_ret
     exact⟨by rw[HW.out];rfl,rfl⟩
   · go_wp2_with fail
     rw[rounds_succ]
     go_wp2_with fail
     refine(behind_any s (k+3) _ (by omega) 128 191 _ _ rfl rfl _).mono ?_
     rintro e w3 ⟨rfl,rfl⟩
     cases hB3:behB s (k+3) 128 191
     · have HW:=zh (show wideN s k=0 by rw[HV.out];simp[hB1,hB2,hB3])
       clear HV
       go_wp2_with fail
       go_ret
       exact⟨by rw[HW.out];rfl,rfl⟩
     · go_wp2_with fail
       rw[rounds_succ]
       have HW:=zh (show wideN s k=4 by rw[HV.out];simp[hB1,hB2,hB3])
       clear HV
       go_wp2_with fail
       go_ret
       exact⟨by rw[HW.out];rfl,rfl⟩
theorem wide_mid (s:ByteArray) (k:Nat) (x:Int) (hx:(k:Int)=x) (w:World) (h:k<s.size) (hs:s.size≤4611686018427387904) (hb:128≤s[k].toNat) (hc:s[k].toNat≤193) :
 Calls prog 109 #[.string s,.int .i64 x] w fun e w'=>e=.returned (.int .i64 (wideN s k:Int))∧w'=w:=by
 subst hx
 have sn:shapeN s[k].toNat=0:=by unfold shapeN;(repeat' split)<;>omega
 have d0:(decide ((s[k].toNat:Int)≤127))=false:=by simp;omega
 have d1:(decide (194≤(s[k].toNat:Int)))=false:=by simp;omega
 have d2:(decide ((s[k].toNat:Int)≤223))=true:=by simp;omega
 have d3:(decide (224≤(s[k].toNat:Int)))=false:=by simp;omega
 have d4:(decide ((s[k].toNat:Int)≤239))=true:=by simp;omega
 have d5:(((s[k].toNat:Int)==224))=false:=by simp;omega
 have d6:(((s[k].toNat:Int)==237))=false:=by simp;omega
 have d7:(decide (240≤(s[k].toNat:Int)))=false:=by simp;omega
 have d8:(decide ((s[k].toNat:Int)≤244))=true:=by simp;omega
 have d9:(((s[k].toNat:Int)==240))=false:=by simp;omega
 have d10:(((s[k].toNat:Int)==244))=false:=by simp;omega
 have hv:wideN s k=0:=by rw[wideN_at h];unfold wideB;simp[sn]
 clear sn hb hc
 rw[hv]
 clear hv
 go_enter func109,ntmps109
 go_wp2_with fail
 go_ret
 exact⟨rfl,rfl⟩
theorem wide_high (s:ByteArray) (k:Nat) (x:Int) (hx:(k:Int)=x) (w:World) (h:k<s.size) (hs:s.size≤4611686018427387904) (hb:245≤s[k].toNat) :
 Calls prog 109 #[.string s,.int .i64 x] w fun e w'=>e=.returned (.int .i64 (wideN s k:Int))∧w'=w:=by
 subst hx
 have sn:shapeN s[k].toNat=0:=by unfold shapeN;(repeat' split)<;>omega
 have d0:(decide ((s[k].toNat:Int)≤127))=false:=by simp;omega
 have d1:(decide (194≤(s[k].toNat:Int)))=true:=by simp;omega
 have d2:(decide ((s[k].toNat:Int)≤223))=false:=by simp;omega
 have d3:(decide (224≤(s[k].toNat:Int)))=true:=by simp;omega
 have d4:(decide ((s[k].toNat:Int)≤239))=false:=by simp;omega
 have d5:(((s[k].toNat:Int)==224))=false:=by simp;omega
 have d6:(((s[k].toNat:Int)==237))=false:=by simp;omega
 have d7:(decide (240≤(s[k].toNat:Int)))=true:=by simp;omega
 have d8:(decide ((s[k].toNat:Int)≤244))=false:=by simp;omega
 have d9:(((s[k].toNat:Int)==240))=false:=by simp;omega
 have d10:(((s[k].toNat:Int)==244))=false:=by simp;omega
 have hv:wideN s k=0:=by rw[wideN_at h];unfold wideB;simp[sn]
 clear sn hb
 rw[hv]
 clear hv
 go_enter func109,ntmps109
 go_wp2_with fail
 go_ret
 exact⟨rfl,rfl⟩
theorem wide_any (s:ByteArray) (k:Nat) (x:Int) (hx:(k:Int)=x) (w:World) (h:k<s.size) (hs:s.size≤4611686018427387904) :
 Calls prog 109 #[.string s,.int .i64 x] w fun e w'=>e=.returned (.int .i64 (wideN s k:Int))∧w'=w:=by
 by_cases h1:s[k].toNat≤127
 · exact wide_low s k x hx w h hs h1
 by_cases h2:s[k].toNat≤193
 · exact wide_mid s k x hx w h hs (by omega) h2
 by_cases h3:s[k].toNat≤223
 · exact wide_two s k x hx w h hs (by omega) h3
 by_cases h4:s[k].toNat=224
 · exact wide_e0 s k x hx w h hs h4
 by_cases h5:s[k].toNat=237
 · exact wide_ed s k x hx w h hs h5
 by_cases h6:s[k].toNat≤239
 · exact wide_three s k x hx w h hs (by omega) h6 h5
 by_cases h7:s[k].toNat=240
 · exact wide_f0 s k x hx w h hs h7
 by_cases h8:s[k].toNat=244
 · exact wide_f4 s k x hx w h hs h8
 by_cases h9:s[k].toNat≤243
 · exact wide_four s k x hx w h hs (by omega) h9
 exact wide_high s k x hx w h hs (by omega)
end U
namespace V
theorem two {W a b:World} (h:Below W.heap.size W a) (k:Below a.heap.size a b):Below W.heap.size W b:=h.trans (k.mono h.size)
theorem keep {W w1:World} {B:Nat} (hb:Below B W w1) {b o:Nat} {v:Value} (hB:b<B) (h:W.cell? ⟨b,o,none⟩=some v):w1.cell? ⟨b,o,none⟩=some v:=(hb.cell hB).trans h
theorem keeps {W w1:World} (hb:Below W.heap.size W w1) {p:Addr} {v:Value} (h:W.cell? p=some v):w1.cell? p=some v:=(hb.cell (World.block_lt_of_cell? W p h)).trans h
theorem size_of (s:ByteArray):s.toList.length=s.size:=by rw[Lib.toList_data,Lib.size_eq]
def Same (lo hi:Nat) (w w':World):Prop:=∀ k,lo≤k→k<hi→w'.heap[k]?=w.heap[k]?
theorem Same.of_below {B lo hi:Nat} {w w':World} (h:Below B w w') (hB:hi≤B):Same lo hi w w':=fun k _ hk=>h.block k (by omega)
theorem Same.mono {lo hi lo' hi':Nat} {w w':World} (h:Same lo hi w w') (h1:lo≤lo') (h2:hi'≤hi):Same lo' hi' w w':=fun k a b=>h k (by omega) (by omega)
theorem Same.trans {lo hi:Nat} {a b c:World} (h:Same lo hi a b) (k:Same lo hi b c):Same lo hi a c:=fun i h1 h2=>(k i h1 h2).trans (h i h1 h2)
theorem Same.refl (lo hi:Nat) (w:World):Same lo hi w w:=fun _ _ _=>rfl
theorem Same.cell {lo hi b o:Nat} {w w':World} {v:Value} (h:Same lo hi w w') (h1:lo≤b) (h2:b<hi) (hc:w.cell? ⟨b,o,none⟩=some v):w'.cell? ⟨b,o,none⟩=some v :=
 (World.cell?_of_block (w:=w) (h b h1 h2)).trans hc
structure Fit (p:Pt):Prop where
 k:p.kind<256
 m:p.mag.size≤140737488351232
 r:p.raw.size≤140737488351232
 l:p.items.length≤140737488351232
def cellsOf (p:Pt) (v:Value):Array Value:=#[.int .u8 p.kind,.bool p.yes,.bool p.neg,.string p.mag,.string p.raw,v]
structure PartCells (w:World) (b o:Nat) (p:Pt) (v:Value):Prop where
 c0:w.cell? ⟨b,o,none⟩=some (.int .u8 p.kind)
 c1:w.cell? ⟨b,o+1,none⟩=some (.bool p.yes)
 c2:w.cell? ⟨b,o+2,none⟩=some (.bool p.neg)
 c3:w.cell? ⟨b,o+3,none⟩=some (.string p.mag)
 c4:w.cell? ⟨b,o+4,none⟩=some (.string p.raw)
 c5:w.cell? ⟨b,o+5,none⟩=some v
theorem PartCells.same {lo hi b o:Nat} {w w':World} {p:Pt} {v:Value} (h:PartCells w b o p v) (hs:Same lo hi w w') (h1:lo≤b) (h2:b<hi):PartCells w' b o p v :=
 ⟨hs.cell h1 h2 h.c0,hs.cell h1 h2 h.c1,hs.cell h1 h2 h.c2,hs.cell h1 h2 h.c3,hs.cell h1 h2 h.c4,hs.cell h1 h2 h.c5⟩
inductive PI (w:World) (lo hi:Nat):List Pt→Value→Prop
 | mk (l:List Pt) (a:Option Addr) (cap:Nat) (F:Nat→Value) (hc:l.length≤cap)
  (cells:∀ j (h:j<l.length),∃ b off,a=some ⟨b,off,none⟩∧lo≤b∧b<hi∧PartCells w b (off+j*6) l[j] (F j))
  (fits:∀ j (h:j<l.length),Fit l[j]) (deep:∀ j (h:j<l.length),PI w lo hi l[j].items (F j)):PI w lo hi l (.slice a l.length cap)
theorem PI.same {lo hi:Nat} {w w':World} {l:List Pt} {v:Value} (h:PI w lo hi l v) (hs:Same lo hi w w'):PI w' lo hi l v:=by
 induction h with
 | mk l a cap F hc cells fits deep ih =>
  exact .mk l a cap F hc (fun j hj=>by
   obtain⟨b,off,ha,h1,h2,h3⟩:=cells j hj
   exact⟨b,off,ha,h1,h2,h3.same hs h1 h2⟩) fits ih
theorem PI.wide {lo hi lo' hi':Nat} {w:World} {l:List Pt} {v:Value} (h:PI w lo hi l v) (h1:lo'≤lo) (h2:hi≤hi'):PI w lo' hi' l v:=by
 induction h with
 | mk l a cap F hc cells fits deep ih =>
  exact .mk l a cap F hc (fun j hj=>by
   obtain⟨b,off,ha,h3,h4,h5⟩:=cells j hj
   exact⟨b,off,ha,by omega,by omega,h5⟩) fits ih
theorem PI.nil (w:World) (lo hi:Nat):PI w lo hi [] (.slice none 0 0):=.mk [] none 0 (fun _=>.slice none 0 0) lr (fun j h=>by cases h) (fun j h=>by cases h) (fun j h=>by cases h)
theorem PI.open {lo hi:Nat} {w:World} {l:List Pt} {v:Value} (h:PI w lo hi l v):∃ (a:Option Addr) (cap:Nat),v=.slice a l.length cap∧l.length≤cap ∧
 ∀ j (h:j<l.length),∃ b off u,a=some ⟨b,off,none⟩∧lo≤b∧b<hi∧PartCells w b (off+j*6) l[j] u∧Fit l[j]∧PI w lo hi l[j].items u:=by
 cases h with
 | mk _ a cap F hc cells fits deep =>
  refine⟨a,cap,rfl,hc,fun j hj=>?_⟩
  obtain⟨b,off,ha,h1,h2,h3⟩:=cells j hj
  exact⟨b,off,F j,ha,h1,h2,h3,fits j hj,deep j hj⟩
inductive VI (w:World) (lo hi:Nat):Pt→Value→Prop
 | null (p:Pt) (h:p.kind=0):VI w lo hi p .nilIface
 | truth (p:Pt) (h:p.kind=1):VI w lo hi p (.iface 148 (.agg #[.bool p.yes]))
 | whole (p:Pt) (h:p.kind=2):VI w lo hi p (.iface 220 (.agg #[.bool p.neg,.string p.mag]))
 | row (p:Pt) (h0:p.kind≠0) (h1:p.kind≠1) (h2:p.kind≠2) (h7:p.kind≠7):VI w lo hi p (.iface 222 (.agg #[.int .u8 p.kind,.string p.raw]))
 | tuple (p:Pt) (h:p.kind=7) (a:Option Addr) (cap:Nat) (F:Nat→Value) (hc:p.items.length≤cap)
  (cells:∀ j,j<p.items.length→∃ g,a=some ⟨g,0,none⟩∧lo≤g∧g<hi∧w.cell? ⟨g,j,none⟩=some (F j))
  (deep:∀ j (h:j<p.items.length),VI w lo hi p.items[j] (F j)):VI w lo hi p (.iface 118 (.agg #[.slice a p.items.length cap]))
theorem VI.same {lo hi:Nat} {w w':World} {p:Pt} {v:Value} (h:VI w lo hi p v) (hs:Same lo hi w w'):VI w' lo hi p v:=by
 induction h with
 | null p h=>exact .null p h
 | truth p h=>exact .truth p h
 | whole p h=>exact .whole p h
 | row p h0 h1 h2 h7=>exact .row p h0 h1 h2 h7
 | tuple p h a cap F hc cells deep ih =>
  exact .tuple p h a cap F hc (fun j hj=>by
   obtain⟨g,ha,h1,h2,h3⟩:=cells j hj
   exact⟨g,ha,h1,h2,hs.cell h1 h2 h3⟩) ih
theorem VI.wide {lo hi lo' hi':Nat} {w:World} {p:Pt} {v:Value} (h:VI w lo hi p v) (h1:lo'≤lo) (h2:hi≤hi'):VI w lo' hi' p v:=by
 induction h with
 | null p h=>exact .null p h
 | truth p h=>exact .truth p h
 | whole p h=>exact .whole p h
 | row p h0 h1 h2 h7=>exact .row p h0 h1 h2 h7
 | tuple p h a cap F hc cells deep ih =>
  exact .tuple p h a cap F hc (fun j hj=>by
   obtain⟨g,ha,h3,h4,h5⟩:=cells j hj
   exact⟨g,ha,by omega,by omega,h5⟩) ih
theorem chk_long {b:Bool} {m:List UInt8} (h:255<m.length):chk b m=21:=by simp[chk,h]
theorem chk_nil_below {m:List UInt8} (h:m=[]):chk true m=20:=by simp[chk,h]
theorem chk_nil {m:List UInt8} (h:m=[]):chk false m=0:=by simp[chk,h]
theorem chk_zero {b:Bool} {m:List UInt8} (h:¬ 255<m.length) (h0:m.head?=some 0):chk b m=20:=by simp[chk,h,h0]
theorem chk_ok {b:Bool} {m:List UInt8} (h:¬ 255<m.length) (hn:m≠[]) (h0:m.head?≠some 0):chk b m=0:=by simp[chk,h,h0,hn]
theorem drop_cons (s:ByteArray) (k:Nat) (h:k<s.size):s.data.toList.drop k=s[k]::s.data.toList.drop (k+1):=by
 rw[List.drop_eq_getElem_cons (by simpa using h)];rfl
theorem nil_of_size {s:ByteArray} (h:¬ 0<s.size):s.toList=[]:=List.eq_nil_of_length_eq_zero (by rw[size_of];omega)
theorem head_of (s:ByteArray) (h:0<s.size):s.toList.head?=some s[0]:=by
 rw[Lib.toList_data]
 have:=drop_cons s 0 h
 rw[List.drop_zero] at this
 rw[this];rfl
theorem u8_eqb {c d:UInt8} {n:Int} (hn:(d.toNat:Int)=n) (h:c=d):((c.toNat:Int)==n)=true:=by subst h hn;simp
theorem u8_neb {c d:UInt8} {n:Int} (hn:(d.toNat:Int)=n) (h:¬ c=d):((c.toNat:Int)==n)=false:=by
 rw[← hn,beq_eq_false_iff_ne]
 exact fun e=>h (UInt8.toNat_inj.1 (by omega))
theorem check_any (b:Bool) (s:ByteArray) (w:World) (_hs:s.size≤9223372036854775807) (r:Int) (hr:chk b s.toList=r) :
 Calls prog 83 #[.agg #[.bool b,.string s]] w fun e w'=>e=.returned (.int .i64 r)∧Below w.heap.size w w':=by
 by_cases h1:255<s.size
 · rw[chk_long (by rw[size_of];exact h1)] at hr
   subst hr
   go_enter func83,ntmps83
   go_wp2
   go_ret
   exact⟨rfl,zr.alloc lr _⟩
 · by_cases h2:0<s.size
   · have hne:s.toList.isEmpty=false:=by
      cases h:s.toList with
      | nil=>have:=size_of s;rw[h] at this;simp at this;omega
      | cons _ _=>rfl
     by_cases h3:s[0]=0
     · rw[chk_zero (by rw[size_of];exact h1) (by rw[head_of s h2,h3])] at hr
       have h4:=u8_eqb (n:=0) rfl h3
       subst hr
       clear h3
       go_enter func83,ntmps83
       go_wp2
       go_ret
       exact⟨rfl,zr.alloc lr _⟩
     · rw[chk_ok (by rw[size_of];exact h1) (by intro e;rw[e] at hne;simp at hne) (by rw[head_of s h2];simpa using h3)] at hr
       have h4:=u8_neb (n:=0) rfl h3
       subst hr
       clear h3
       go_enter func83,ntmps83
       go_wp2
       go_ret
       exact⟨rfl,zr.alloc lr _⟩
   · have he:=nil_of_size h2
     have hne:s.toList.isEmpty=true:=by rw[he];rfl
     cases b
     · rw[chk_nil he] at hr
       subst hr
       clear he
       go_enter func83,ntmps83
       go_wp2
       go_ret
       exact⟨rfl,zr.alloc lr _⟩
     · rw[chk_nil_below he] at hr
       subst hr
       clear he
       go_enter func83,ntmps83
       go_wp2
       go_ret
       exact⟨rfl,zr.alloc lr _⟩
theorem eql_num (x y:Bool) (a b:ByteArray) (E:Bool) (h:(x==y&&a.toList==b.toList)=E) (w:World):(binOp .eql 54 (.agg #[.bool x,.string a]) (.agg #[.bool y,.string b])).run prog w=.ok (.bool E) w:=by
 subst h
 by_cases hx:x=y<;>by_cases ha:a.toList=b.toList<;>simp[go_sem,hx,ha]
theorem neq_num (x y:Bool) (a b:ByteArray) (E:Bool) (h:(x==y&&a.toList==b.toList)=E) (w:World):(binOp .neq 54 (.agg #[.bool x,.string a]) (.agg #[.bool y,.string b])).run prog w=.ok (.bool !E) w:=by
 subst h
 by_cases hx:x=y<;>by_cases ha:a.toList=b.toList<;>simp[go_sem,hx,ha]
theorem PI.later {w w1:World} {l:List Pt} {v:Value} (h:PI w 0 w.heap.size l v) (hb:Below w.heap.size w w1):PI w1 0 w1.heap.size l v :=
 (h.same (Same.of_below hb lr)).wide lr hb.size
theorem VI.later {w w1:World} {p:Pt} {v:Value} (h:VI w 0 w.heap.size p v) (hb:Below w.heap.size w w1):VI w1 0 w1.heap.size p v :=
 (h.same (Same.of_below hb lr)).wide lr hb.size
theorem any_drop {f:Pt→Bool} {l:List Pt} {k:Nat} (h:k<l.length):(l.drop k).any f=(f l[k] || (l.drop (k+1)).any f):=by
 rw[List.drop_eq_getElem_cons h];rfl
theorem all_drop {f:Pt→Bool} {l:List Pt} {k:Nat} (h:k<l.length):(l.drop k).all f=(f l[k]&&(l.drop (k+1)).all f):=by
 rw[List.drop_eq_getElem_cons h];rfl
theorem deep_any (n:Nat):∀ (p:Pt) (v:Value) (w:World),n≤1000→Fit p→PI w 0 w.heap.size p.items v →
 Calls prog 54 #[.agg #[.int .u8 p.kind,.bool p.yes,.bool p.neg,.string p.mag,.string p.raw,v],.int .i64 n] w fun e w'=>e=.returned (.bool (deepB n p))∧Below w.heap.size w w':=by
 induction n with
 | zero =>
  intro p v w _ hf hp
  have hk:=hf.k
  by_cases h7:p.kind=7
  · have q1:((p.kind:Int) != 7)=false:=by rw[h7];rfl
    have HD:=zh (show deepB 0 p=true by simp[deepB,h7])
    clear h7
    go_enter func54,ntmps54
    go_wp2_with fail
    go_ret
    exact⟨by rw[HD.out];rfl,zr.alloc lr _⟩
  · have q1:((p.kind:Int) != 7)=true:=by simp;omega
    have HD:=zh (show deepB 0 p=false by simp[deepB,h7])
    clear h7
    go_enter func54,ntmps54
    go_wp2_with fail
    go_ret
    exact⟨by rw[HD.out];rfl,zr.alloc lr _⟩
 | succ n ih =>
  intro p v w hn hf hp
  have hk:=hf.k
  have hl:=hf.l
  by_cases h7:p.kind=7
  · have q1:((p.kind:Int) != 7)=false:=by rw[h7];rfl
    have q2:((n:Int)+1==0)=false:=beq_eq_false_iff_ne.2 (by omega)
    have HD:=zh (show deepB (n+1) p=(p.items.drop 0).any (deepB n) by simp[deepB,h7])
    obtain⟨a,cap,rfl,hcap,hat⟩:=hp.open
    have HA:=zh hat
    have IH:=zh ih
    clear h7 hat ih hp
    go_enter func54,ntmps54
    go_wp2_with fail
    go_loopw [15] (fun i wr=>∃ k:Nat,k≤p.items.length∧i=.int .i64 k∧RowKit.Hid (deepB (n+1) p=(p.items.drop k).any (deepB n))∧Below w.heap.size w wr∧w.heap.size<wr.heap.size) (fun i _=>p.items.length-(intOf i).toNat)
    case atStart=>exact⟨0,Nat.zero_le _,rfl,HD,zr.alloc lr _,by simp⟩
    case round =>
     obtain⟨k,hkl,rfl,HK,hB,hsz⟩:=hrel
     by_cases hlt:k<p.items.length
     · have q3:decide (k<p.items.length)=true:=by simpa using hlt
       obtain⟨b,off,u,rfl,_,hb,hc,hfit,hpi⟩:=HA.out k hlt
       obtain⟨d0,d1,d2,d3,d4,d5⟩:=hc.same (Same.of_below hB lr) (Nat.zero_le _) hb
       have HE:=zh (any_drop (f:=deepB n) hlt)
       obtain⟨q,hq⟩:∃ q,p.items[k]=q:=⟨_,rfl⟩
       rw[hq] at d0 d1 d2 d3 d4 hfit hpi HE
       obtain⟨a2,cap2,rfl,_,_⟩:=hpi.open
       have hpi2:=zh hpi
       clear hc hq hpi
       go_wp2_with fail
       have hpw:PI (wr.alloc (.cells #[.int .u8 q.kind,.bool q.yes,.bool q.neg,.string q.mag,.string q.raw,.slice a2 q.items.length cap2] 57)) 0 (wr.alloc (.cells #[.int .u8 q.kind,.bool q.yes,.bool q.neg,.string q.mag,.string q.raw,.slice a2 q.items.length cap2] 57)).heap.size q.items (.slice a2 q.items.length cap2) :=
        hpi2.out.later (hB.alloc (Nat.le_of_lt hsz) _)
       refine(IH.out q _ _ (by omega) hfit hpw).mono ?_
       rintro e w1 ⟨rfl,hb1⟩
       have hB1:Below w.heap.size w w1:=(hB.alloc (Nat.le_of_lt hsz) _).trans (hb1.mono (by simp;omega))
       have hz1:w.heap.size<w1.heap.size:=by have:=hb1.size;simp at this;omega
       cases hd:deepB n q with
       | true =>
        have HD2:=zh (show deepB (n+1) p=true by rw[HK.out,HE.out,hd];rfl)
        clear hd hB hb1 hpw d0 d1 d2 d3 d4 d5
        go_wp2_with fail
        go_ret
        exact⟨by rw[HD2.out];rfl,hB1⟩
       | false =>
        have HD2:=zh (show deepB (n+1) p=(p.items.drop (k+1)).any (deepB n) by rw[HK.out,HE.out,hd];rfl)
        clear hd hB hb1 hpw d0 d1 d2 d3 d4 d5
        go_wp2_with fail
        refine⟨?_,by simp[intOf];omega⟩
        (repeat apply Exists.intro)
        exact⟨⟨k+1,by omega,rfl,HD2,hB1,hz1⟩,rfl⟩
     · have q3:decide (k<p.items.length)=false:=by simpa using hlt
       have HD2:=zh (show deepB (n+1) p=false by rw[HK.out,List.drop_of_length_le (by omega)];rfl)
       go_wp2_with fail
       go_ret
       exact⟨by rw[HD2.out];rfl,hB⟩
  · have q1:((p.kind:Int) != 7)=true:=by simp;omega
    have HD:=zh (show deepB (n+1) p=false by simp[deepB,h7])
    clear h7
    go_enter func54,ntmps54
    go_wp2_with fail
    go_ret
    exact⟨by rw[HD.out];rfl,zr.alloc lr _⟩
