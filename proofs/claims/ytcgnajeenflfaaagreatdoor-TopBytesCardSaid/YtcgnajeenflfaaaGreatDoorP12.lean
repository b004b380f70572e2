import Derived.Deep.AppendLies
import Derived.Shelf.Small.Utf8
import Derived.Shelf.Small.Wraps
import Derived.Shelf.Strings.SlTrimAscii
import Derived.Test.YtcgnajeenflfaaaGreatDoorP11
import Derived.Test.YtcgnajeenflfaaaGreatDoorP7
set_option maxRecDepth 100000
set_option maxHeartbeats 4000000
set_option linter.all false
open Go.Proofs.Tryz Go.RowKit
namespace Go.Proofs.YtcgnajeenflfaaaGreatDoor
namespace We
open Ta (El)
structure Wd where
 e:El
 w:Bool
def Wd.cells (x:Wd):List Value:=[.bool x.e.v,.int .i64 x.e.p,.int .i64 x.e.s,.int .i64 x.e.t,.bool x.w]
def Wd.val (x:Wd):Value:=.agg #[.bool x.e.v,.int .i64 x.e.p,.int .i64 x.e.s,.int .i64 x.e.t,.bool x.w]
def lvlM (i:Nat) (x:Wd):Int :=
 match i with
 | 0=>if x.w then 0 else x.e.p
 | 1=>if x.w then 0 else x.e.s
 | 2=>if x.w then 0 else x.e.t
 | _=>if x.e.v then x.e.p else if x.w || (x.e.p==0&&x.e.s==0&&x.e.t==0) then 0 else 65535
def lvlF:Nat→Nat
 | 0=>224
 | 1=>225
 | 2=>226
 | _=>227
theorem unless_any (v:Bool) (p s t:Int) (z:Bool) (n:Int) (w:World) :
 Calls prog 241 #[.agg #[.bool v,.int .i64 p,.int .i64 s,.int .i64 t,.bool z],.int .i64 n] w fun e w'=>e=.returned (.int .i64 (if z then 0 else n))∧Below w.heap.size w w':=by
 cases z
 all_goals
  simp only [if_true,Bool.false_eq_true,if_false]
  go_enter func241,ntmps241
  go_wp2_with fail
  go_ret
  exact⟨rfl,zr.alloc lr _⟩
theorem primary_any (x:Wd) (w:World):Calls prog 224 #[x.val] w fun e w'=>e=.returned (.int .i64 (lvlM 0 x))∧Below w.heap.size w w':=by
 obtain⟨⟨v,p,s,t⟩,z⟩:=x
 unfold Wd.val lvlM
 dsimp only
 obtain⟨r,hr⟩:∃ r,(if z=true then (0:Int) else p)=r:=⟨_,rfl⟩
 rw[hr]
 have HR:=zh hr
 clear hr
 go_enter func224,ntmps224
 go_wp2_with fail
 refine(unless_any v p s t z p _).mono ?_
 rintro e w1 ⟨rfl,hb⟩
 have hB:=((Below.refl w.heap.size w).alloc lr (.cells #[.bool v,.int .i64 p,.int .i64 s,.int .i64 t,.bool z] 328)).trans (hb.mono (by simp))
 rw[HR.out]
 clear hb
 go_wp2_with fail
 go_ret
 exact⟨rfl,hB⟩
theorem secondary_any (x:Wd) (w:World):Calls prog 225 #[x.val] w fun e w'=>e=.returned (.int .i64 (lvlM 1 x))∧Below w.heap.size w w':=by
 obtain⟨⟨v,p,s,t⟩,z⟩:=x
 unfold Wd.val lvlM
 dsimp only
 obtain⟨r,hr⟩:∃ r,(if z=true then (0:Int) else s)=r:=⟨_,rfl⟩
 rw[hr]
 have HR:=zh hr
 clear hr
 go_enter func225,ntmps225
 go_wp2_with fail
 refine(unless_any v p s t z s _).mono ?_
 rintro e w1 ⟨rfl,hb⟩
 have hB:=((Below.refl w.heap.size w).alloc lr (.cells #[.bool v,.int .i64 p,.int .i64 s,.int .i64 t,.bool z] 328)).trans (hb.mono (by simp))
 rw[HR.out]
 clear hb
 go_wp2_with fail
 go_ret
 exact⟨rfl,hB⟩
theorem tertiary_any (x:Wd) (w:World):Calls prog 226 #[x.val] w fun e w'=>e=.returned (.int .i64 (lvlM 2 x))∧Below w.heap.size w w':=by
 obtain⟨⟨v,p,s,t⟩,z⟩:=x
 unfold Wd.val lvlM
 dsimp only
 obtain⟨r,hr⟩:∃ r,(if z=true then (0:Int) else t)=r:=⟨_,rfl⟩
 rw[hr]
 have HR:=zh hr
 clear hr
 go_enter func226,ntmps226
 go_wp2_with fail
 refine(unless_any v p s t z t _).mono ?_
 rintro e w1 ⟨rfl,hb⟩
 have hB:=((Below.refl w.heap.size w).alloc lr (.cells #[.bool v,.int .i64 p,.int .i64 s,.int .i64 t,.bool z] 328)).trans (hb.mono (by simp))
 rw[HR.out]
 clear hb
 go_wp2_with fail
 go_ret
 exact⟨rfl,hB⟩
theorem quaternary_at (v:Bool) (p s t:Int) (z:Bool) (w:World) (r:Int) (hr:Hid (r=lvlM 3 ⟨⟨v,p,s,t⟩,z⟩)) (bp bs bt:Bool) (h1:(p==0)=bp) (h2:(s==0)=bs) (h3:(t==0)=bt) (hv:r=if v then p else if z || (bp&&bs&&bt) then 0 else 65535) :
 Calls prog 227 #[.agg #[.bool v,.int .i64 p,.int .i64 s,.int .i64 t,.bool z]] w fun e w'=>e=.returned (.int .i64 r)∧Below w.heap.size w w':=by
 cases v<;>cases z<;>cases bp<;>cases bs<;>cases bt
 all_goals
  simp only [Bool.false_eq_true,if_false,if_true,Bool.or_true,Bool.or_false,Bool.and_true,Bool.and_false,Bool.false_and,Bool.true_and,Bool.false_or,Bool.true_or] at hv
  subst hv
  clear hr
  go_enter func227,ntmps227
  go_wp2_with fail
  go_ret
  exact⟨rfl,zr.alloc lr _⟩
theorem quaternary_any (x:Wd) (w:World):Calls prog 227 #[x.val] w fun e w'=>e=.returned (.int .i64 (lvlM 3 x))∧Below w.heap.size w w':=by
 obtain⟨⟨v,p,s,t⟩,z⟩:=x
 exact quaternary_at v p s t z w _ (zh rfl) _ _ _ rfl rfl rfl rfl
def lvlV:Array Value:=#[.func (.func 224) #[] #[],.func (.func 225) #[] #[],.func (.func 226) #[] #[],.func (.func 227) #[] #[]]
theorem levels_any (w:World):Calls prog 202 #[] w fun e w'=>e=.returned (.slice (some ⟨w.heap.size,0,none⟩) 4 4)∧w'=w.alloc (.cells lvlV 333):=by
 go_enter func202,ntmps202
 go_wp2_with fail
 go_ret
 exact⟨rfl,rfl⟩
theorem level_any (i:Nat) (x:Wd) (w:World):Calls prog (lvlF i) #[x.val] w fun e w'=>e=.returned (.int .i64 (lvlM i x))∧Below w.heap.size w w' :=
 match i with
 | 0=>primary_any x w
 | 1=>secondary_any x w
 | 2=>tertiary_any x w
 | _+3=>quaternary_any x w
end We
namespace U
open Go.Shelf
attribute [local go_sem] Oper.semAt_some
theorem chars_in (n:Nat) (s:ByteArray) (w:World) :
 CallsIn Fence.wide n prog 85 #[.string s] w fun e w'=>e=.returned (.func (.func 108) #[] #[.pointer (some ⟨w.heap.size,0,none⟩)])∧w'=w.alloc (.cells #[.string s] 9):=by
 refine callsIn_of_wp func85 rfl trivial ?_ rfl
 simp only [ntmps85,List.size_toArray,List.length_cons,List.length_nil,Nat.reduceAdd,Nat.reduceSub,Array.replicate_succ,Array.replicate_zero,List.push_toArray,List.append_toArray,List.nil_append,List.cons_append]
 gi_wp2
 go_ret
 exact⟨rfl,rfl⟩
theorem chars_stops (Bs:Nat) (s:ByteArray) (hs:s.size≤4611686018427387904) (w:World) (hBs:Bs<w.heap.size) (hc:w.cell? ⟨Bs,0,none⟩=some (.string s)) :
 SeqStopsK Fence.wide 9 prog 108 #[.pointer (some ⟨Bs,0,none⟩)] (fun x:Int×Int=>#[Value.int .i64 x.1,Value.int .i64 x.2]) (KpB Bs) (fun ys=>ys=items s) (fun pre=>pre <+: items s) (items s).length w :=
 fun l J Jx W hW _ _ hY h0=>chars1_in l Bs s hs J Jx hY W ((hW.cell (p:=⟨Bs,0,none⟩) hBs).trans hc) h0
def checkS (s:ByteArray):Int:=((items s).find? (fun x=>decide (x.2<0))).elim (-1) (·.1)
def Good (pre:List (Int×Int)):Prop:=∀ x∈pre,0≤x.2
def Bad (pre:List (Int×Int)) (a:Int):Prop:=∃ ini last,pre=ini++[last]∧Good ini∧last.2<0∧last.1=a
theorem Good.nil:Good []:=fun x h=>by cases h
theorem Good.snoc {pre:List (Int×Int)} {x:Int×Int} (h:Good pre) (hx:0≤x.2):Good (pre++[x]):=fun y hy=>by
 rcases List.mem_append.1 hy with h1 | h1
 · exact h y h1
 · simp only [List.mem_singleton] at h1
   exact h1▸hx
theorem Good.bad {pre:List (Int×Int)} {x:Int×Int} (h:Good pre) (hx:x.2<0):Bad (pre++[x]) x.1:=⟨pre,x,rfl,h,hx,rfl⟩
theorem checkS_none {s:ByteArray} (h:Good (items s)):checkS s=-1:=by
 unfold checkS
 rw[List.find?_eq_none.2 (fun x hx=>by have:=h x hx;simpa using this)]
 rfl
theorem checkS_some {s:ByteArray} {pre:List (Int×Int)} {a:Int} (hp:pre <+: items s) (hb:Bad pre a):checkS s=a:=by
 obtain⟨ini,last,rfl,hi,hl,rfl⟩:=hb
 obtain⟨r,hr⟩:=hp
 unfold checkS
 rw[← hr,List.append_assoc,List.find?_append,List.find?_eq_none.2 (fun x hx=>by have:=hi x hx;simpa using this)]
 simp[hl]
theorem Check_any (s:ByteArray) (hs:s.size≤4611686018427387904) (w:World) :
 Calls prog 51 #[.string s] w fun e w'=>e=.returned (.int .i64 (checkS s))∧Below w.heap.size w w':=by
 refine(callsIn_wide (n:=10)).1 ?_
 refine callsIn_of_wp_marks func51 rfl trivial ?_ rfl
 simp only [ntmps51,List.size_toArray,List.length_cons,List.length_nil,Nat.reduceAdd,Nat.reduceSub,Array.replicate_succ,Array.replicate_zero,List.push_toArray,List.append_toArray,List.nil_append,List.cons_append]
 gi_wp2
 refine⟨trivial,(chars_in _ _ _).mono ?_⟩
 rintro e w' ⟨rfl,rfl⟩
 gi_wp2
 have bR:=Boxed.new w 3 (.int .i64 0)
 have bN:=Boxed.new (w.alloc (.cells #[.int .i64 0] 3)) 9 (.string s)
 rw[World.size_alloc] at bN
 have hB0:Below w.heap.size w ((w.alloc (.cells #[.int .i64 0] 3)).alloc (.cells #[.string s] 9)):=(zr.alloc lr _).alloc (by simp) _
 refine wpIn_rangeFunc_ownG rfl (by omega) (gf:=108) (lb:=#[.pointer (some ⟨w.heap.size+1,0,none⟩)]) (by simp[go_sem]) trivial (enters_of func108 (by kernel_rfl) rfl)
  (chars_stops (w.heap.size+1) s hs _ (by simp) bN.cell) kpB_t (kpB_b (by simp)) zr (fun _=>rfl)
  (fun pre W=>(Good pre∧W.cell? ⟨w.heap.size,0,none⟩=some (.int .i64 0)∧W.frozen? ⟨w.heap.size,0,none⟩=false)∧Below w.heap.size w W)
  (fun c pre W=>(c=.ret∧∃ a,Bad pre a∧W.cell? ⟨w.heap.size,0,none⟩=some (.int .i64 a))∧Below w.heap.size w W)
  (OwnFrom.and (Own.from (fun s A B row hs hg hr=>⟨hs.1,cell_kept hs.2.1 hg hr,(frozen_kept hs.2.1 hg hr).trans hs.2.2⟩) _) (ownFrom_below lr (by simp;omega)))
  (fun c=>OwnFrom.and (Own.from (fun s A B row hs hg hr=>by obtain⟨hc,a,e1,e4⟩:=hs;exact⟨hc,a,e1,cell_kept e4 hg hr⟩) _) (ownFrom_below lr (by simp;omega)))
  ⟨⟨Good.nil,(bR.alloc _).cell,(bR.alloc _).frozen⟩,hB0⟩
  (fun x=>{ tmps:=#[.string s,undef,.pointer (some ⟨w.heap.size,0,none⟩),.int .i64 x.1,.int .i64 x.2,.string s,.func (.func 108) #[] #[.pointer (some ⟨w.heap.size+1,0,none⟩)],.int .i64 x.1,.int .i64 x.2,undef,undef,undef],defers:=[] }) ?assign ?body ?done ?stop
 case assign =>
  intro l x W K hK
  gi_wp2
  exact hK
 case body =>
  rintro l pre x W ⟨⟨hp,hcr,hfr⟩,hB⟩ _
  gi_wp2
  · have hx:x.2<0:=by assumption
    exact⟨(KeepsOthers.setCell _ _ _).from _,⟨rfl,x.1,hp.bad hx,World.cell?_setCell_same' _ _ _ (by rw[hcr];rfl)⟩,hB.setCell (p:=⟨w.heap.size,0,none⟩) lr _⟩
  · have hx:0≤x.2:=by assumption
    exact⟨KeepsFrom.refl _ _,rfl,⟨hp.snoc hx,hcr,hfr⟩,hB⟩
 case done =>
  rintro D ys W hD rfl ⟨⟨hne,hcr,hfr⟩,hB⟩ hK
  gi_wp2
  have hK':=(KeepsOthers.setCell W ⟨w.heap.size,0,none⟩ (.int .i64 (-1))).same D _ hK rfl
  refine⟨by simp,.inl ⟨_,_,rfl,run_takeDeferred hK',?_⟩⟩
  have hc5:=cell_kept (World.cell?_setCell_same' W ⟨w.heap.size,0,none⟩ (.int .i64 (-1)) (by rw[hcr];rfl)) (grownBy_putObj' _ D (.deferred none)) (fun r e=>by cases e;exact⟨_,hK',rfl⟩)
  refine⟨.int .i64 (-1),?_,by rw[checkS_none hne],(hB.setCell (p:=⟨w.heap.size,0,none⟩) lr _).trans (belowK_b (w:=w) lr _ D _ _ (by simp at hD;omega) hK' rfl rfl)⟩
  simp[results,Tryz.f51,go_sem,hc5]
 case stop =>
  rintro D c pre W hD hpre ⟨⟨rfl,a,hbad,hcr⟩,hB⟩ hK
  gi_wp2
  refine⟨by simp,.inl ⟨_,_,rfl,run_takeDeferred hK,?_⟩⟩
  have hc5:=cell_kept hcr (grownBy_putObj' _ D (.deferred none)) (fun r e=>by cases e;exact⟨_,hK,rfl⟩)
  refine⟨.int .i64 a,?_,by rw[checkS_some hpre hbad],hB.trans (belowK_b (w:=w) lr W D _ _ (by simp at hD;omega) hK rfl rfl)⟩
  simp[results,Tryz.f51,go_sem,hc5]
end U
end Go.Proofs.YtcgnajeenflfaaaGreatDoor
namespace Go.Proofs
open Go.Shelf
def Tryz.lays160_ren:Go.Shelf.Ren:=⟨fun | 160=>104 | 232=>130 | 231=>129 | 227=>131 | 234=>133 | 233=>132 | 236=>135 | 235=>134 | 228=>174 | 271=>176 | 151=>175 | 197=>152 | 120=>205 | 152=>204 | 260=>181 | 137=>228 | 119=>229 | 224=>184 | 225=>183 | 217=>182 | 266=>210 | n=>n,fun | 9=>9 | 4=>4 | 3=>3 | 5=>5 | 117=>267 | 116=>266 | 0=>0 | 124=>270 | 21=>21 | 105=>272 | 46=>252 | 119=>340 | 139=>343 | 138=>342 | n=>n,fun | 3=>5 | 4=>6 | n=>n⟩
theorem Tryz.lays160:Go.Proofs.Lays.n160 prog Tryz.lays160_ren:={
 mixed:=by kernel_rfl
 f119:=func229.trans (congrArg some (by kernel_rfl))
 f120:=func205.trans (congrArg some (by kernel_rfl))
 f137:=func228.trans (congrArg some (by kernel_rfl))
 f151:=func175.trans (congrArg some (by kernel_rfl))
 f152:=func204.trans (congrArg some (by kernel_rfl))
 f160:=func104.trans (congrArg some (by kernel_rfl))
 f197:=func152.trans (congrArg some (by kernel_rfl))
 f217:=func182.trans (congrArg some (by kernel_rfl))
 f224:=func184.trans (congrArg some (by kernel_rfl))
 f225:=func183.trans (congrArg some (by kernel_rfl))
 f227:=func131.trans (congrArg some (by kernel_rfl))
 f228:=func174.trans (congrArg some (by kernel_rfl))
 f231:=func129.trans (congrArg some (by kernel_rfl))
 f232:=func130.trans (congrArg some (by kernel_rfl))
 f233:=func132.trans (congrArg some (by kernel_rfl))
 f234:=func133.trans (congrArg some (by kernel_rfl))
 f235:=func134.trans (congrArg some (by kernel_rfl))
 f236:=func135.trans (congrArg some (by kernel_rfl))
 f260:=func181.trans (congrArg some (by kernel_rfl))
 f266:=func210.trans (congrArg some (by kernel_rfl))
 f271:=func176.trans (congrArg some (by kernel_rfl))
 t0:=underlying0
 a0:=Tryz.isAgg0
 z0:=Tryz.sizeOf0
 v0:=Tryz.zeroValue0
 t3:=underlying3
 a3:=Tryz.isAgg3
 z3:=Tryz.sizeOf3
 v3:=Tryz.zeroValue3
 t4:=underlying4
 a4:=Tryz.isAgg4
 z4:=Tryz.sizeOf4
 v4:=Tryz.zeroValue4
 t5:=underlying5
 a5:=Tryz.isAgg5
 z5:=Tryz.sizeOf5
 v5:=Tryz.zeroValue5
 t9:=underlying9
 a9:=Tryz.isAgg9
 z9:=Tryz.sizeOf9
 v9:=Tryz.zeroValue9
 t21:=underlying21
 a21:=Tryz.isAgg21
 z21:=Tryz.sizeOf21
 v21:=Tryz.zeroValue21
 t46:=underlying252
 a46:=Tryz.isAgg252
 z46:=Tryz.sizeOf252
 v46:=Tryz.zeroValue252
 t105:=underlying272
 a105:=Tryz.isAgg272
 z105:=Tryz.sizeOf272
 v105:=Tryz.zeroValue272
 t116:=underlying266
 a116:=Tryz.isAgg266
 z116:=Tryz.sizeOf266
 t117:=underlying267
 a117:=Tryz.isAgg267
 z117:=Tryz.sizeOf267
 v117:=Tryz.zeroValue267
 t119:=underlying340
 a119:=Tryz.isAgg340
 z119:=Tryz.sizeOf340
 t124:=underlying270
 a124:=Tryz.isAgg270
 z124:=Tryz.sizeOf270
 v124:=Tryz.zeroValue270
 t138:=underlying342
 a138:=Tryz.isAgg342
 z138:=Tryz.sizeOf342
 v138:=Tryz.zeroValue342
 t139:=underlying343
 a139:=Tryz.isAgg343
 z139:=Tryz.sizeOf343
 v139:=Tryz.zeroValue343
 g3:=by kernel_rfl
 g4:=by kernel_rfl }
end Go.Proofs
namespace Go.Proofs.YtcgnajeenflfaaaGreatDoor
namespace V
def WantPost (n:Int) (w:World) (e:Ending) (w':World):Prop:=∃ b,w.heap.size≤b∧e=.returned (.tuple #[.nilIface,.iface 39 (.pointer (some ⟨b,0,none⟩))])∧Blk w' b 44 #[.int .i64 n,.int .i64 0,.slice none 0 0,.nilIface]∧Below w.heap.size w w'
theorem want_kind (p:Pt) (v:Value) (k:Nat) (w:World) {W:World} {lo hi:Nat} (hk:k≤7) (hv:VI W lo hi p v) (hne:p.kind≠k):Calls prog 49 #[v,.int .u8 k] w (WantPost 4 w):=by
 have q1:decide ((7:Int)<(k:Int))=false:=decide_eq_false (by omega)
 by_cases h0:p.kind=0
 · obtain rfl:=hv.nilOf h0
   have q2:((0:Int) != (k:Int))=true:=by simp;omega
   clear hk hv hne h0
   go_enter func49,ntmps49
   go_wp2_with fail
   go_ret2
   exact⟨w.heap.size,Nat.le_refl _,rfl,Blk.new _ _ _,zr.alloc lr _⟩
 · obtain⟨T,V,f,rfl,m1,r1,c1⟩:=hv.kindOf h0
   have q2:((p.kind:Int) != (k:Int))=true:=by simp;omega
   have C1:=zh c1
   clear hk hv hne h0 c1
   go_enter func49,ntmps49
   go_wp2_with fail
   refine(C1.out _).mono ?_
   rintro e w1 ⟨rfl,hb1⟩
   go_wp2_with fail
   go_ret2
   exact⟨w1.heap.size,hb1.size,rfl,Blk.new _ _ _,two hb1 (zr.alloc lr _)⟩
theorem want_ok (p:Pt) (v:Value) (w:World) {W:World} {lo hi:Nat} (hk:p.kind≤7) (hv:VI W lo hi p v):Calls prog 49 #[v,.int .u8 p.kind] w fun e w'=>e=.returned (.tuple #[v,.nilIface])∧Below w.heap.size w w':=by
 have q1:decide ((7:Int)<(p.kind:Int))=false:=decide_eq_false (by omega)
 by_cases h0:p.kind=0
 · obtain rfl:=hv.nilOf h0
   have q2:((0:Int) != (p.kind:Int))=false:=by simp;omega
   clear hk hv h0
   go_enter func49,ntmps49
   go_wp2_with fail
   go_ret2
   exact⟨rfl,zr⟩
 · obtain⟨T,V,f,rfl,m1,r1,c1⟩:=hv.kindOf h0
   have q2:((p.kind:Int) != (p.kind:Int))=false:=by simp
   have C1:=zh c1
   clear hk hv h0 c1
   go_enter func49,ntmps49
   go_wp2_with fail
   refine(C1.out _).mono ?_
   rintro e w1 ⟨rfl,hb1⟩
   go_wp2_with fail
   go_ret2
   exact⟨rfl,hb1⟩
theorem depthL_take {l:List Pt} {k:Nat} (h:k<l.length):depthL (l.take (k+1))=max (depthL (l.take k)) (depthP l[k]):=by
 rw[List.take_succ_eq_append_getElem h,depthL_snoc]
theorem depthL_mem {l:List Pt} {p:Pt} (h:p∈l):depthP p≤depthL l:=(depthL_le l (depthL l)).1 lr p h
theorem depthL_take_le (l:List Pt) (k:Nat):depthL (l.take k)≤depthL l:=(depthL_le _ _).2 fun _ h=>depthL_mem (List.mem_of_mem_take h)
theorem infoV:(prog.info? 34).map (fun i=>(i.zero,i.size,i.bytes))=some (some .nilIface,1,16):=by kernel_rfl
def Vals (w:World) (base:Nat) (g:Option Nat) (l:List Pt) (us:List Value):Prop :=
 us.length=l.length∧∀ j (h:j<l.length),∃ u lo hi,us[j]?=some u∧VI w lo hi l[j] u∧base≤lo∧hi≤w.heap.size∧∀ k,g=some k→k<lo∨hi≤k
theorem Vals.nil (w:World) (base:Nat) (g:Option Nat):Vals w base g [] []:=⟨rfl,fun j h=>by cases h⟩
theorem Vals.below {w w':World} {base:Nat} {g:Option Nat} {l:List Pt} {us:List Value} (h:Vals w base g l us) (hb:Below w.heap.size w w'):Vals w' base g l us :=
 ⟨h.1,fun j hj=>by
  obtain⟨u,lo,hi,h1,h2,h3,h4,h5⟩:=h.2 j hj
  exact⟨u,lo,hi,h1,h2.same (Same.of_below hb h4),h3,Nat.le_trans h4 hb.size,h5⟩⟩
theorem Vals.snoc {w w':World} {base g lo hi:Nat} {v:Value} {l:List Pt} {us:List Value} {p:Pt} {u:Value} (h:Vals w base v.ownBlock l us) (hu:VI w lo hi p u) (h1:base≤lo) (h2:hi≤w.heap.size)
 (hv:∀ k,v.ownBlock=some k→k<lo∨hi≤k) (hg:w.grownBy w' v.ownBlock) (hw:v.ownBlock=some g∨w.heap.size≤g):Vals w' base (some g) (l++[p]) (us++[u]):=by
 have same:∀ lo hi,hi≤w.heap.size→(∀ k,v.ownBlock=some k→k<lo∨hi≤k)→Same lo hi w w':=fun lo hi a b k c d=>hg.block k (by omega) (fun e=>by have:=b k e.symm;omega)
 have out:∀ lo hi,hi≤w.heap.size→(∀ k,v.ownBlock=some k→k<lo∨hi≤k)→∀ k,some g=some k→k<lo∨hi≤k:=fun lo hi a b k e=>by
  have e:=Option.some.inj e
  subst e
  rcases hw with e | e
  · exact b _ e
  · exact .inr (by omega)
 refine⟨by simp[h.1],fun j hj=>?_⟩
 by_cases hjl:j<l.length
 · obtain⟨x,lo2,hi2,a1,a2,a3,a4,a5⟩:=h.2 j hjl
   refine⟨x,lo2,hi2,?_,?_,a3,Nat.le_trans a4 hg.size,out _ _ a4 a5⟩
   · rw[List.getElem?_append_left (by rw[h.1];exact hjl)];exact a1
   · rw[List.getElem_append_left hjl];exact a2.same (same _ _ a4 a5)
 · have hje:j=l.length:=by simp at hj;omega
   subst hje
   refine⟨u,lo,hi,?_,?_,h1,Nat.le_trans h2 hg.size,out _ _ h2 hv⟩
   · rw[List.getElem?_append_right (by rw[h.1];exact Nat.le_refl _),h.1];simp
   · rw[List.getElem_append_right lr];simpa using hu.same (same _ _ h2 hv)
theorem undrew {w w':World} (h:Below w.drew.heap.size w.drew w'):Below w.heap.size w w':=⟨h.os,h.tape,h.output,h.size,h.block⟩
theorem one_cell (w:World) (x:Value) (T:TypeId):∀ j u,[x][j]?=some u→(w.alloc (.cells #[x] T)).cell? ((⟨w.heap.size,0,none⟩:Addr).add j)=some u:=by
 intro j u hj
 match j,hj with
 | 0,hj=>simp at hj;subst hj;simp[Addr.add]
theorem own_below {w w':World} {base:Nat} {e:TypeId} {v:Value} {n:Nat} {us:List Value} (h:w.ownsRow base e 1 v n us) (hb:Below w.heap.size w w'):w'.ownsRow base e 1 v n us:=by
 refine⟨h.1,?_⟩
 rcases h.2 with hn | ⟨g,cap,cur,rfl,hg,hgg,rest⟩
 · exact .inl hn
 · exact .inr ⟨g,cap,cur,rfl,hg,(hb.block g (Array.getElem?_eq_some_iff.1 hgg).1).trans hgg,rest⟩
theorem own_cell {w w3:World} {ob:Obj} {base:Nat} {e:TypeId} {v u:Value} {n b o:Nat} {us:List Value} (h:w.ownsRow base e 1 v n us) (hg:(w.alloc ob).grownBy w3 v.ownBlock) (hb:b<base) (hc:w.cell? ⟨b,o,none⟩=some u):w3.cell? ⟨b,o,none⟩=some u:=by
 have hlt:b<w.heap.size:=World.block_lt_of_cell? w _ hc
 refine(World.cell?_of_block (hg.block b (by simp;omega) (fun e=>by have:=(World.ownsRow.lt h b e.symm).1;omega))).trans ?_
 exact(World.cell?_of_block (Below.heap_alloc w ob b hlt)).trans hc
theorem own_frozen {w w3:World} {ob:Obj} {base:Nat} {e:TypeId} {v:Value} {n b o:Nat} {us:List Value} (h:w.ownsRow base e 1 v n us) (hg:(w.alloc ob).grownBy w3 v.ownBlock) (hb:b<base) (hlt:b<w.heap.size) (hc:w.frozen? ⟨b,o,none⟩=false):w3.frozen? ⟨b,o,none⟩=false:=by
 refine(World.frozen?_of_block (hg.block b (by simp;omega) (fun e=>by have:=(World.ownsRow.lt h b e.symm).1;omega))).trans ?_
 exact(World.frozen?_of_block (Below.heap_alloc w ob b hlt)).trans hc
theorem may_len {p:Pt} (h:mayB p=true) (h7:p.kind=7):p.items.length≤1024:=by
 have h1:=mayB_ok h
 unfold okOne at h1
 simp only [h7,Bool.and_eq_true] at h1
 have h2:=h1.2
 simp at h2
 exact h2.2
theorem VI.ifaceOf {w:World} {lo hi:Nat} {p:Pt} {v:Value} (h:VI w lo hi p v) (h0:p.kind≠0):∃ T V,v=.iface T V:=by
 cases h with
 | null _ h=>omega
 | truth _ h=>exact⟨_,_,rfl⟩
 | whole _ h=>exact⟨_,_,rfl⟩
 | row _ h _ _ _=>exact⟨_,_,rfl⟩
 | tuple _ h _ _ _ _ _ _=>exact⟨_,_,rfl⟩
theorem made_step {W1 w2 w3:World} {T g cap k:Nat} {s x y:Value} {q:Pt} {l:List Pt} {us:List Value} (ob:Obj) (hO1:W1.ownsRow (T+1) 34 1 s k us) (hV1:Vals W1 (T+1) s.ownBlock l us)
 (hx:VI w2 W1.heap.size w2.heap.size q x) (hb2:Below W1.heap.size W1 w2) (hg:(w2.alloc ob).grownBy w3 s.ownBlock) (hl:s.ownBlock=some g∨g=(w2.alloc ob).heap.size)
 (hO3:w3.ownsRow (T+1) 34 1 (.slice (some ⟨g,0,none⟩) (k+1) cap) (k+1) (us++[x])) (hT:T+1≤W1.heap.size) :
 (w3.setCell ⟨T,0,none⟩ y).ownsRow (T+1) 34 1 (.slice (some ⟨g,0,none⟩) (k+1) cap) (k+1) (us++[x])∧Vals (w3.setCell ⟨T,0,none⟩ y) (T+1) (some g) (l++[q]) (us++[x]) ∧
  Below T W1 (w3.setCell ⟨T,0,none⟩ y)∧W1.heap.size≤(w3.setCell ⟨T,0,none⟩ y).heap.size:=by
 have hba:Below W1.heap.size W1 (w2.alloc ob):=hb2.alloc hb2.size ob
 have hown:∀ k,s.ownBlock=some k→T+1≤k∧k<W1.heap.size:=World.ownsRow.lt hO1
 have hV:=hV1.below hba
 have hxa:VI (w2.alloc ob) W1.heap.size w2.heap.size q x:=hx.same (Same.of_below ((Below.refl w2.heap.size w2).alloc lr ob) lr)
 have hV3:=Vals.snoc (v:=s) (g:=g) hV hxa hT (by simp) (fun k hk=>.inl (hown k hk).2) hg (by rcases hl with h | h;exact .inl h;exact .inr (Nat.le_of_eq h.symm))
 refine⟨ownsRow_setCell_below hO3 (by simp) y,⟨hV3.1,fun j hj=>?_⟩,?_,?_⟩
 · obtain⟨u,lo,hi,h1,h2,h3,h4,h5⟩:=hV3.2 j hj
   exact⟨u,lo,hi,h1,h2.same (fun k a b=>Below.heap_setCell _ _ _ _ (by simp;omega)),h3,by simpa[World.setCell] using h4,h5⟩
 · exact(((hba.mono (B':=T) (by omega)).grown hg (by have:=hb2.size;simp;omega) (fun k hk=>by have:=hown k hk;omega))).setCell lr y
 · have h1:=hg.size
   have h2:=hb2.size
   have h3:(w2.alloc ob).heap.size=w2.heap.size+1:=by simp
   have h4:(w3.setCell ⟨T,0,none⟩ y).heap.size=w3.heap.size:=by simp[World.setCell]
   omega
def MadePost (p:Pt) (w:World) (e:Ending) (w':World):Prop:=∃ u,e=.returned u∧VI w' w.heap.size w'.heap.size p u∧Below w.heap.size w w'
theorem made_end {p:Pt} {w:World} {u:Value} (h:VI w w.heap.size w.heap.size p u) (ob:Obj) (_h1:True) (_h2:True):MadePost p w (.returned u) (w.alloc ob) :=
 ⟨u,rfl,(h.same (fun k a b=>by omega)).wide lr (by simp),zr.alloc lr _⟩
theorem may_kind7 {p:Pt} (h:mayB p=true):p.kind≤7:=by
 have h1:=mayB_ok h
 unfold okOne at h1
 simp only [Bool.and_eq_true,decide_eq_true_eq] at h1
 exact h1.1.1.1.1
theorem own_form {w:World} {base:Nat} {e:TypeId} {v:Value} {n:Nat} {us:List Value} (h:w.ownsRow base e 1 v n us):∃ a cap,v=.slice a n cap:=by
 rcases h.2 with ⟨rfl,rfl⟩ | ⟨g,cap,cur,rfl,_⟩
 · exact⟨none,0,rfl⟩
 · exact⟨_,cap,rfl⟩
theorem vals_tuple {w:World} {base:Nat} {p:Pt} {s:Value} {us:List Value} (h7:p.kind=7) (hO:w.ownsRow base 34 1 s p.items.length us) (hV:Vals w base s.ownBlock p.items us) :
 VI w base w.heap.size p (.iface 118 (.agg #[s])):=by
 have hd:∀ j (h:j<p.items.length),VI w base w.heap.size p.items[j] (us.getD j .nilIface):=fun j hj=>by
  obtain⟨u,lo,hi,h1,h2,h3,h4,_⟩:=hV.2 j hj
  rw[List.getD,h1]
  exact h2.wide h3 h4
 rcases hO.2 with ⟨rfl,hn⟩ | ⟨g,cap,cur,rfl,hg,hgg,hnc,_⟩
 · rw[show Value.slice none 0 0=Value.slice none p.items.length 0 from by rw[hn]]
   exact VI.tuple p h7 none 0 (fun j=>us.getD j .nilIface) (by omega) (fun j hj=>by omega) hd
 · refine VI.tuple p h7 _ cap (fun j=>us.getD j .nilIface) hnc (fun j hj=>⟨g,rfl,hg,(Array.getElem?_eq_some_iff.1 hgg).1,?_⟩) hd
   have hj2:j<us.length:=by rw[hV.1];exact hj
   have:=World.ownsRow.cells hO (g:=g) rfl j (us.getD j .nilIface) (by rw[List.getD,List.getElem?_eq_getElem hj2];rfl)
   have e:(⟨g,0,none⟩:Addr).add j=⟨g,j,none⟩:=by unfold Addr.add;split<;>simp_all
   rw[e] at this
   exact this
theorem made_any (p:Pt):∀ (v:Value) (w:World),mayB p=true→Fit p→PI w 0 w.heap.size p.items v →
 Calls prog 56 #[.agg #[.int .u8 p.kind,.bool p.yes,.bool p.neg,.string p.mag,.string p.raw,v]] w (MadePost p w):=by
 induction p using Pt.ind with
 | h p ih =>
 intro v w hmay hf hp
 obtain⟨a,cap,rfl,_,hat⟩:=hp.open
 by_cases h7:p.kind=7
 · have e0:((p.kind:Int)==0)=false:=beq_eq_false_iff_ne.2 (by omega)
   have e1:((p.kind:Int)==1)=false:=beq_eq_false_iff_ne.2 (by omega)
   have e2:((p.kind:Int)==2)=false:=beq_eq_false_iff_ne.2 (by omega)
   have e7:((p.kind:Int)==7)=true:=beq_iff_eq.2 (by omega)
   have HA:=zh hat
   have IH:=zh ih
   have hlen:=may_len hmay h7
   have HM:=zh hmay
   have H7:=zh h7
   have hl:=hf.l
   clear hat ih hp hmay h7
   go_enter func56,ntmps56
   go_wp2_with fail
   go_loopw [27] (fun i wr=>∃ (k:Nat) (s:Value) (us:List Value),k≤p.items.length∧i=.int .i64 k∧wr.cell? ⟨w.heap.size+1,0,none⟩=some s∧wr.frozen? ⟨w.heap.size+1,0,none⟩=false ∧
    wr.ownsRow (w.heap.size+2) 34 1 s k us∧RowKit.Hid (Vals wr (w.heap.size+2) s.ownBlock (p.items.take k) us)∧Below w.heap.size w wr∧w.heap.size+2≤wr.heap.size) (fun i _=>p.items.length-(intOf i).toNat)
   case atStart=>exact⟨0,.slice none 0 0,[],Nat.zero_le _,rfl,by simp,by simp,World.ownsRow_nil _ _ _ _,Vals.nil _ _ _,(zr.alloc lr _).alloc (by simp) _,by simp⟩
   case round =>
    obtain⟨k,s,us,hkl,rfl,hts,htf,hO,HV,hB,hsz⟩:=hrel
    by_cases hlt:k<p.items.length
    · have q3:decide (k<p.items.length)=true:=by simpa using hlt
      obtain⟨b,off,u,rfl,_,hb,hc,hfit,hpi⟩:=HA.out k hlt
      obtain⟨d0,d1,d2,d3,d4,d5⟩:=hc.same (Same.of_below hB lr) (Nat.zero_le _) hb
      have hmem:p.items[k]∈p.items:=List.getElem_mem _
      have hmq:=zh (mayB_item HM.out hmem)
      obtain⟨q,hq⟩:∃ q,p.items[k]=q:=⟨_,rfl⟩
      rw[hq] at d0 d1 d2 d3 d4 hfit hpi hmem hmq
      have HQ:=zh hq
      clear hq
      obtain⟨a2,cap2,rfl,_,_⟩:=hpi.open
      have hpi2:=zh hpi
      clear hc hpi
      go_wp2_with fail
      obtain⟨W1,hW1⟩:∃ W1,W1=wr.alloc (.cells #[.int .u8 q.kind,.bool q.yes,.bool q.neg,.string q.mag,.string q.raw,.slice a2 q.items.length cap2] 57):=⟨_,rfl⟩
      have hB1:Below wr.heap.size wr W1:=by rw[hW1];exact zr.alloc lr _
      have hO1:W1.ownsRow (w.heap.size+2) 34 1 s k us:=by rw[hW1];exact hO.alloc _
      have hV1:=zh (HV.out.below hB1)
      have t1:W1.cell? ⟨w.heap.size+1,0,none⟩=some s:=keep hB1 (by omega) hts
      have t2:W1.frozen? ⟨w.heap.size+1,0,none⟩=false:=(hB1.frozen (p:=⟨w.heap.size+1,0,none⟩) (by simp;omega)).trans htf
      have x0:W1.cell? ⟨wr.heap.size,0,none⟩=some (.int .u8 q.kind):=by rw[hW1];simp
      have x1:W1.cell? ⟨wr.heap.size,1,none⟩=some (.bool q.yes):=by rw[hW1];simp
      have x2:W1.cell? ⟨wr.heap.size,2,none⟩=some (.bool q.neg):=by rw[hW1];simp
      have x3:W1.cell? ⟨wr.heap.size,3,none⟩=some (.string q.mag):=by rw[hW1];simp
      have x4:W1.cell? ⟨wr.heap.size,4,none⟩=some (.string q.raw):=by rw[hW1];simp
      have x5:W1.cell? ⟨wr.heap.size,5,none⟩=some (.slice a2 q.items.length cap2):=by rw[hW1];simp
      have hBW:Below w.heap.size w W1:=hB.trans (hB1.mono (by omega))
      have hpi3:=zh (show PI W1.drew 0 W1.drew.heap.size q.items (.slice a2 q.items.length cap2) from hpi2.out.later hBW.drew)
      have hWs:w.heap.size+2≤W1.heap.size:=by have:=hB1.size;omega
      have hWa:w.heap.size+1<w.heap.size+2:=by omega
      have hWl:w.heap.size+1<W1.heap.size:=by omega
      rw[← hW1]
      clear hW1 hB1 hB hO HV hts htf d0 d1 d2 d3 d4 d5 hb hpi2
      obtain⟨i0,hi,hz0,hz1,hz2⟩:=info_parts infoV
      by_cases hq0:q.kind=0
      · have HQ0:=zh hq0
        clear hq0
        go_region_law (first
         | (go_simp;go_at_call 56;refine(IH.out q hmem _ _ hmq.out hfit (by exact hpi3.out)).mono ?_;rintro e w2 ⟨x,rfl,hx,hb0⟩;have hb2:=undrew hb0;have hxe:=hx.nilOf HQ0.out;rw[hxe] at hx ⊢;clear hxe;have hx2:=zh hx;have hO2:=own_below hO1 hb2;have s2:=keep hb2 hWl t1;have f2:w2.frozen? ⟨w.heap.size+1,0,none⟩=false:=(hb2.frozen (p:=⟨w.heap.size+1,0,none⟩) hWl).trans t2;have hWm:w.heap.size+1<w2.heap.size:=Nat.lt_of_lt_of_le hWl hb2.size;clear hx)
         | (refine step_append_lies _ rfl (.tmp 32) (.tmp 35) 74 rfl (w.heap.size+2) 34 i0 .nilIface 1 16 underlying74 hi hz0 hz1 hz2 rfl (by decide) s k us (by simp[Act.eval,Act.put]) (hO2.alloc _) ⟨w2.heap.size,0,none⟩ 1 1 [.nilIface] (by simp[Act.eval,Act.put]) rfl (one_cell w2 _ _) (by intro y hy;simp at hy;subst hy;rfl) (by decide) (by unfold maxLen;omega) (by omega) (by simp;omega) _ rfl ?_;intro g cap3 w3 hO3 hg3 hlies hgl;have s3:=own_cell hO2 hg3 hWa s2;have f3:=own_frozen hO2 hg3 hWa hWm f2))
        all_goals
         go_wp2_with fail
         have ST:=made_step _ hO1 hV1.out hx2.out hb2 hg3 hlies hO3 (by omega) (y:=.slice (some ⟨g,0,none⟩) (k+1) cap3)
         have HT:p.items.take (k+1)=p.items.take k++[q]:=by rw[List.take_succ_eq_append_getElem hlt,HQ.out]
         refine⟨⟨k+1,.slice (some ⟨g,0,none⟩) (k+1) cap3,_,by omega,rfl,World.cell?_setCell_same w3 _ _ s3,(World.frozen?_setCell ..).trans f3,ST.1,zh (by rw[HT];exact ST.2.1),hBW.trans (ST.2.2.1.mono (by omega)),by have:=ST.2.2.2;omega⟩,by simp[intOf];omega⟩
      · have HQ0:=zh hq0
        clear hq0
        go_region_law (first
         | (go_simp;go_at_call 56;refine(IH.out q hmem _ _ hmq.out hfit (by exact hpi3.out)).mono ?_;rintro e w2 ⟨x,rfl,hx,hb0⟩;have hb2:=undrew hb0;obtain⟨T0,V0,hxe⟩:=hx.ifaceOf HQ0.out;rw[hxe] at hx ⊢;clear hxe;have hx2:=zh hx;have hO2:=own_below hO1 hb2;have s2:=keep hb2 hWl t1;have f2:w2.frozen? ⟨w.heap.size+1,0,none⟩=false:=(hb2.frozen (p:=⟨w.heap.size+1,0,none⟩) hWl).trans t2;have hWm:w.heap.size+1<w2.heap.size:=Nat.lt_of_lt_of_le hWl hb2.size;clear hx)
         | (refine step_append_lies _ rfl (.tmp 32) (.tmp 35) 74 rfl (w.heap.size+2) 34 i0 .nilIface 1 16 underlying74 hi hz0 hz1 hz2 rfl (by decide) s k us (by simp[Act.eval,Act.put]) (hO2.alloc _) ⟨w2.heap.size,0,none⟩ 1 1 [.iface T0 V0] (by simp[Act.eval,Act.put]) rfl (one_cell w2 _ _) (by intro y hy;simp at hy;subst hy;rfl) (by decide) (by unfold maxLen;omega) (by omega) (by simp;omega) _ rfl ?_;intro g cap3 w3 hO3 hg3 hlies hgl;have s3:=own_cell hO2 hg3 hWa s2;have f3:=own_frozen hO2 hg3 hWa hWm f2))
        all_goals
         go_wp2_with fail
         have ST:=made_step _ hO1 hV1.out hx2.out hb2 hg3 hlies hO3 (by omega) (y:=.slice (some ⟨g,0,none⟩) (k+1) cap3)
         have HT:p.items.take (k+1)=p.items.take k++[q]:=by rw[List.take_succ_eq_append_getElem hlt,HQ.out]
         refine⟨⟨k+1,.slice (some ⟨g,0,none⟩) (k+1) cap3,_,by omega,rfl,World.cell?_setCell_same w3 _ _ s3,(World.frozen?_setCell ..).trans f3,ST.1,zh (by rw[HT];exact ST.2.1),hBW.trans (ST.2.2.1.mono (by omega)),by have:=ST.2.2.2;omega⟩,by simp[intOf];omega⟩
    · have q3:decide (k<p.items.length)=false:=by simpa using hlt
      have hkl2:k=p.items.length:=by omega
      have hT:p.items.take k=p.items:=List.take_of_length_le (by omega)
      rw[hT] at HV
      obtain⟨a9,cap9,hs9⟩:=own_form hO
      have hVI:=zh (vals_tuple H7.out (hkl2▸hO) HV.out)
      rw[hs9] at hts hVI
      rw[hkl2] at hts hVI
      clear hT hO HV hs9
      subst hkl2
      go_wp2_with fail
      go_ret
      exact⟨_,rfl,hVI.out.wide (by omega) lr,hB⟩
 · have hk:=may_kind7 hmay
   have H7:=zh h7
   rcases (show p.kind=0∨p.kind=1∨p.kind=2∨(p.kind≠0∧p.kind≠1∧p.kind≠2∧p.kind≠7) by omega) with h | h | h | ⟨h0,h1,h2,h7⟩
   · have HV:=zh (VI.null (w:=w) (lo:=w.heap.size) (hi:=w.heap.size) p h)
     have e0:((p.kind:Int)==0)=true:=beq_iff_eq.2 (by omega)
     clear h h7 hmay
     go_enter func56,ntmps56
     go_wp2_with fail
     go_ret
     exact made_end HV.out _ (by simp) (by simp)
   · have HV:=zh (VI.truth (w:=w) (lo:=w.heap.size) (hi:=w.heap.size) p h)
     have e0:((p.kind:Int)==0)=false:=beq_eq_false_iff_ne.2 (by omega)
     have e1:((p.kind:Int)==1)=true:=beq_iff_eq.2 (by omega)
     clear h h7 hmay
     go_enter func56,ntmps56
     go_wp2_with fail
     go_ret
     exact made_end HV.out _ (by simp) (by simp)
   · have HV:=zh (VI.whole (w:=w) (lo:=w.heap.size) (hi:=w.heap.size) p h)
     have e0:((p.kind:Int)==0)=false:=beq_eq_false_iff_ne.2 (by omega)
     have e1:((p.kind:Int)==1)=false:=beq_eq_false_iff_ne.2 (by omega)
     have e2:((p.kind:Int)==2)=true:=beq_iff_eq.2 (by omega)
     clear h h7 hmay
     go_enter func56,ntmps56
     go_wp2_with fail
     go_ret
     exact made_end HV.out _ (by simp) (by simp)
   · have HV:=zh (VI.row (w:=w) (lo:=w.heap.size) (hi:=w.heap.size) p h0 h1 h2 h7)
     have e0:((p.kind:Int)==0)=false:=beq_eq_false_iff_ne.2 (by omega)
     have e1:((p.kind:Int)==1)=false:=beq_eq_false_iff_ne.2 (by omega)
     have e2:((p.kind:Int)==2)=false:=beq_eq_false_iff_ne.2 (by omega)
     have e7:((p.kind:Int)==7)=false:=beq_eq_false_iff_ne.2 (by omega)
     clear h0 h1 h2 h7 hmay
     go_enter func56,ntmps56
     go_wp2_with fail
     go_ret
     exact made_end HV.out _ (by simp) (by simp)
structure Box (w:World) (g:Nat) (p:Pt) (v:Value):Prop where
 lt:g<w.heap.size
 cells:PartCells w g 0 p v
theorem Box.new (w:World) (p:Pt) (v:Value) (T:TypeId):Box (w.alloc (.cells #[.int .u8 p.kind,.bool p.yes,.bool p.neg,.string p.mag,.string p.raw,v] T)) w.heap.size p v :=
 ⟨by simp,by constructor<;>simp⟩
theorem Box.later {w w1:World} {g B:Nat} {p:Pt} {v:Value} (h:Box w g p v) (hb:Below B w w1) (hB:g<B):Box w1 g p v :=
 ⟨Nat.lt_of_lt_of_le h.lt hb.size,h.cells.same (Same.of_below hb lr) (Nat.zero_le _) hB⟩
def MakePost (p:Pt) (w:World) (e:Ending) (w':World):Prop:=∃ u,e=.returned (.tuple #[u,.int .i64 (makeE p)])∧(makeE p≠0→u=.nilIface)∧(makeE p=0→VI w' w.heap.size w'.heap.size p u)∧Below w.heap.size w w'
theorem make_any (p:Pt) (v:Value) (w:World) (hf:Fit p) (hp:PI w 0 w.heap.size p.items v) :
 Calls prog 32 #[.agg #[.int .u8 p.kind,.bool p.yes,.bool p.neg,.string p.mag,.string p.raw,v]] w (MakePost p w):=by
 have hp0:=zh hp
 obtain⟨a,cap,rfl,_,_⟩:=hp.open
 have hbx:=zh (Box.new w p (.slice a p.items.length cap) 57)
 clear hp
 go_enter func32,ntmps32
 go_wp2_with fail
 refine(deep_any 16 p _ _ (by omega) hf (hp0.out.later (zr.alloc lr _))).mono ?_
 rintro e w1 ⟨rfl,hb1⟩
 have hB1:Below w.heap.size w w1:=(zr.alloc lr _).trans (hb1.mono (by simp))
 have HX1:=zh (hbx.out.later hb1 (by simp))
 obtain⟨_,⟨c0,c1,c2,c3,c4,c5⟩⟩:=HX1.out
 clear hb1 hbx
 cases hd:deepB 16 p with
 | true =>
  have HM:=zh (show makeE p=91 by simp[makeE,hd])
  clear hd
  go_wp2_with fail
  go_ret2
  exact⟨.nilIface,by rw[HM.out];rfl,fun _=>rfl,(fun h=>by rw[HM.out] at h;cases h),hB1⟩
 | false =>
  have hm0:makeE p=if mayB p then 0 else 90:=by simp[makeE,hd]
  clear hd
  go_wp2_with fail
  refine(may_any p _ _ hf (hp0.out.later hB1)).mono ?_
  rintro e w2 ⟨rfl,hb2⟩
  have hB2:=two hB1 hb2
  have HX2:=zh (HX1.out.later hb2 HX1.out.lt)
  clear c0 c1 c2 c3 c4 c5
  obtain⟨_,⟨c0,c1,c2,c3,c4,c5⟩⟩:=HX2.out
  cases hd:mayB p with
  | true =>
   have HM:=zh (show makeE p=0 by rw[hm0,hd];rfl)
   have HY:=zh hd
   clear hd hm0
   go_wp2_with fail
   refine(made_any p _ _ HY.out hf (hp0.out.later hB2)).mono ?_
   rintro e w3 ⟨u,rfl,hu,hb3⟩
   have HU:=zh hu
   have hz:w.heap.size≤w2.heap.size:=hB2.size
   clear hu
   go_wp2_with fail
   go_ret2
   exact⟨u,by rw[HM.out];rfl,fun h=>absurd HM.out h,fun _=>HU.out.wide hz lr,two hB2 hb3⟩
  | false =>
   have HM:=zh (show makeE p=90 by rw[hm0,hd];rfl)
   clear hd hm0
   go_wp2_with fail
   go_ret2
   exact⟨.nilIface,by rw[HM.out];rfl,fun _=>rfl,(fun h=>by rw[HM.out] at h;cases h),hB2⟩
end V
namespace Lo
def dgV (c:UInt8):Int:=if 48≤c.toNat∧c.toNat≤57 then (c.toNat:Int)-48 else bits .or .u8 (c.toNat:Int) 32-87
def hexV (l:List UInt8):Int:=l.foldl (fun n c=>n*16+dgV c) 0
theorem hexV_snoc (l:List UInt8) (c:UInt8):hexV (l++[c])=hexV l*16+dgV c:=by unfold hexV;rw[List.foldl_append];rfl
theorem hexV_take (l:List UInt8) (k:Nat) (h:k<l.length):hexV (l.take (k+1))=hexV (l.take k)*16+dgV l[k]:=by
 rw[List.take_add_one,List.getElem?_eq_getElem h,Option.toList_some,hexV_snoc]
def sgnV:List UInt8→Int
 | []=>0
 | c::r=>if c=43 then hexV r else if c=45 then-hexV r else hexV (c::r)
def PuPost (M:Int) (bs:List UInt8) (e:Ending):Prop :=
 (∃ a:Int,e=.returned (.tuple #[.int .u64 a,.nilIface])∧0≤a∧a≤M∧a=hexV bs) ∨
 ∃ a k:Int,e=.returned (.tuple #[.int .u64 a,.iface 275 (.int .i64 k)])∧((k=1∧a=M)∨(k=2∧a=0))
theorem PuPost.ok {M a:Int} {bs:List UInt8} (h0:0≤a) (h1:a≤M) (h:a=hexV bs):PuPost M bs (.returned (.tuple #[.int .u64 a,.nilIface])):=.inl ⟨a,rfl,h0,h1,h⟩
theorem PuPost.far {M:Int} {bs:List UInt8}:PuPost M bs (.returned (.tuple #[.int .u64 M,.iface 275 (.int .i64 1)])):=.inr ⟨M,1,rfl,.inl ⟨rfl,rfl⟩⟩
theorem PuPost.bad {M:Int} {bs:List UInt8}:PuPost M bs (.returned (.tuple #[.int .u64 0,.iface 275 (.int .i64 2)])):=.inr ⟨0,2,rfl,.inr ⟨rfl,rfl⟩⟩
def NumPost (k:IntKind) (ok:Int→Prop) (e:Ending):Prop :=
 (∃ a:Int,e=.returned (.tuple #[.int k a,.nilIface])∧D.isI64 a∧ok a)∨∃ (a:Int) (T:TypeId) (V:Value),e=.returned (.tuple #[.int k a,.iface T V])∧D.isI64 a
