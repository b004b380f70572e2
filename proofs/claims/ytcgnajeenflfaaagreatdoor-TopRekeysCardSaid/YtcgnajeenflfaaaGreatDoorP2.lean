import Derived.BigQuiet
import Derived.Laws.AppendOwnNone
import Derived.Maps.OwnIn
import Derived.RowKitTokens
import Derived.Shelf.Small.Utf8
import Derived.Shelf.Small.Wraps
import Derived.Shelf.Strconv.AtoiAll
import Derived.Shelf.Strconv.Itoa3
import Derived.Shelf.Strings.Cut
import Derived.Shelf.Strings.OnBuilder
import Derived.Shelf.Strings.SlTrimAscii
import Derived.Shelf.Strings.Split
import Derived.Stop.Asserts
import Derived.Test.YtcgnajeenflfaaaGreatDoorRows
import Derived.WalkLawsBesides
import Derived.WalkSpells
import Derived.Test.YtcgnajeenflfaaaGreatDoorP1
set_option maxRecDepth 100000
set_option maxHeartbeats 4000000
set_option linter.all false
open Go.Proofs.Tryz Go.RowKit
namespace Go.Proofs.YtcgnajeenflfaaaGreatDoor
namespace V
theorem two {W a b:World} (h:Below W.heap.size W a) (k:Below a.heap.size a b):Below W.heap.size W b:=h.trans (k.mono h.size)
theorem keep {W w1:World} {B:Nat} (hb:Below B W w1) {b o:Nat} {v:Value} (hB:b<B) (h:W.cell? ⟨b,o,none⟩=some v):w1.cell? ⟨b,o,none⟩=some v:=(hb.cell hB).trans h
theorem keeps {W w1:World} (hb:Below W.heap.size W w1) {p:Addr} {v:Value} (h:W.cell? p=some v):w1.cell? p=some v:=(hb.cell (World.block_lt_of_cell? W p h)).trans h
theorem aD (s:ByteArray):s.toList.length=s.size:=by rw[Lib.toList_data,Lib.size_eq]
def Same (lo hi:Nat) (w w':World):Prop:=∀ k,lo≤k→k<hi→w'.heap[k]?=w.heap[k]?
theorem Same.of_below {B lo hi:Nat} {w w':World} (h:Below B w w') (hB:hi≤B):Same lo hi w w':=fun k _ hk=>h.block k (by omega)
theorem Same.mono {lo hi lo' hi':Nat} {w w':World} (h:Same lo hi w w') (h1:lo≤lo') (h2:hi'≤hi):Same lo' hi' w w':=fun k a b=>h k (by omega) (by omega)
theorem Same.trans {lo hi:Nat} {a b c:World} (h:Same lo hi a b) (k:Same lo hi b c):Same lo hi a c:=fun i h1 h2=>(k i h1 h2).trans (h i h1 h2)
theorem Same.refl (lo hi:Nat) (w:World):Same lo hi w w:=fun _ _ _=>rfl
theorem Same.cell {lo hi b o:Nat} {w w':World} {v:Value} (h:Same lo hi w w') (h1:lo≤b) (h2:b<hi) (hc:w.cell? ⟨b,o,none⟩=some v):w'.cell? ⟨b,o,none⟩=some v :=
 (World.cell?_of_block (w:=w) (h b h1 h2)).trans hc
structure Fit (p:Pt):Prop where
 k:p.kind<256
 m:p.mag.size≤140737488351232
 r:p.raw.size≤140737488351232
 l:p.items.length≤140737488351232
def cellsOf (p:Pt) (v:Value):Array Value:=#[.int .u8 p.kind,.bool p.yes,.bool p.neg,.string p.mag,.string p.raw,v]
structure bY (w:World) (b o:Nat) (p:Pt) (v:Value):Prop where
 c0:w.cell? ⟨b,o,none⟩=some (.int .u8 p.kind)
 c1:w.cell? ⟨b,o+1,none⟩=some (.bool p.yes)
 c2:w.cell? ⟨b,o+2,none⟩=some (.bool p.neg)
 c3:w.cell? ⟨b,o+3,none⟩=some (.string p.mag)
 c4:w.cell? ⟨b,o+4,none⟩=some (.string p.raw)
 c5:w.cell? ⟨b,o+5,none⟩=some v
theorem bY.same {lo hi b o:Nat} {w w':World} {p:Pt} {v:Value} (h:bY w b o p v) (hs:Same lo hi w w') (h1:lo≤b) (h2:b<hi):bY w' b o p v :=
 ⟨hs.cell h1 h2 h.c0,hs.cell h1 h2 h.c1,hs.cell h1 h2 h.c2,hs.cell h1 h2 h.c3,hs.cell h1 h2 h.c4,hs.cell h1 h2 h.c5⟩
inductive PI (w:World) (lo hi:Nat):List Pt→Value→Prop
 | mk (l:List Pt) (a:Option Addr) (cap:Nat) (F:Nat→Value) (hc:l.length≤cap)
  (cells:∀ j (h:j<l.length),∃ b off,a=some ⟨b,off,none⟩∧lo≤b∧b<hi∧bY w b (off+j*6) l[j] (F j))
  (fits:∀ j (h:j<l.length),Fit l[j]) (deep:∀ j (h:j<l.length),PI w lo hi l[j].items (F j)):PI w lo hi l (.slice a l.length cap)
theorem PI.same {lo hi:Nat} {w w':World} {l:List Pt} {v:Value} (h:PI w lo hi l v) (hs:Same lo hi w w'):PI w' lo hi l v:=by
 induction h with
 | mk l a cap F hc cells fits deep ih =>
  exact .mk l a cap F hc (fun j hj=>by
   obtain⟨b,off,ha,h1,h2,h3⟩:=cells j hj;exact⟨b,off,ha,h1,h2,h3.same hs h1 h2⟩) fits ih
theorem PI.wide {lo hi lo' hi':Nat} {w:World} {l:List Pt} {v:Value} (h:PI w lo hi l v) (h1:lo'≤lo) (h2:hi≤hi'):PI w lo' hi' l v:=by
 induction h with
 | mk l a cap F hc cells fits deep ih =>
  exact .mk l a cap F hc (fun j hj=>by
   obtain⟨b,off,ha,h3,h4,h5⟩:=cells j hj;exact⟨b,off,ha,by omega,by omega,h5⟩) fits ih
theorem PI.nil (w:World) (lo hi:Nat):PI w lo hi [] (.slice none 0 0):=.mk [] none 0 (fun _=>.slice none 0 0) lr (fun j h=>by cases h) (fun j h=>by cases h) (fun j h=>by cases h)
theorem PI.open {lo hi:Nat} {w:World} {l:List Pt} {v:Value} (h:PI w lo hi l v):∃ (a:Option Addr) (cap:Nat),v=.slice a l.length cap∧l.length≤cap ∧
 ∀ j (h:j<l.length),∃ b off u,a=some ⟨b,off,none⟩∧lo≤b∧b<hi∧bY w b (off+j*6) l[j] u∧Fit l[j]∧PI w lo hi l[j].items u:=by
 cases h with
 | mk _ a cap F hc cells fits deep =>
  refine⟨a,cap,rfl,hc,fun j hj=>?_⟩;obtain⟨b,off,ha,h1,h2,h3⟩:=cells j hj;exact⟨b,off,F j,ha,h1,h2,h3,fits j hj,deep j hj⟩
inductive VI (w:World) (lo hi:Nat):Pt→Value→Prop
 | null (p:Pt) (h:p.kind=0):VI w lo hi p .nilIface
 | truth (p:Pt) (h:p.kind=1):VI w lo hi p (.iface 148 (.agg #[.bool p.yes]))
 | whole (p:Pt) (h:p.kind=2):VI w lo hi p (.iface 220 (.agg #[.bool p.neg,.string p.mag]))
 | row (p:Pt) (h0:p.kind≠0) (h1:p.kind≠1) (h2:p.kind≠2) (h7:p.kind≠7):VI w lo hi p (.iface 222 (.agg #[.int .u8 p.kind,.string p.raw]))
 | tuple (p:Pt) (h:p.kind=7) (a:Option Addr) (cap:Nat) (F:Nat→Value) (hc:p.items.length≤cap)
  (cells:∀ j,j<p.items.length→∃ g,a=some ⟨g,0,none⟩∧lo≤g∧g<hi∧w.cell? ⟨g,j,none⟩=some (F j))
  (deep:∀ j (h:j<p.items.length),VI w lo hi p.items[j] (F j)):VI w lo hi p (.iface 118 (.agg #[.slice a p.items.length cap]))
theorem VI.same {lo hi:Nat} {w w':World} {p:Pt} {v:Value} (h:VI w lo hi p v) (hs:Same lo hi w w'):VI w' lo hi p v:=by
 induction h with
 | null p h=>exact .null p h
 | truth p h=>exact .truth p h
 | whole p h=>exact .whole p h
 | row p h0 h1 h2 h7=>exact .row p h0 h1 h2 h7
 | tuple p h a cap F hc cells deep ih =>
  exact .tuple p h a cap F hc (fun j hj=>by
   obtain⟨g,ha,h1,h2,h3⟩:=cells j hj;exact⟨g,ha,h1,h2,hs.cell h1 h2 h3⟩) ih
theorem VI.wide {lo hi lo' hi':Nat} {w:World} {p:Pt} {v:Value} (h:VI w lo hi p v) (h1:lo'≤lo) (h2:hi≤hi'):VI w lo' hi' p v:=by
 induction h with
 | null p h=>exact .null p h
 | truth p h=>exact .truth p h
 | whole p h=>exact .whole p h
 | row p h0 h1 h2 h7=>exact .row p h0 h1 h2 h7
 | tuple p h a cap F hc cells deep ih =>
  exact .tuple p h a cap F hc (fun j hj=>by
   obtain⟨g,ha,h3,h4,h5⟩:=cells j hj;exact⟨g,ha,by omega,by omega,h5⟩) ih
end V
end Go.Proofs.YtcgnajeenflfaaaGreatDoor
namespace Go.Proofs
open Go.Shelf
def Tryz.lays160_ren:Go.Shelf.Ren:=⟨fun | 160=>104 | 232=>130 | 231=>129 | 227=>131 | 234=>133 | 233=>132 | 236=>135 | 235=>134 | 228=>174 | 271=>176 | 151=>175 | 197=>152 | 120=>205 | 152=>204 | 260=>181 | 137=>228 | 119=>229 | 224=>184 | 225=>183 | 217=>182 | 266=>210 | n=>n,fun | 9=>9 | 4=>4 | 3=>3 | 5=>5 | 117=>267 | 116=>266 | 0=>0 | 124=>270 | 21=>21 | 105=>272 | 46=>252 | 119=>340 | 139=>343 | 138=>342 | n=>n,fun | 3=>5 | 4=>6 | n=>n⟩
theorem Tryz.lays160:Go.Proofs.Lays.n160 prog Tryz.lays160_ren:={
 mixed:=by kernel_rfl
 f119:=func229.trans (congrArg some (by kernel_rfl))
 f120:=func205.trans (congrArg some (by kernel_rfl))
 f137:=func228.trans (congrArg some (by kernel_rfl))
 f151:=func175.trans (congrArg some (by kernel_rfl))
 f152:=func204.trans (congrArg some (by kernel_rfl))
 f160:=func104.trans (congrArg some (by kernel_rfl))
 f197:=func152.trans (congrArg some (by kernel_rfl))
 f217:=func182.trans (congrArg some (by kernel_rfl))
 f224:=func184.trans (congrArg some (by kernel_rfl))
 f225:=func183.trans (congrArg some (by kernel_rfl))
 f227:=func131.trans (congrArg some (by kernel_rfl))
 f228:=func174.trans (congrArg some (by kernel_rfl))
 f231:=func129.trans (congrArg some (by kernel_rfl))
 f232:=func130.trans (congrArg some (by kernel_rfl))
 f233:=func132.trans (congrArg some (by kernel_rfl))
 f234:=func133.trans (congrArg some (by kernel_rfl))
 f235:=func134.trans (congrArg some (by kernel_rfl))
 f236:=func135.trans (congrArg some (by kernel_rfl))
 f260:=func181.trans (congrArg some (by kernel_rfl))
 f266:=func210.trans (congrArg some (by kernel_rfl))
 f271:=func176.trans (congrArg some (by kernel_rfl))
 t0:=underlying0
 a0:=Tryz.isAgg0
 z0:=Tryz.sizeOf0
 v0:=Tryz.zeroValue0
 t3:=underlying3
 a3:=Tryz.isAgg3
 z3:=Tryz.sizeOf3
 v3:=Tryz.zeroValue3
 t4:=underlying4
 a4:=Tryz.isAgg4
 z4:=Tryz.sizeOf4
 v4:=Tryz.zeroValue4
 t5:=underlying5
 a5:=Tryz.isAgg5
 z5:=Tryz.sizeOf5
 v5:=Tryz.zeroValue5
 t9:=underlying9
 a9:=Tryz.isAgg9
 z9:=Tryz.sizeOf9
 v9:=Tryz.zeroValue9
 t21:=underlying21
 a21:=Tryz.isAgg21
 z21:=Tryz.sizeOf21
 v21:=Tryz.zeroValue21
 t46:=underlying252
 a46:=Tryz.isAgg252
 z46:=Tryz.sizeOf252
 v46:=Tryz.zeroValue252
 t105:=underlying272
 a105:=Tryz.isAgg272
 z105:=Tryz.sizeOf272
 v105:=Tryz.zeroValue272
 t116:=underlying266
 a116:=Tryz.isAgg266
 z116:=Tryz.sizeOf266
 t117:=underlying267
 a117:=Tryz.isAgg267
 z117:=Tryz.sizeOf267
 v117:=Tryz.zeroValue267
 t119:=underlying340
 a119:=Tryz.isAgg340
 z119:=Tryz.sizeOf340
 t124:=underlying270
 a124:=Tryz.isAgg270
 z124:=Tryz.sizeOf270
 v124:=Tryz.zeroValue270
 t138:=underlying342
 a138:=Tryz.isAgg342
 z138:=Tryz.sizeOf342
 v138:=Tryz.zeroValue342
 t139:=underlying343
 a139:=Tryz.isAgg343
 z139:=Tryz.sizeOf343
 v139:=Tryz.zeroValue343
 g3:=by kernel_rfl
 g4:=by kernel_rfl }
end Go.Proofs
namespace Go.Proofs.YtcgnajeenflfaaaGreatDoor
section
open Go.Extern.Stop Go.Stop Go.Extern
theorem As.tL (t:Addr) (w:World):(ReflectliteValue.unpack (.iface 114 (.pointer (some t)))).run prog w
 = .ok (.agg #[.pointer (some ⟨11,114,none⟩),.pointer (some ⟨w.heap.size,0,none⟩),.int .u64 150]) (w.alloc (.cells #[.pointer (some t)] 114)):=by kernel_rfl
theorem As.aGy (a:Addr) (w:World):(ReflectliteValue.methodAny (ReflectliteValue.valueError "reflectlite.Value.Type" 0) (fun t _ _ _=>ReflectliteType.toType t) #[.agg #[.pointer (some ⟨11,114,none⟩),.pointer (some a),.int .u64 150]]).run prog w
 = .ok (.iface 197 (.agg #[.pointer (some ⟨11,114,none⟩)])) w:=by kernel_rfl
theorem As.vH (h:Value) (w:World):(Go.method 512 197 (.agg #[h]) "Kind").run prog w=.ok (268,h) w:=by kernel_rfl
theorem As.aGz (w:World):((ReflectliteType.abiMethod fun t=>(fun a:Nat=>Value.int IntKind.u8 (a:Int)) <$> Rtype.kind t) #[.pointer (some ⟨11,114,none⟩)]).run prog w=.ok (.int .u8 22) w:=by kernel_rfl
theorem As.aHa (w:World):((ReflectliteType.abiMethod fun t=>(fun a:Nat=>Value.int IntKind.u8 (a:Int)) <$> Rtype.kind t) #[.pointer (some ⟨11,39,none⟩)]).run prog w=.ok (.int .u8 22) w:=by kernel_rfl
theorem rlm (z:Sem Value) (f:TypeId→Addr→Nat→Nat→Sem Value) (v:Value) :
 ReflectliteValue.method z f #[v]=(do match ← ReflectliteValue.parts v with | none=>z | some (t,a,fl)=>f t a fl (fl % 32)):=rfl
theorem As.wT (a:Addr) (w:World):(ReflectliteValue.parts (.agg #[.pointer (some ⟨11,114,none⟩),.pointer (some a),.int .u64 150])).run prog w=.ok (some (114,a,150)) w:=by kernel_rfl
theorem As.aAx (a p:Addr) (W:World) (ha:W.cell? a=some (.pointer (some p))) :
 (ReflectliteValue.method (ReflectliteValue.valueError "reflectlite.Value.IsNil" 0) ReflectliteValue.isNil #[.agg #[.pointer (some ⟨11,114,none⟩),.pointer (some a),.int .u64 150]]).run prog W=.ok (.bool false) W:=by
 rw[rlm];simp only [Sem.run_bind,As.wT,Result.andThen];simp[ReflectliteValue.isNil,loadVar,isAgg,underlying,underlying114,ha,Result.andThen]
theorem As.vI (h:Value) (w:World):(Go.method 512 197 (.agg #[h]) "Elem").run prog w=.ok (291,.agg #[h]) w:=by kernel_rfl
theorem As.kJ (h:Value) (w:World):(Go.method 512 197 (.agg #[h]) "Implements").run prog w=.ok (292,.agg #[h]) w:=by kernel_rfl
theorem As.iX (h:Value) (w:World):(Go.method 512 197 (.agg #[h]) "AssignableTo").run prog w=.ok (289,.agg #[h]) w:=by kernel_rfl
theorem As.aHb (w:World):(ReflectliteType.method ReflectliteType.elem #[.agg #[.pointer (some ⟨11,114,none⟩)]]).run prog w=.ok (.iface 197 (.agg #[.pointer (some ⟨11,39,none⟩)])) w:=by kernel_rfl
theorem As.lU (w:World):(ReflectliteType.relation "Implements" ReflectliteType.implements_ #[.agg #[.pointer (some ⟨11,39,none⟩)],.iface 197 (.agg #[.pointer (some ⟨11,36,none⟩)])]).run prog w=.ok (.bool true) w:=by kernel_rfl
theorem As.aBv (v:Value) (w:World):(ReflectliteType.typeOf #[.iface 39 v]).run prog w=.ok (.iface 197 (.agg #[.pointer (some ⟨11,39,none⟩)])) w:=by kernel_rfl
theorem As.qF (w:World):(ReflectliteType.relation "AssignableTo" ReflectliteType.assignableTo #[.agg #[.pointer (some ⟨11,39,none⟩)],.iface 197 (.agg #[.pointer (some ⟨11,39,none⟩)])]).run prog w=.ok (.bool true) w:=by kernel_rfl
theorem As.yV (e:Addr) (w:World):(ReflectliteValue.unpack (.iface 39 (.pointer (some e)))).run prog w
 = .ok (.agg #[.pointer (some ⟨11,39,none⟩),.pointer (some ⟨w.heap.size,0,none⟩),.int .u64 150]) (w.alloc (.cells #[.pointer (some e)] 39)):=by kernel_rfl
theorem As.aBw (w:World):(Rtype.elem? 114).run prog w=.ok (some 39) w:=by kernel_rfl
theorem As.bGl (p:Addr) (w:World):(ReflectliteValue.mk 39 p ReflectliteValue.flagAddr).run prog w=.ok (.agg #[.pointer (some ⟨11,39,none⟩),.pointer (some p),.int .u64 406]) w:=by kernel_rfl
theorem As.aHc (a p:Addr) (W:World) (ha:W.cell? a=some (.pointer (some p))) :
 (ReflectliteValue.method (ReflectliteValue.valueError "reflectlite.Value.Elem" 0) ReflectliteValue.elem #[.agg #[.pointer (some ⟨11,114,none⟩),.pointer (some a),.int .u64 150]]).run prog W
  = .ok (.agg #[.pointer (some ⟨11,39,none⟩),.pointer (some p),.int .u64 406]) W:=by
 rw[rlm];simp only [Sem.run_bind,As.wT,Result.andThen];simp[ReflectliteValue.elem,loadVar,isAgg,underlying,underlying114,ha,Result.andThen,As.aBw,As.bGl]
theorem rls (v x:Value):ReflectliteValue.set #[v,x]=(do
 let (some (dst,a,fl),some (src,b,_)):=(← ReflectliteValue.parts v,← ReflectliteValue.parts x)
  | unsupported (.noEntry "extern/(internal/reflectlite.Value).Set.zeroValue")
 if fl / ReflectliteValue.flagAddr % 2==0 then unsupported (.noEntry "extern/(internal/reflectlite.Value).Set.unaddressable")
 let val ← loadVar src b
 if ← Rtype.directlyAssignable dst src then storeVar dst a val
 else if ← Rtype.implements dst src then
  if (← Rtype.kind src)==20 then
   match val with
   | .nilIface=>unsupported (.noEntry "extern/reflectlite: a nil value of one interface type handed on as a value of another")
   | _=>storeVar dst a val
  else storeVar dst a (.iface src val)
 else panicString ("reflectlite.Set: value of type " ++ (← Rtype.spelt src) ++ " is not assignable to type " ++ (← Rtype.spelt dst))
 pure (.tuple #[])):=rfl
theorem As.aBx (a:Addr) (w:World):(ReflectliteValue.parts (.agg #[.pointer (some ⟨11,39,none⟩),.pointer (some a),.int .u64 406])).run prog w=.ok (some (39,a,406)) w:=by kernel_rfl
theorem As.aHd (a:Addr) (w:World):(ReflectliteValue.parts (.agg #[.pointer (some ⟨11,39,none⟩),.pointer (some a),.int .u64 150])).run prog w=.ok (some (39,a,150)) w:=by kernel_rfl
theorem As.aBy (w:World):(Rtype.directlyAssignable 39 39).run prog w=.ok true w:=by kernel_rfl
theorem As.aYa (ta b e:Addr) (old:Value) (W:World) (hb:W.cell? b=some (.pointer (some e))) (ht:W.cell? ta=some old) (hf:W.frozen? ta=false) :
 (ReflectliteValue.set #[.agg #[.pointer (some ⟨11,39,none⟩),.pointer (some ta),.int .u64 406],.agg #[.pointer (some ⟨11,39,none⟩),.pointer (some b),.int .u64 150]]).run prog W
  = .ok (.tuple #[]) (W.setCell ta (.pointer (some e))):=by
 rw[rls];simp only [Sem.run_bind,As.aBx,As.aHd,Result.andThen];simp[ReflectliteValue.flagAddr,loadVar,isAgg,underlying,underlying39,hb,Result.andThen,As.aBy,storeVar,Value.cells,storeCells,Addr.add];rw[run_store prog W ta _ _ (by rfl)];simp[ht,hf]
theorem bGm (e t:Addr) (old:Value) (w:World) (hg:w.cell? ⟨1,0,none⟩=some (.iface 197 (.agg #[.pointer (some ⟨11,36,none⟩)]))) (ht0:w.cell? t=some old) (hf0:w.frozen? t=false) :
 Calls prog 42 #[.iface 39 (.pointer (some e)),.iface 114 (.pointer (some t))] w fun ev w'=>ev=.returned (.bool true)∧w'=((((w.alloc (.cells #[.pointer (some t)] 114)).alloc (.cells #[.pointer (some ⟨11,114,none⟩),.pointer (some ⟨w.heap.size,0,none⟩),.int .u64 150] 189)).alloc (.cells #[.pointer (some ⟨11,114,none⟩),.pointer (some ⟨w.heap.size,0,none⟩),.int .u64 150] 189)).alloc (.cells #[.pointer (some e)] 39)).setCell t (.pointer (some e)):=by
 have h6:=@run_callFunc_extern prog 71 _ (fun args=>ReflectliteValue.unpack (args.getD 0 (.tuple #[]))) func71 (by kernel_rfl) (by kernel_rfl) (by kernel_rfl) (by kernel_rfl);have h7:=@run_callFunc_extern prog 72 _ (ReflectliteValue.methodAny (ReflectliteValue.valueError "reflectlite.Value.Type" 0) (fun t _ _ _=>ReflectliteType.toType t)) func72 (by kernel_rfl) (by kernel_rfl) (by kernel_rfl) (by kernel_rfl);have h8:=@run_callFunc_extern prog 73 _ (ReflectliteValue.method (ReflectliteValue.valueError "reflectlite.Value.IsNil" 0) ReflectliteValue.isNil) func73 (by kernel_rfl) (by kernel_rfl) (by kernel_rfl) (by kernel_rfl);have h27:=@run_callFunc_extern prog 268 _ (ReflectliteType.abiMethod fun t=>do pure (.int .u8 (← Rtype.kind t))) func268 (by kernel_rfl) (by kernel_rfl) (by kernel_rfl) (by kernel_rfl);have h37:=@run_callFunc_extern prog 291 _ (ReflectliteType.method ReflectliteType.elem) func291 (by kernel_rfl) (by kernel_rfl) (by kernel_rfl) (by kernel_rfl);have h38:=@run_callFunc_extern prog 292 _ (ReflectliteType.relation "Implements" ReflectliteType.implements_) func292 (by kernel_rfl) (by kernel_rfl) (by kernel_rfl) (by kernel_rfl);have h10:=@run_callFunc_extern prog 45 _ ReflectliteType.typeOf func45 (by kernel_rfl) (by kernel_rfl) (by kernel_rfl) (by kernel_rfl);have h35:=@run_callFunc_extern prog 289 _ (ReflectliteType.relation "AssignableTo" ReflectliteType.assignableTo) func289 (by kernel_rfl) (by kernel_rfl) (by kernel_rfl) (by kernel_rfl)
 have h11:=@run_callFunc_extern prog 99 _ (ReflectliteValue.method (ReflectliteValue.valueError "reflectlite.Value.Elem" 0) ReflectliteValue.elem) func99 (by kernel_rfl) (by kernel_rfl) (by kernel_rfl) (by kernel_rfl);have h12:=@run_callFunc_extern prog 100 _ ReflectliteValue.set func100 (by kernel_rfl) (by kernel_rfl) (by kernel_rfl) (by kernel_rfl);have tO:=As.aBv;have mA:=As.iX;have a25:=As.qF;have v25:=As.yV;have f6:=As.tL;have f7:=As.aGy;have mK:=As.vH;have mE:=As.vI;have mI:=As.kJ;have k27:=As.aGz;have k25:=As.aHa;have e27:=As.aHb;have i25:=As.lU;have n8:=As.aAx ⟨w.heap.size,0,none⟩ t ((w.alloc (.cells #[.pointer (some t)] 114)).alloc (.cells #[.pointer (some ⟨11,114,none⟩),.pointer (some ⟨w.heap.size,0,none⟩),.int .u64 150] 189)) (by simp);have hlt:1<w.heap.size:=World.block_lt_of_cell? w _ hg;have hg2:((w.alloc (.cells #[.pointer (some t)] 114)).alloc (.cells #[.pointer (some ⟨11,114,none⟩),.pointer (some ⟨w.heap.size,0,none⟩),.int .u64 150] 189)).cell? ⟨1,0,none⟩=some (.iface 197 (.agg #[.pointer (some ⟨11,36,none⟩)])):=by
  rw[World.cell?_alloc_lt _ _ ⟨1,0,none⟩ (by simp;omega),World.cell?_alloc_lt _ _ ⟨1,0,none⟩ hlt];exact hg
 have htl:t.block<w.heap.size:=by
  rcases Nat.lt_or_ge t.block w.heap.size with h | h
  · exact h
  · simp[World.cell?,Array.getElem?_eq_none h] at ht0
 have el:=As.aHc ⟨w.heap.size,0,none⟩ t (((w.alloc (.cells #[.pointer (some t)] 114)).alloc (.cells #[.pointer (some ⟨11,114,none⟩),.pointer (some ⟨w.heap.size,0,none⟩),.int .u64 150] 189)).alloc (.cells #[.pointer (some ⟨11,114,none⟩),.pointer (some ⟨w.heap.size,0,none⟩),.int .u64 150] 189)) (by rw[World.cell?_alloc_lt _ _ ⟨w.heap.size,0,none⟩ (by simp;omega)];simp);have st:=As.aYa t ⟨w.heap.size+1+1+1,0,none⟩ e old ((((w.alloc (.cells #[.pointer (some t)] 114)).alloc (.cells #[.pointer (some ⟨11,114,none⟩),.pointer (some ⟨w.heap.size,0,none⟩),.int .u64 150] 189)).alloc (.cells #[.pointer (some ⟨11,114,none⟩),.pointer (some ⟨w.heap.size,0,none⟩),.int .u64 150] 189)).alloc (.cells #[.pointer (some e)] 39))
  (by rw[World.cell?_alloc_at _ _ _ _ (by simp)];rfl)
  (by rw[World.cell?_alloc_lt _ _ t (by simp;omega),World.cell?_alloc_lt _ _ t (by simp;omega),World.cell?_alloc_lt _ _ t (by simp;omega),World.cell?_alloc_lt _ _ t htl];exact ht0)
  (by rw[World.frozen?_alloc_old _ _ t (by simp;omega),World.frozen?_alloc_old _ _ t (by simp;omega),World.frozen?_alloc_old _ _ t (by simp;omega),World.frozen?_alloc_old _ _ t (Nat.ne_of_lt htl)];exact hf0)
 go_enter func42,ntmps42;go_wp2
 refine wp_loop_rounds 1 ?_;rw[rounds_succ];go_wp2
 go_ret;exact⟨rfl,rfl⟩
end
section
def nv (l:List Int):List Value:=l.map (Value.int .i64)
theorem dA (l:List Int):(nv l).length=l.length:=by simp[nv]
theorem fP (l m:List Int):nv l++nv m=nv (l++m):=by simp[nv]
theorem rG (l:List Int):∀ u∈nv l,u.oneCell'=true:=by
 intro u hu;simp only [nv,List.mem_map] at hu;obtain⟨c,_,rfl⟩:=hu;rfl
def aJ (w:World) (base:Nat) (v:Value) (l:List Int):Prop:=w.ownsRow base 3 1 v l.length (nv l)
theorem aJ.nil (w:World) (base:Nat):aJ w base (.slice none 0 0) []:=World.ownsRow_nil w base 3 1
theorem aJ.below {w w':World} {base:Nat} {v:Value} {l:List Int} (h:aJ w base v l) (hb:Below w.heap.size w w'):aJ w' base v l:=by
 refine⟨h.1,?_⟩;rcases h.2 with hn | ⟨g,cap,cur,rfl,hg,hgg,rest⟩
 · exact .inl hn
 · exact .inr ⟨g,cap,cur,rfl,hg,(hb.block g (Array.getElem?_eq_some_iff.1 hgg).1).trans hgg,rest⟩
theorem aJ.low {w:World} {base base':Nat} {v:Value} {l:List Int} (h:aJ w base v l) (hb:base'≤base):aJ w base' v l:=by
 refine⟨h.1,?_⟩;rcases h.2 with hn | ⟨g,cap,cur,rfl,hg,hgg,rest⟩
 · exact .inl hn
 · exact .inr ⟨g,cap,cur,rfl,by omega,hgg,rest⟩
theorem aP {w:World} {base:Nat} {e:TypeId} {size:Nat} {v:Value} {n:Nat} {xs:List Value} (h:w.ownsRow base e size v n xs):∃ a cap,v=.slice a n cap:=by
 rcases h.2 with ⟨rfl,rfl⟩ | ⟨g,cap,_,rfl,_⟩
 · exact⟨_,_,rfl⟩
 · exact⟨_,_,rfl⟩
theorem bEw {n:Nat} (h:n≤1099511627776):n≤maxLen:=Nat.le_trans h (by decide)
def IntsIn (w:World) (lo hi:Nat) (v:Value) (l:List Int):Prop :=
 ∃ (a:Option Addr) (cap:Nat),v=.slice a l.length cap∧l.length≤cap∧(a=none→cap=0) ∧
  ∀ j (h:j<l.length),∃ g off,a=some ⟨g,off,none⟩∧lo≤g∧g<hi∧w.cell? ⟨g,off+j,none⟩=some (.int .i64 l[j])
theorem IntsIn.nil (w:World) (lo hi:Nat):IntsIn w lo hi (.slice none 0 0) []:=⟨none,0,rfl,Nat.le_refl _,fun _=>rfl,fun j h=>by cases h⟩
theorem IntsIn.wide {w:World} {lo hi lo' hi':Nat} {v:Value} {l:List Int} (h:IntsIn w lo hi v l) (h1:lo'≤lo) (h2:hi≤hi'):IntsIn w lo' hi' v l:=by
 obtain⟨a,cap,rfl,hc,hn,hcells⟩:=h;exact⟨a,cap,rfl,hc,hn,fun j hj=>by obtain⟨g,off,ha,h3,h4,h5⟩:=hcells j hj;exact⟨g,off,ha,by omega,by omega,h5⟩⟩
theorem IntsIn.later {w w':World} {lo hi:Nat} {v:Value} {l:List Int} (h:IntsIn w lo hi v l) (hb:Below hi w w'):IntsIn w' lo hi v l:=by
 obtain⟨a,cap,rfl,hc,hn,hcells⟩:=h;exact⟨a,cap,rfl,hc,hn,fun j hj=>by obtain⟨g,off,ha,h3,h4,h5⟩:=hcells j hj;exact⟨g,off,ha,h3,h4,(hb.cell (p:=⟨g,off+j,none⟩) h4).trans h5⟩⟩
theorem aJ.reads {w:World} {base:Nat} {v:Value} {l:List Int} (h:aJ w base v l):IntsIn w base w.heap.size v l:=by
 rcases h.2 with ⟨rfl,hn⟩ | ⟨g,cap,cur,rfl,hg,hgg,h1,h2,h3,h4⟩
 · obtain rfl:l=[]:=List.eq_nil_of_length_eq_zero hn;exact IntsIn.nil ..
 · refine⟨_,cap,rfl,h1,fun h=>by(cases h),fun j hj=>⟨g,0,rfl,hg,(Array.getElem?_eq_some_iff.1 hgg).1,?_⟩⟩;have h5:cur[j]?=some (.int .i64 l[j]):=by
    have h6:=congrArg (·[j]?) h4;simp only [Nat.mul_one,nv,List.getElem?_map,List.getElem?_eq_getElem hj,Option.map_some] at h6;rw[List.getElem?_take_of_lt hj] at h6;simpa using h6
   simp[World.cell?,hgg,h5]
theorem aJ.alloc {w:World} {base:Nat} {v:Value} {l:List Int} (h:aJ w base v l) (o:Obj):aJ (w.alloc o) base v l:=World.ownsRow.alloc h o
theorem aJ.one (w:World) (base:Nat) (x:Int) (hb:base≤w.heap.size):aJ (w.alloc (.cells #[.int .i64 x] 3)) base (.slice (some ⟨w.heap.size,0,none⟩) 1 1) [x] :=
 World.ownsRow_lit w #[.int .i64 x] 1 hb (by decide) rfl
theorem aJ.two (w:World) (base:Nat) (x y:Int) (hb:base≤w.heap.size):aJ (w.alloc (.cells #[.int .i64 x,.int .i64 y] 3)) base (.slice (some ⟨w.heap.size,0,none⟩) 2 2) [x,y] :=
 World.ownsRow_lit w #[.int .i64 x,.int .i64 y] 2 hb (by decide) rfl
theorem lK:(prog.info? 3).map (fun i=>(i.zero,i.size,i.bytes))=some (some (.int .i64 0),1,8):=by kernel_rfl
theorem bB {ops:Array Oper} {rest:List Oper} {o:Oper} {a:Act} {Q:Exit→Act→World→Prop} {W w:World} (hgd:o.guard=none) (s x:Operand)
 (ho:o.op=.call { callee:=.builtin .append,args:=#[s,x],argTypes:=#[42,42] })
 {base:Nat} {v:Value} {l:List Int} (hs:a.eval s=v) (hown:aJ w base v l) {lo hi:Nat} {u:Value} {m:List Int} (hx:a.eval x=u) (hu:IntsIn w lo hi u m)
 (hlen:l.length+m.length≤1099511627776) (hB:Below base W w) (hbase:base≤w.heap.size)
 (h:∀ c cap w',aJ w' base (.slice c (l.length+m.length) cap) (l++m)→Below base W w'→base≤w'.heap.size→w.heap.size≤w'.heap.size→wpList prog ops Q rest (a.put o.dst (.slice c (l.length+m.length) cap)) w'):wpList prog ops Q (o::rest) a w:=by
 obtain⟨i0,hi,hz0,hz1,hz2⟩:=info_parts lK;obtain⟨ad,cap,rfl,hc,hn,hcells⟩:=hu;have fin:∀ v' w',w'.ownsRow base 3 1 v' (l.length+m.length) (nv l++nv m)→w.grownBy w' v.ownBlock→wpList prog ops Q rest (a.put o.dst v') w':=by
  intro v' w' ho' hg;obtain⟨c,cap',rfl⟩:=aP ho';refine h c cap' w' ?_ (hB.grown hg hbase fun k hk=>(World.ownsRow.lt hown k hk).1) (Nat.le_trans hbase hg.size) hg.size;unfold aJ;rw[fP] at ho';simpa using ho'
 cases ad with
 | none =>
  have hm:m=[]:=by
   cases m with
   | nil=>rfl
   | cons y r=>obtain⟨g,off,ha,_⟩:=hcells 0 (Nat.zero_lt_succ _);cases ha
  subst hm;obtain rfl:=hn rfl;exact wpList_append_own_none hgd s x 42 ho base 3 i0 1 underlying42 hi v l.length (nv l) hs hown hx (fin v w (by simpa[nv,aJ] using hown) ⟨rfl,rfl,rfl,Nat.le_refl _,fun _ _ _=>rfl⟩)
 | some ad =>
  have hnews:∀ j u,(nv m)[j]?=some u→w.cell? (ad.add j)=some u:=by
   intro j u hu;simp only [nv,List.getElem?_map,Option.map_eq_some_iff] at hu;obtain⟨y,hy,rfl⟩:=hu;obtain⟨hj,rfl⟩:=List.getElem?_eq_some_iff.1 hy;obtain⟨g,off,ha,_,_,h3⟩:=hcells j hj;cases ha;by_cases h0:j=0
   · subst h0;simpa[Addr.add] using h3
   · simpa[Addr.add,h0] using h3
  exact wpList_append_own w hgd s x 42 ho base 3 i0 (.int .i64 0) 1 8 underlying42 hi hz0 hz1 hz2 rfl (by decide) v l.length (nv l) hs hown ad m.length cap (nv m) hx (by simp[dA]) hnews (rG m) (bEw hlen) (by omega) hbase (fun v' w' h1 h2 _=>fin v' w' h1 h2)
end
section
def aV (size:Nat) (w:World) (lo hi:Nat) (v:Value) (n:Nat) (xs:List Value):Prop :=
 xs.length=n*size∧∃ (a:Option Addr) (cap:Nat),v=.slice a n cap∧n≤cap∧(a=none→cap=0) ∧
  ∀ j (h:j<xs.length),∃ g off,a=some ⟨g,off,none⟩∧lo≤g∧g<hi∧w.cell? ⟨g,off+j,none⟩=some xs[j]
theorem aV.nil (size:Nat) (w:World) (lo hi:Nat):aV size w lo hi (.slice none 0 0) 0 []:=⟨by simp,none,0,rfl,Nat.le_refl _,fun _=>rfl,fun j h=>by cases h⟩
theorem aV.wide {size n:Nat} {w:World} {lo hi lo' hi':Nat} {v:Value} {xs:List Value} (h:aV size w lo hi v n xs) (h1:lo'≤lo) (h2:hi≤hi'):aV size w lo' hi' v n xs:=by
 obtain⟨hx,a,cap,rfl,hc,hn,hcells⟩:=h;exact⟨hx,a,cap,rfl,hc,hn,fun j hj=>by obtain⟨g,off,ha,h3,h4,h5⟩:=hcells j hj;exact⟨g,off,ha,by omega,by omega,h5⟩⟩
theorem aV.later {size n:Nat} {w w':World} {lo hi:Nat} {v:Value} {xs:List Value} (h:aV size w lo hi v n xs) (hb:Below hi w w'):aV size w' lo hi v n xs:=by
 obtain⟨hx,a,cap,rfl,hc,hn,hcells⟩:=h;exact⟨hx,a,cap,rfl,hc,hn,fun j hj=>by obtain⟨g,off,ha,h3,h4,h5⟩:=hcells j hj;exact⟨g,off,ha,h3,h4,(hb.cell (p:=⟨g,off+j,none⟩) h4).trans h5⟩⟩
theorem aV.form {size n:Nat} {w:World} {lo hi:Nat} {v:Value} {xs:List Value} (h:aV size w lo hi v n xs):xs.length=n*size∧∃ a cap,v=.slice a n cap∧n≤cap∧(a=none→cap=0) ∧
 ∀ j (h:j<xs.length),∃ g off,a=some ⟨g,off,none⟩∧lo≤g∧g<hi∧w.cell? ⟨g,off+j,none⟩=some xs[j]:=h
theorem aV.ints {w:World} {lo hi n:Nat} {v:Value} {l:List Int} (h:IntsIn w lo hi v l) (hn:l.length=n):aV 1 w lo hi v n (nv l):=by
 subst hn;obtain⟨a,cap,rfl,hc,hn,hcells⟩:=h;refine⟨by rw[dA,Nat.mul_one],a,cap,rfl,hc,hn,fun j hj=>?_⟩;have hj':j<l.length:=by rwa [dA] at hj
 obtain⟨g,off,ha,h3,h4,h5⟩:=hcells j hj';exact⟨g,off,ha,h3,h4,by rw[h5];simp[nv]⟩
theorem aV.own {w:World} {base:Nat} {e:TypeId} {size n:Nat} {v:Value} {xs:List Value} (h:w.ownsRow base e size v n xs):aV size w base w.heap.size v n xs:=by
 have hx:=h.1;rcases h.2 with ⟨rfl,hn⟩ | ⟨g,cap,cur,rfl,hg,hgg,h1,h2,h3,h4⟩
 · subst hn;obtain rfl:xs=[]:=List.eq_nil_of_length_eq_zero (by omega);exact aV.nil ..
 · refine⟨hx,_,cap,rfl,h1,fun h=>by(cases h),fun j hj=>⟨g,0,rfl,hg,(Array.getElem?_eq_some_iff.1 hgg).1,?_⟩⟩;have h5:cur[j]?=some xs[j]:=by
    have h6:=congrArg (·[j]?) h4;simp only [List.getElem?_eq_getElem hj] at h6;rw[List.getElem?_take_of_lt (by omega)] at h6;simpa using h6
   simp[World.cell?,hgg,h5]
theorem aV.lit (w:World) (e:TypeId) (cs:Array Value) (size n:Nat) (hs:cs.size=n*size) :
 aV size (w.alloc (.cells cs e)) w.heap.size (w.heap.size+1) (.slice (some ⟨w.heap.size,0,none⟩) n n) n cs.toList :=
 ⟨by simpa using hs,_,n,rfl,Nat.le_refl _,fun h=>by(cases h),fun j hj=>⟨w.heap.size,0,rfl,Nat.le_refl _,Nat.lt_succ_self _,by
  have hj':j<cs.size:=by simpa using hj
  have hb:(w.alloc (.cells cs e)).heap[w.heap.size]?=some (.cells cs e (0,0)):=heap_alloc_new w _;simp only [World.cell?,hb];simp[hj']⟩⟩
theorem fF {P:Program} {ops:Array Oper} {rest:List Oper} {o:Oper} {a:Act} {Q:Exit→Act→World→Prop} {W w:World} (hgd:o.guard=none) (s x:Operand) (t:TypeId)
 (ho:o.op=.call { callee:=.builtin .append,args:=#[s,x],argTypes:=#[t,t] }) (e:TypeId) (z:Value) (size bytes:Nat) (ht:P.underlying t=some (.slice e))
 (hinfo:(P.info? e).map (fun i=>(i.zero,i.size,i.bytes))=some (some z,size,bytes)) (hzs:z.cells.size=size) (hsz:0<size)
 {base n:Nat} {v:Value} {xs:List Value} (hs:a.eval s=v) (hown:w.ownsRow base e size v n xs) {lo hi m:Nat} {u:Value} {news:List Value} (hx:a.eval x=u) (hu:aV size w lo hi u m news) (h1:∀ u∈news,u.oneCell'=true)
 (hlen:n+m≤1099511627776) (hby:bytes≤64) (hB:Below base W w) (hbase:base≤w.heap.size)
 (h:∀ c cap w',w'.ownsRow base e size (.slice c (n+m) cap) (n+m) (xs++news)→Below base W w'→base≤w'.heap.size→w.heap.size≤w'.heap.size→wpList P ops Q rest (a.put o.dst (.slice c (n+m) cap)) w'):wpList P ops Q (o::rest) a w:=by
 obtain⟨i0,hi,hz0,hz1,hz2⟩:=info_parts hinfo;obtain⟨hl,ad,cap,rfl,hc,hn,hcells⟩:=hu;have fin:∀ v' w',w'.ownsRow base e size v' (n+m) (xs++news)→w.grownBy w' v.ownBlock→wpList P ops Q rest (a.put o.dst v') w':=by
  intro v' w' ho' hg;obtain⟨c,cap',rfl⟩:=aP ho';exact h c cap' w' ho' (hB.grown hg hbase fun k hk=>(World.ownsRow.lt hown k hk).1) (Nat.le_trans hbase hg.size) hg.size
 cases ad with
 | none =>
  obtain rfl:=hn rfl;obtain rfl:m=0:=by omega
  have hm:news=[]:=List.eq_nil_of_length_eq_zero (by omega);subst hm;exact wpList_append_own_none hgd s x t ho base e i0 size ht hi v n xs hs hown hx (fin v w (by simpa using hown) ⟨rfl,rfl,rfl,Nat.le_refl _,fun _ _ _=>rfl⟩)
 | some ad =>
  have hnews:∀ j u,news[j]?=some u→w.cell? (ad.add j)=some u:=by
   intro j u hu;obtain⟨hj,rfl⟩:=List.getElem?_eq_some_iff.1 hu;obtain⟨g,off,ha,_,_,h3⟩:=hcells j hj;cases ha;by_cases h0:j=0
   · subst h0;simpa[Addr.add] using h3
   · simpa[Addr.add,h0] using h3
  exact wpList_append_own w hgd s x t ho base e i0 z size bytes ht hi hz0 hz1 hz2 hzs hsz v n xs hs hown ad m cap news hx hl hnews h1 (Nat.le_trans hlen (by decide)) (Nat.le_trans (Nat.mul_le_mul hlen hby) (by decide)) hbase (fun v' w' h1 h2 _=>fin v' w' h1 h2)
theorem jG {w w':World} {base:Nat} {e:TypeId} {size n:Nat} {v:Value} {xs:List Value} (h:w.ownsRow base e size v n xs) (hb:Below w.heap.size w w'):w'.ownsRow base e size v n xs:=by
 refine⟨h.1,?_⟩;rcases h.2 with hn | ⟨g,cap,cur,rfl,hg,hgg,rest⟩
 · exact .inl hn
 · exact .inr ⟨g,cap,cur,rfl,hg,(hb.block g (Array.getElem?_eq_some_iff.1 hgg).1).trans hgg,rest⟩
theorem aGk {w:World} {base base':Nat} {e:TypeId} {size n:Nat} {v:Value} {xs:List Value} (h:w.ownsRow base e size v n xs) (hb:base'≤base):w.ownsRow base' e size v n xs:=by
 refine⟨h.1,?_⟩;rcases h.2 with hn | ⟨g,cap,cur,rfl,hg,hgg,rest⟩
 · exact .inl hn
 · exact .inr ⟨g,cap,cur,rfl,by omega,hgg,rest⟩
end
section
open Go.Maps Go.ChangeMaps Go.MapKept
section
variable {P:Program} {k:TypeId} {κ:Type} [DecidableEq κ] {enc:κ→Value} {w w':World} {b n:Nat} {f:κ→Option Value}
def bQ (P:Program) (k:TypeId) (enc:κ→Value) (w:World) (b:Nat) (f:κ→Option Value) (n:Nat):Prop :=
 ∃ arr clock,w.heap[b]?=some (.map arr clock)∧arr.size=n∧Stamped arr clock∧(∀ e∈arr.toList,∃ x l,e.key=enc x∧keyOf P k (enc x)=some l) ∧
  ∀ x v,f x=some v↔∃ e∈arr.toList,e.key=enc x∧e.val=v
omit [DecidableEq κ] in
theorem bQ.lt (h:bQ P k enc w b f n):b<w.heap.size:=by
 obtain⟨arr,clock,hb,_⟩:=h;exact(Array.getElem?_eq_some_iff.1 hb).1
omit [DecidableEq κ] in
theorem bQ.of_block (h:bQ P k enc w b f n) (he:w'.heap[b]?=w.heap[b]?):bQ P k enc w' b f n:=by
 obtain⟨arr,clock,hb,r⟩:=h;exact⟨arr,clock,he.trans hb,r⟩
omit [DecidableEq κ] in
theorem bQ.later {B:Nat} (h:bQ P k enc w b f n) (hb:Below B w w') (hB:b<B):bQ P k enc w' b f n:=h.of_block (hb.block b hB)
omit [DecidableEq κ] in
theorem bQ.keep (h:bQ P k enc w b f n) (hb:Below w.heap.size w w'):bQ P k enc w' b f n:=h.later hb h.lt
def nJ (z:Value) (c:Bool):Option Value→Value
 | some v=>if c then .tuple #[v,.bool true] else v
 | none=>if c then .tuple #[z,.bool false] else z
omit [DecidableEq κ] in
theorem bQ.look {t e:TypeId} (h:bQ P k enc w b f n) (K:Keyed P k) (ht:P.underlying t=some (.map k e)) {z:Value} (hz:(zeroValue e).run P w=.ok z w)
 {x:κ} {kl:Lit} (hkey:keyOf P k (enc x)=some kl) (c:Bool):(Instr.lookup t (.map (some b)) (enc x) c).run P w=.ok (nJ z c (f x)) w:=by
 obtain⟨arr,clock,hb,_,hs,hk,hf⟩:=h;rcases K.find w hkey arr.toList (fun e he=>by obtain⟨y,l,h1,h2⟩:=hk e he;exact⟨l,h1▸h2⟩) with ⟨h1,h2⟩ | ⟨j,e0,h1,h2,h3⟩
 · have:f x=none:=by
    cases h:f x with
    | none=>rfl
    | some v=>obtain⟨y,hy,h4,_⟩:=(hf x v).1 h;exact absurd h4 (h2 y hy)
   rw[this];simp[Instr.lookup,run_underlying ht,MapKept.run_getObj_map hb,K.check w _ hkey,h1,hz,Result.andThen,nJ]
 · have:f x=some e0.val:=(hf x e0.val).2 ⟨e0,List.mem_of_getElem? h2,h3,rfl⟩;rw[this];simp[Instr.lookup,run_underlying ht,MapKept.run_getObj_map hb,K.check w _ hkey,h1,Result.andThen,nJ]
def aSj (f:κ→Option Value) (key:κ) (val:Value):κ→Option Value:=fun x=>if x=key then some val else f x
theorem eZ (f:κ→Option Value) (key:κ) (val:Value):aSj f key val key=some val:=if_pos rfl
theorem dB (f:κ→Option Value) {key x:κ} (val:Value) (h:x≠key):aSj f key val x=f x:=if_neg h
theorem bQ.store {t e:TypeId} (h:bQ P k enc w b f n) (K:Keyed P k) (ht:P.underlying t=some (.map k e)) (henc:∀ x y,enc x=enc y→x=y) (hroom:n<maxLen)
 {x:κ} {kl:Lit} (hkey:keyOf P k (enc x)=some kl) (val:Value) :
 ∃ w',(Instr.mapUpdate t (.map (some b)) (enc x) val).run P w=.ok () w'∧bQ P k enc w' b (aSj f x val) (if f x=none then n+1 else n)∧(∃ o,w'=setBlock w b o):=by
 obtain⟨arr,clock,hb,hn,hs,hk,hf⟩:=h;rcases K.find w hkey arr.toList (fun e he=>by obtain⟨y,l,h1,h2⟩:=hk e he;exact⟨l,h1▸h2⟩) with ⟨h1,h2⟩ | ⟨j,e0,h1,h2,h3⟩
 · have hnone:f x=none:=by
    cases h:f x with
    | none=>rfl
    | some v=>obtain⟨y,hy,h4,_⟩:=(hf x v).1 h;exact absurd h4 (h2 y hy)
   refine⟨setBlock w b (.map (arr.push ⟨enc x,val,clock⟩) (clock+1)),?_,⟨arr.push ⟨enc x,val,clock⟩,clock+1,?_,?_,stamped_push hs h2,?_,?_⟩,_,rfl⟩
   · simp[Instr.mapUpdate,run_underlying ht,MapKept.run_getObj_map hb,K.check w false hkey,h1,MapKept.run_setObj_map _ hb,Result.andThen,setBlock]
   · simp[setBlock,(Array.getElem?_eq_some_iff.1 hb).1]
   · rw[if_pos hnone];simp[hn]
   · intro e he;simp only [Array.toList_push,List.mem_append,List.mem_singleton] at he;rcases he with he | rfl
     · exact hk e he
     · exact⟨x,kl,rfl,hkey⟩
   · intro y v;simp only [Array.toList_push,List.mem_append,List.mem_singleton];by_cases hy:y=x
     · subst hy;rw[eZ];constructor
       · intro h;cases h;exact⟨_,Or.inr rfl,rfl,rfl⟩
       · rintro ⟨e,he | rfl,h4,rfl⟩
         · exact absurd h4 (h2 e he)
         · rfl
     · rw[dB _ _ hy,hf];constructor
       · rintro ⟨e,he,h4,h5⟩;exact⟨e,Or.inl he,h4,h5⟩
       · rintro ⟨e,he | rfl,h4,h5⟩
         · exact⟨e,he,h4,h5⟩
         · exact absurd (henc _ _ h4).symm hy
 · have hsome:f x=some e0.val:=(hf x e0.val).2 ⟨e0,List.mem_of_getElem? h2,h3,rfl⟩;have hj:arr[j]?=some e0:=by simpa using h2
   have hkeyf:∀ e',arr[j]?=some e'→({ e' with key:=enc x,val:=val }:MapEntry).key=e'.key:=fun e' he'=>by rw[hj] at he';cases he';exact h3.symm
   have hlist:(arr.modify j (fun e'=>{ e' with key:=enc x,val:=val })).toList=arr.toList.set j { e0 with key:=enc x,val:=val }:=by rw[Array.toList_modify,modify_eq_set _ _ _ _ h2]
   have hjl:j<arr.toList.length:=(List.getElem?_eq_some_iff.1 h2).1;have hpw:arr.toList.Pairwise (fun x y=>x.key≠y.key):=((stamped_iff arr clock).1 hs).2.2;have other:∀ (i:Nat) (e:MapEntry),arr.toList[i]?=some e→i≠j→e.key≠enc x:=by
    intro i e he hij;rw[← h3];obtain⟨hi,he⟩:=List.getElem?_eq_some_iff.1 he;obtain⟨_,h2'⟩:=List.getElem?_eq_some_iff.1 h2;rw[List.pairwise_iff_getElem] at hpw;rcases Nat.lt_or_gt_of_ne hij with h | h
    · have:=hpw i j hi hjl h;rw[he,h2'] at this;exact this
    · have:=hpw j i hjl hi h;rw[he,h2'] at this;exact this.symm
   have mem:∀ e,e∈arr.toList.set j { e0 with key:=enc x,val:=val }↔(e={ e0 with key:=enc x,val:=val }∨(e∈arr.toList∧e.key≠enc x)):=by
    intro e;constructor
    · intro he;obtain⟨i,hi,ex⟩:=List.getElem_of_mem he;rw[List.getElem_set] at ex;split at ex
      · exact Or.inl ex.symm
      · rename_i hne
        have hi':i<arr.toList.length:=by simpa using hi
        exact Or.inr ⟨ex▸List.getElem_mem hi',other i e (by rw[List.getElem?_eq_getElem hi',ex]) (fun h=>hne h.symm)⟩
    · rintro (rfl | ⟨he,hne⟩)
      · exact List.mem_iff_getElem.2 ⟨j,by simpa using hjl,by simp⟩
      · obtain⟨i,hi,ex⟩:=List.getElem_of_mem he;refine List.mem_iff_getElem.2 ⟨i,by simpa using hi,?_⟩;rw[List.getElem_set,if_neg (fun h=>?_)]
        · exact ex
        · subst h;obtain⟨_,h2'⟩:=List.getElem?_eq_some_iff.1 h2;rw[h2'] at ex;subst ex;exact hne h3
   refine⟨setBlock w b (.map (arr.modify j (fun e'=>{ e' with key:=enc x,val:=val })) clock),?_,⟨arr.modify j (fun e'=>{ e' with key:=enc x,val:=val }),clock,?_,?_,stamped_modify hs _ _ (fun _ _=>rfl) (fun e' _ he'=>hkeyf e' he'),?_,?_⟩,_,rfl⟩
   · simp[Instr.mapUpdate,run_underlying ht,MapKept.run_getObj_map hb,K.check w false hkey,h1,hj,h3,K.stays w hkey,MapKept.run_setObj_map _ hb,Result.andThen,setBlock]
   · simp[setBlock,(Array.getElem?_eq_some_iff.1 hb).1]
   · rw[if_neg (by rw[hsome];simp)];simpa using hn
   · intro e he;rw[hlist] at he;rcases (mem e).1 he with rfl | ⟨he,_⟩
     · exact⟨x,kl,rfl,hkey⟩
     · exact hk e he
   · intro y v;rw[hlist];by_cases hy:y=x
     · subst hy;rw[eZ];constructor
       · intro h;cases h;exact⟨_,(mem _).2 (Or.inl rfl),rfl,rfl⟩
       · rintro ⟨e,he,h4,rfl⟩;rcases (mem e).1 he with rfl | ⟨_,hne⟩
         · rfl
         · exact absurd h4 hne
     · rw[dB _ _ hy,hf];constructor
       · rintro ⟨e,he,h4,h5⟩;exact⟨e,(mem e).2 (Or.inr ⟨he,fun h=>hy (henc _ _ (h4.symm.trans h))⟩),h4,h5⟩
       · rintro ⟨e,he,h4,h5⟩;rcases (mem e).1 he with rfl | ⟨he,_⟩
         · exact absurd (henc _ _ h4).symm hy
         · exact⟨e,he,h4,h5⟩
omit [DecidableEq κ] in
theorem bQ.made (P:Program) (k:TypeId) (enc:κ→Value) (w:World):bQ P k enc (w.alloc (.map #[] 0)) w.heap.size (fun _=>none) 0 :=
 ⟨#[],0,(MapKept.heap_alloc w _).1,rfl,stamped_empty 0,fun e he=>by simp at he,fun x v=>by simp⟩
theorem aQ (o:Obj) {i:Nat} (h:i≠b):(setBlock w b o).heap[i]?=w.heap[i]?:=by
 simp only [setBlock];rw[Array.getElem?_setIfInBounds,if_neg (fun e=>h e.symm)]
theorem fQ {B:Nat} (o:Obj) (hb:B≤b):Below B w (setBlock w b o) :=
 ⟨rfl,rfl,rfl,by simp[setBlock],fun i hi=>aQ o (by omega)⟩
theorem cB (o:Obj):(setBlock w b o).heap.size=w.heap.size:=by simp[setBlock]
end
end
namespace D
open Go.Maps
abbrev Dm:=Int→Option (Int×List Int)
def aG (D:Dm) (x:Int):Int:=((D x).map (·.1)).getD 0
def partsOf (D:Dm) (x:Int):List Int:=((D x).map (·.2)).getD []
def dU (x:Int):Bool:=decide (44032≤x)&&decide (x<55204)
def vJ (x:Int):List Int :=
 [4352+(x-44032) / 588,4449+(x-44032) % 588 / 28]++(if (x-44032) % 28=0 then [] else [4519+(x-44032) % 28])
def bO (D:Dm):Nat→Int→List Int
 | 0,x=>[x]
 | f+1,x=>if dU x then (vJ x).flatMap (bO D f) else if (partsOf D x).isEmpty then [x] else (partsOf D x).flatMap (bO D f)
def fH (D:Dm) (x:Int):List Int:=bO D 5000 x
def aF (x:Int):Prop:=-9223372036854775808≤x∧x≤9223372036854775807
theorem jW {x:Int} (h:aF x):(Lit.int .i64 x).wf=true:=by
 unfold aF at h;simp only [Lit.wf,IntKind.min,IntKind.max,IntKind.signed,IntKind.bits,Bool.and_eq_true,decide_eq_true_eq,if_true];omega
structure Wf (D:Dm):Prop where
 plain:∀ x c l,D x=some (c,l)→dU x=false∧∀ q∈l,dU q=false∧0≤q∧q≤1114111
 cls:∀ x c l,D x=some (c,l)→0≤c∧c≤254
 rank:∃ r:Int→Nat,(∀ x,r x≤4500)∧∀ x c l,D x=some (c,l)→∀ q∈l,r q<r x
 size:∀ x,dU x=false→(fH D x).length≤18
def bF (w:World) (lo hi:Nat) (v:Value) (D:Dm):Prop :=
 ∃ pd b f n,v=.pointer (some ⟨pd,0,none⟩)∧(lo≤pd∧pd<hi)∧w.cell? ⟨pd,0,none⟩=some (.map (some b))∧(lo≤b∧b<hi)∧bQ prog 3 (Value.int .i64) w b f n∧n≤4096 ∧
  (∀ x,D x=none→f x=none)∧∀ x c l,D x=some (c,l)→∃ s,f x=some (.agg #[.int .i64 x,.int .i64 c,s])∧IntsIn w lo hi s l
theorem bF.later {w w':World} {lo hi B:Nat} {v:Value} {D:Dm} (h:bF w lo hi v D) (hb:Below B w w') (hB:hi≤B):bF w' lo hi v D:=by
 obtain⟨pd,b,f,n,rfl,h1,h2,h3,h4,h5,h6,h7⟩:=h;refine⟨pd,b,f,n,rfl,h1,(hb.cell (p:=⟨pd,0,none⟩) (by show pd<B;omega)).trans h2,h3,h4.later hb (by omega),h5,h6,fun x c l hx=>?_⟩;obtain⟨s,hs,hi⟩:=h7 x c l hx;exact⟨s,hs,hi.later (hb.mono hB)⟩
theorem bF.wide {w:World} {lo hi lo' hi':Nat} {v:Value} {D:Dm} (h:bF w lo hi v D) (h1:lo'≤lo) (h2:hi≤hi'):bF w lo' hi' v D:=by
 obtain⟨pd,b,f,n,rfl,a1,a2,a3,a4,a5,a6,a7⟩:=h;refine⟨pd,b,f,n,rfl,by omega,a2,by omega,a4,a5,a6,fun x c l hx=>?_⟩;obtain⟨s,hs,hi⟩:=a7 x c l hx;exact⟨s,hs,hi.wide h1 h2⟩
theorem bF.look {w:World} {lo hi:Nat} {v:Value} {D:Dm} (h:bF w lo hi v D) (x:Int) (hx:aF x) :
 ∃ pd b y s,v=.pointer (some ⟨pd,0,none⟩)∧pd<hi∧w.cell? ⟨pd,0,none⟩=some (.map (some b)) ∧
  (Instr.lookup 155 (.map (some b)) (.int .i64 x) false).run prog w=.ok (.agg #[.int .i64 y,.int .i64 (aG D x),s]) w∧IntsIn w lo hi s (partsOf D x):=by
 obtain⟨pd,b,f,n,rfl,h1,h2,h3,h4,h5,h6,h7⟩:=h;have hl:=h4.look (int_keyed underlying3) underlying155 (Tryz.zeroValue162 _) (keyOf_int_mk underlying3 (jW hx)) false;cases hd:D x with
 | none =>
  rw[h6 x hd] at hl;exact⟨pd,b,0,_,rfl,h1.2,h2,by simpa[nJ,aG,hd] using hl,by simpa[partsOf,hd] using IntsIn.nil w lo hi⟩
 | some cl =>
  obtain⟨c,l⟩:=cl;obtain⟨s,hs,hi⟩:=h7 x c l hd;rw[hs] at hl;exact⟨pd,b,x,s,rfl,h1.2,h2,by simpa[nJ,aG,hd] using hl,by simpa[partsOf,hd] using hi⟩
theorem bKf (y c:Int) (a:Option Addr) (n cap:Nat) (w:World):(Instr.field 162 (.agg #[.int .i64 y,.int .i64 c,.slice a n cap]) 1).run prog w=.ok (.int .i64 c) w:=by kernel_rfl
theorem aXk (y c:Int) (a:Option Addr) (n cap:Nat) (w:World):(Instr.field 162 (.agg #[.int .i64 y,.int .i64 c,.slice a n cap]) 2).run prog w=.ok (.slice a n cap) w:=by kernel_rfl
theorem aKa (x:Int):dU x=true↔44032≤x∧x<55204:=by simp[dU]
theorem iC (x:Int) (w:World):Calls prog 115 #[.int .i64 x] w fun e w'=>e=.returned (.bool (dU x))∧w'=w:=by
 by_cases h1:44032≤x
 · by_cases h2:x<55204
   · rw[show dU x=true by simp[dU,h1,h2]];go_enter func115,ntmps115;go_wp2_with fail;go_ret;exact⟨rfl,rfl⟩
   · rw[show dU x=false by simp[dU,h2]];go_enter func115,ntmps115;go_wp2_with fail;go_ret;exact⟨rfl,rfl⟩
 · rw[show dU x=false by simp[dU,h1]];go_enter func115,ntmps115;go_wp2_with fail;go_ret;exact⟨rfl,rfl⟩
theorem mD (v:Value) (D:Dm) (x:Int) (hx:aF x) (w:World) (hi:Nat) (hd:bF w 0 hi v D) :
 Calls prog 245 #[v,.int .i64 x] w fun e w'=>e=.returned (.int .i64 (aG D x))∧w'=w:=by
 obtain⟨pd,b,y,s,rfl,h1,h2,h3,h4⟩:=hd.look x hx;obtain⟨a,cap,rfl,_,_,_⟩:=h4;have fd:=bKf y (aG D x) a (partsOf D x).length cap;clear hd;go_enter func245,ntmps245;go_wp2_with fail;go_ret;exact⟨rfl,rfl⟩
theorem IntsIn.get {w:World} {lo hi:Nat} {v:Value} {l:List Int} (h:IntsIn w lo hi v l):∃ a cap,v=.slice a l.length cap∧l.length≤cap ∧
 ∀ j (h:j<l.length),∃ g off,a=some ⟨g,off,none⟩∧lo≤g∧g<hi∧w.cell? ⟨g,off+j,none⟩=some (.int .i64 l[j]):=by
 obtain⟨a,cap,e,hc,_,r⟩:=h;exact⟨a,cap,e,hc,r⟩
theorem aEq (l:List Int) (P:Int→List Int) (j:Nat) (h:j<l.length):(l.take (j+1)).flatMap P=(l.take j).flatMap P++P l[j]:=by
 rw[List.take_add_one,List.getElem?_eq_getElem h,List.flatMap_append];simp
theorem aBf (l:List Int) (P:Int→List Int) (n:Nat) (h:∀ q∈l,(P q).length≤n):(l.flatMap P).length≤l.length*n:=by
 induction l with
 | nil=>simp
 | cons q r ih =>
  have h1:=h q (List.mem_cons_self ..);have h2:=ih (fun x hx=>h x (List.mem_cons_of_mem _ hx));rw[List.flatMap_cons,List.length_append,List.length_cons,Nat.add_mul];omega
theorem aBz (v:Value) (D:Dm) (P:Int→List Int) (l:List Int) (s:Value) (w:World) (hd:bF w 0 w.heap.size v D) (hs:IntsIn w 0 w.heap.size s l) (hl:l.length≤18) (hP:∀ q∈l,(P q).length≤18)
 (HP:Hid (∀ q∈l,∀ w1,bF w1 0 w1.heap.size v D→Calls prog 243 #[v,.int .i64 q] w1 fun e w2=>∃ u,e=.returned u∧aJ w2 w1.heap.size u (P q)∧Below w1.heap.size w1 w2)) :
 Calls prog 248 #[v,s] w fun e w'=>∃ u,e=.returned u∧aJ w' w.heap.size u (l.flatMap P)∧Below w.heap.size w w':=by
 obtain⟨pd,hpd⟩:∃ pd,v=.pointer (some pd):=by obtain⟨pd,_,_,_,h,_⟩:=hd;exact⟨_,h⟩
 subst hpd;have HD:=zh hd;obtain⟨a,cap,rfl,hcap,hcell⟩:=IntsIn.get hs;have HC:=zh hcell;have HL:=zh hP;clear hd hs hcell hP;go_enter func248,ntmps248;go_wp2_with fail;go_loopw [5,10] (fun o i wr=>∃ (j:Nat) (M:List Int),j≤l.length∧i=.int .i64 j∧aJ wr w.heap.size o M∧Below w.heap.size w wr∧RowKit.Hid (M=(l.take j).flatMap P)) (fun _ i _=>l.length-(intOf i).toNat)
 case atStart=>exact⟨0,[],Nat.zero_le _,rfl,aJ.nil _ _,zr,zh rfl⟩
 case round =>
  obtain⟨j,M,hj,rfl,hO,hB,HM⟩:=hrel;obtain⟨a5,cap5,rfl⟩:=aP hO;by_cases hlt:j<l.length
  · obtain⟨g,off,rfl,_,hg,hc⟩:=HC.out j hlt;have hc':=(hB.cell (p:=⟨g,off+j,none⟩) hg).trans hc;obtain⟨N,hN⟩:∃ N,P l[j]=N:=⟨_,rfl⟩
    have HN:=zh hN;have hlen:M.length+N.length≤1099511627776:=by
     have h1:=aBf (l.take j) P 18 (fun q hq=>HL.out q (List.mem_of_mem_take hq));have h2:=HL.out l[j] (List.getElem_mem hlt);have h3:(l.take j).length≤18:=by simp;omega
     have h4:(l.take j).length*18≤18*18:=Nat.mul_le_mul_right 18 h3;rw[HM.out,← hN];omega
    clear hN;go_wp2_with fail;refine(HP.out l[j] (List.getElem_mem hlt) wr ((HD.out.later hB lr).wide lr hB.size)).mono ?_;rintro e w2 ⟨u,rfl,hu,hb2⟩;rw[HN.out] at hu;have hO2:=hO.below hb2;have hB2:=hB.trans (hb2.mono hB.size);have hur:=hu.reads;go_wp2_with (at_builtin;refine bB rfl (.tmp 14) (.tmp 17) rfl rfl hO2 rfl hur hlen hB2 hB2.size ?_;intro c3 oM w3 hO3 hB3 _ _);refine⟨⟨j+1,M++N,by omega,by simp,?_,hB3,zh (by rw[aEq l P j hlt,HM.out,HN.out])⟩,by simp[intOf];omega⟩;simpa using hO3
  · obtain rfl:j=l.length:=by omega
    have hM:=HM.out;rw[List.take_length] at hM;go_wp2_with fail;go_ret;exact⟨_,rfl,hM▸hO,hB⟩
def Fuel (r:Int→Nat) (f:Nat) (x:Int):Prop:=(dU x=false∧r x<f)∨(dU x=true∧∀ q∈vJ x,r q+1<f)
theorem aGn {x q:Int} (h:dU x=true) (hq:q∈vJ x):4352≤q∧q≤4600:=by
 rw[aKa] at h;unfold vJ at hq;split at hq<;>simp at hq<;>omega
theorem aKb {q:Int} (h:q≤44031):dU q=false:=by simp[dU];omega
theorem oK {D:Dm} {x:Int} (h:partsOf D x≠[]):∃ c,D x=some (c,partsOf D x):=by
 cases hd:D x with
 | none=>simp[partsOf,hd] at h
 | some cl=>obtain⟨c,l⟩:=cl;exact⟨c,by simp[partsOf,hd]⟩
theorem vK {l:List Int} {P Q:Int→List Int} (h:∀ q∈l,P q=Q q):l.flatMap P=l.flatMap Q:=by
 induction l with
 | nil=>rfl
 | cons q r ih=>rw[List.flatMap_cons,List.flatMap_cons,h q (List.mem_cons_self ..),ih (fun x hx=>h x (List.mem_cons_of_mem _ hx))]
theorem bCs (l:List Int) (P:Int→List Int) (h:∀ q∈l,P q≠[]):l.length≤(l.flatMap P).length:=by
 induction l with
 | nil=>simp
 | cons q t ih =>
  have h1:=h q (List.mem_cons_self ..);have h2:=ih (fun x hx=>h x (List.mem_cons_of_mem _ hx));have h3:0<(P q).length:=List.length_pos_iff.2 h1;rw[List.flatMap_cons,List.length_append,List.length_cons];omega
section
variable {D:Dm} {r:Int→Nat} (wf:Wf D) (hr:∀ x c l,D x=some (c,l)→∀ q∈l,r q<r x)
include wf hr
theorem aKc:∀ (n:Nat) (x:Int),r x<n→∀ f g,dU x=false→r x<f→r x<g→bO D f x=bO D g x:=by
 intro n;induction n with
 | zero=>intro x h;omega
 | succ n ih =>
  intro x hx f g hs hf hg;obtain⟨f,rfl⟩:∃ k,f=k+1:=⟨f-1,by omega⟩
  obtain⟨g,rfl⟩:∃ k,g=k+1:=⟨g-1,by omega⟩
  unfold bO;rw[hs];simp only [Bool.false_eq_true,if_false];by_cases hp:partsOf D x=[]
  · simp[hp]
  · obtain⟨c,hc⟩:=oK hp;rw[if_neg (by simpa using hp),if_neg (by simpa using hp)];refine vK fun q hq=>?_
    have h1:=hr x c _ hc q hq;exact ih q (by omega) f g ((wf.plain x c _ hc).2 q hq).1 (by omega) (by omega)
theorem tN {x:Int} {f:Nat} (hb:r x≤4500) (hs:dU x=false) (hf:r x<f):(bO D f x).length≤18:=by
 have:=wf.size x hs;unfold fH at this;rwa [aKc wf hr (r x+1) x (by omega) 5000 f hs (by omega) hf] at this
theorem aTg (f:Nat) (x:Int) (hs:dU x=false):r x<f→bO D f x≠[]:=by
 induction f generalizing x with
 | zero=>intro h;omega
 | succ f ih =>
  intro hf;unfold bO;rw[hs];simp only [Bool.false_eq_true,if_false];by_cases hp:partsOf D x=[]
  · simp[hp]
  · obtain⟨c,hc⟩:=oK hp;rw[if_neg (by simpa using hp)];cases hl:partsOf D x with
    | nil=>exact absurd hl hp
    | cons q t =>
     have hq:q∈partsOf D x:=by rw[hl];exact List.mem_cons_self ..
     have:=ih q ((wf.plain x c _ hc).2 q hq).1 (by have:=hr x c _ hc q hq;omega);simp[this]
end
theorem bCt {D:Dm} {r:Int→Nat} (wf:Wf D) (hr:∀ x c l,D x=some (c,l)→∀ q∈l,r q<r x) (hb:∀ x,r x≤4500) (v:Value):∀ (f:Nat) (x:Int) (w:World),Fuel r f x→aF x→bF w 0 w.heap.size v D →
 Calls prog 243 #[v,.int .i64 x] w fun e w'=>∃ u,e=.returned u∧aJ w' w.heap.size u (bO D f x)∧Below w.heap.size w w':=by
 intro f;induction f with
 | zero =>
  intro x w hf;rcases hf with ⟨_,h⟩ | ⟨h,h2⟩
  · omega
  · exact absurd (h2 (4352+(x-44032) / 588) (by unfold vJ;simp)) (by omega)
 | succ f ih =>
  intro x w hf hx hd;have IH:=zh ih;clear ih;obtain⟨pd,b,y,s,rfl,h1,h2,h3,h4⟩:=hd.look x hx;obtain⟨a,cap,rfl,hcap,hcell⟩:=IntsIn.get h4;have HD:=zh hd;have HS:=zh h4;clear hd hcell h4;cases hs:dU x with
  | true =>
   have hfu:∀ q∈vJ x,r q+1<f+1:=by
    rcases hf with ⟨h,_⟩ | ⟨_,h⟩
    · rw[hs] at h;cases h
    · exact h
   have HX:=zh (show ∀ q∈vJ x,Fuel r f q∧aF q∧(bO D f q).length≤18 from fun q hq=>by
    have h1:=aGn hs hq;have h2:=hfu q hq;have h3:dU q=false:=aKb (by omega);exact⟨.inl ⟨h3,by omega⟩,by unfold aF;omega,tN wf hr (hb q) h3 (by omega)⟩)
   have HR:=zh (show bO D (f+1) x=(vJ x).flatMap (bO D f) by rw[bO,hs];rfl);have hb2:=(aKa x).1 hs;obtain⟨S,hS⟩:∃ S,x-44032=S:=⟨_,rfl⟩
   obtain⟨A,hA⟩:∃ A,S / 588=A:=⟨_,rfl⟩
   obtain⟨M,hM⟩:∃ M,S % 588=M:=⟨_,rfl⟩
   obtain⟨B,hB⟩:∃ B,M / 28=B:=⟨_,rfl⟩
   obtain⟨C,hC⟩:∃ C,S % 28=C:=⟨_,rfl⟩
   have f0:wrap64 (x-44032)=S:=by rw[hS];unfold wrap64;omega
   have f1:wrap64 (S.tdiv 588)=A:=by rw[Int.tdiv_eq_ediv_of_nonneg (by omega),hA];unfold wrap64;omega
   have f2:wrap64 (4352+A)=4352+A:=by unfold wrap64;omega
   have f3:S.tmod 588=M:=by rw[Int.tmod_eq_emod_of_nonneg (by omega),hM]
   have f4:wrap64 (M.tdiv 28)=B:=by rw[Int.tdiv_eq_ediv_of_nonneg (by omega),hB];unfold wrap64;omega
   have f5:wrap64 (4449+B)=4449+B:=by unfold wrap64;omega
   have f6:S.tmod 28=C:=by rw[Int.tmod_eq_emod_of_nonneg (by omega),hC]
   have f7:wrap64 (4519+C)=4519+C:=by unfold wrap64;omega
   by_cases hc0:C=0
   · have f8:(C != 0)=false:=by simpa using hc0
     have HL:=zh (show vJ x=[4352+A,4449+B] by unfold vJ;rw[hS,hA,hM,hB,hC,if_pos hc0];rfl);clear hS hA hM hB hC hb2 hfu hc0 hf;go_enter func243,ntmps243;go_wp2_with fail;refine(iC x w).mono ?_;rintro e w1 ⟨rfl,rfl⟩;rw[hs];go_wp2_with fail;have hown:=aJ.two w1 w1.heap.size (4352+A) (4449+B) lr;have hb1:=(Below.refl w1.heap.size w1).alloc lr (.cells #[.int .i64 (4352+A),.int .i64 (4449+B)] 3);refine(aBz (.pointer (some ⟨pd,0,none⟩)) D (bO D f) [4352+A,4449+B] _ _ ((HD.out.later hb1 lr).wide lr hb1.size) (hown.reads.wide (Nat.zero_le _) lr) (by simp) (fun q hq=>(HX.out q (by rw[HL.out];exact hq)).2.2)
      (zh fun q hq w' hd'=>IH.out q w' (HX.out q (by rw[HL.out];exact hq)).1 (HX.out q (by rw[HL.out];exact hq)).2.1 hd')).mono ?_
     rintro e w3 ⟨u,rfl,hu,hb3⟩;rw[← HL.out,← HR.out] at hu;have hub:=hu.low hb1.size;have hB3:=hb1.trans (hb3.mono hb1.size);clear hu hb3;go_wp2_with fail;go_ret;exact⟨_,rfl,hub,hB3⟩
   · have f8:(C != 0)=true:=by simpa using hc0
     have HL:=zh (show vJ x=[4352+A,4449+B]++[4519+C] by unfold vJ;rw[hS,hA,hM,hB,hC,if_neg hc0]);clear hS hA hM hB hC hb2 hfu hc0 hf;go_enter func243,ntmps243;go_wp2_with fail;refine(iC x w).mono ?_;rintro e w1 ⟨rfl,rfl⟩;rw[hs];have hown:=aJ.two w1 w1.heap.size (4352+A) (4449+B) lr;have hb1:=(Below.refl w1.heap.size w1).alloc lr (.cells #[.int .i64 (4352+A),.int .i64 (4449+B)] 3);have hone:=(aJ.one (w1.alloc (.cells #[.int .i64 (4352+A),.int .i64 (4449+B)] 3)) w1.heap.size (4519+C) hb1.size).reads;have hb2:=hb1.alloc hb1.size (.cells #[.int .i64 (4519+C)] 3);simp only [World.size_alloc] at hone;go_wp2_with (at_builtin;refine bB rfl (.tmp 25) (.tmp 29) rfl rfl (hown.alloc _) rfl hone (by simp) hb2 hb2.size ?_;intro c3 oM w3 hO3 hB3 _ _);refine(aBz (.pointer (some ⟨pd,0,none⟩)) D (bO D f) ([4352+A,4449+B]++[4519+C]) _ _ ((HD.out.later hB3 lr).wide lr hB3.size) (hO3.reads.wide (Nat.zero_le _) lr) (by simp) (fun q hq=>(HX.out q (by rw[HL.out];exact hq)).2.2)
      (zh fun q hq w' hd'=>IH.out q w' (HX.out q (by rw[HL.out];exact hq)).1 (HX.out q (by rw[HL.out];exact hq)).2.1 hd')).mono ?_
     rintro e w4 ⟨u,rfl,hu,hb4⟩;rw[← HL.out,← HR.out] at hu;have hub:=hu.low hB3.size;have hB4:=hB3.trans (hb4.mono hB3.size);clear hu hb4;go_wp2_with fail;go_ret;exact⟨_,rfl,hub,hB4⟩
  | false =>
   have hfu:r x<f+1:=by
    rcases hf with ⟨_,h⟩ | ⟨h,_⟩
    · exact h
    · rw[hs] at h;cases h
   by_cases hp:partsOf D x=[]
   · have HR:=zh (show bO D (f+1) x=[x] by rw[bO,hs];simp[hp]);rw[hp] at hcap HS;have f1:(((([]:List Int).length:Nat):Int)==0)=true:=rfl;rw[hp] at h3;clear hf hfu hp;go_enter func243,ntmps243;go_wp2_with fail;refine(iC x w).mono ?_;rintro e w1 ⟨rfl,rfl⟩;rw[hs];go_wp2_with fail;go_ret;have hb1:=(Below.refl w1.heap.size w1).alloc lr (.cells #[.int .i64 y,.int .i64 (aG D x),.slice a 0 cap] 162);have hone:=aJ.one (w1.alloc (.cells #[.int .i64 y,.int .i64 (aG D x),.slice a 0 cap] 162)) w1.heap.size x hb1.size;rw[World.size_alloc] at hone;exact⟨_,rfl,by rw[HR.out];exact hone,hb1.alloc hb1.size _⟩
   · obtain⟨c,hc⟩:=oK hp;have HR:=zh (show bO D (f+1) x=(partsOf D x).flatMap (bO D f) by rw[bO,hs];simp[hp]);have HX:=zh (show ∀ q∈partsOf D x,Fuel r f q∧aF q∧(bO D f q).length≤18 from fun q hq=>by
      have h1:=(wf.plain x c _ hc).2 q hq;have h2:=hr x c _ hc q hq;exact⟨.inl ⟨h1.1,by omega⟩,by unfold aF;omega,tN wf hr (hb q) h1.1 (by omega)⟩)
     have hlen:(partsOf D x).length≤18:=by
      have h1:=tN wf hr (hb x) hs hfu;rw[HR.out] at h1;exact Nat.le_trans (bCs _ _ fun q hq=>aTg wf hr f q ((wf.plain x c _ hc).2 q hq).1 (by have:=hr x c _ hc q hq;omega)) h1
     have f1:(((partsOf D x).length:Int)==0)=false:=by
      have:0<(partsOf D x).length:=List.length_pos_iff.2 hp;simp;exact hp
     clear hf hfu hp hc;go_enter func243,ntmps243;go_wp2_with fail;refine(iC x w).mono ?_;rintro e w1 ⟨rfl,rfl⟩;rw[hs];go_wp2_with fail;have hb1:=(Below.refl w1.heap.size w1).alloc lr (.cells #[.int .i64 y,.int .i64 (aG D x),.slice a (partsOf D x).length cap] 162);refine(aBz (.pointer (some ⟨pd,0,none⟩)) D (bO D f) (partsOf D x) _ _ ((HD.out.later hb1 lr).wide lr hb1.size) ((HS.out.later hb1).wide lr hb1.size) hlen (fun q hq=>(HX.out q hq).2.2)
      (zh fun q hq w' hd'=>IH.out q w' (HX.out q hq).1 (HX.out q hq).2.1 hd')).mono ?_
     rintro e w3 ⟨u,rfl,hu,hb3⟩;rw[← HR.out] at hu;have hub:=hu.low hb1.size;have hB3:=hb1.trans (hb3.mono hb1.size);clear hu hb3;go_wp2_with fail;go_ret;exact⟨_,rfl,hub,hB3⟩
theorem aSh {D:Dm} (wf:Wf D) (v:Value) (x:Int) (w:World) (hx:aF x) (hd:bF w 0 w.heap.size v D) :
 Calls prog 243 #[v,.int .i64 x] w fun e w'=>∃ u,e=.returned u∧aJ w' w.heap.size u (fH D x)∧Below w.heap.size w w':=by
 obtain⟨r,hb,hr⟩:=wf.rank;refine bCt wf hr hb v 5000 x w ?_ hx hd;cases hs:dU x with
 | true=>exact .inr ⟨hs,fun q _=>by have:=hb q;omega⟩
 | false=>exact .inl ⟨hs,by have:=hb x;omega⟩
theorem aBg {D:Dm} (wf:Wf D) (x:Int):(fH D x).length≤54:=by
 cases hs:dU x with
 | false=>have:=wf.size x hs;omega
 | true =>
  obtain⟨r,hb,hr⟩:=wf.rank;rw[show fH D x=(vJ x).flatMap (bO D 4999) by unfold fH;rw[show 5000=4999+1 from rfl,bO,hs];rfl];refine Nat.le_trans (aBf _ _ 18 fun q hq=>tN wf hr (hb q) (aKb (by have:=aGn hs hq;omega)) (by have:=hb q;omega)) ?_;have:(vJ x).length≤3:=by unfold vJ;split<;>simp
  omega
theorem oL {D:Dm} (wf:Wf D) (x:Int):0≤aG D x∧aG D x≤254:=by
 cases h:D x with
 | none=>simp[aG,h]
 | some cl=>obtain⟨c,l⟩:=cl;have:=wf.cls x c l h;simpa[aG,h] using this
theorem bCa {D:Dm} (wf:Wf D) (v:Value) (x y:Int) (hx:aF x) (hy:aF y) (bx:Nat) (w:World) (hi:Nat) (hb:w.cell? ⟨bx,0,none⟩=some v) (hd:bF w 0 hi v D) :
 Calls prog 244 #[.int .i64 x,.int .i64 y,.pointer (some ⟨bx,0,none⟩)] w fun e w'=>e=.returned (.int .i64 (aG D x-aG D y))∧∃ n,w'=w.drewN n:=by
 have h1:=oL wf x;have h2:=oL wf y;obtain⟨pd,hpd⟩:∃ pd,v=.pointer (some pd):=by obtain⟨pd,_,_,_,h,_⟩:=hd;exact⟨_,h⟩
 subst hpd;have e1:wrap64 (aG D x-aG D y)=aG D x-aG D y:=by unfold wrap64;omega
 have HD:=zh hd;clear hd h1 h2;go_enter func244,ntmps244;go_wp2_with (go_quiet (exact Calls.quiet_of_same (mD _ D _ (by assumption) _ hi HD.out)));go_ret;exact⟨congrArg (fun n=>Ending.returned (.int .i64 n)) e1,_,rfl⟩
end D
section
def aN (w:World) (g off:Nat) (pre post:List Value) (l:List Int):Prop:=pre.length=off∧∃ cur,w.heap[g]?=some (.cells cur 3 (0,0))∧cur.toList=pre++nv l++post
structure fM (g:Nat) (w w':World):Prop where
 os:w'.os=w.os
 tape:w'.tape=w.tape
 output:w'.output=w.output
 size:w'.heap.size=w.heap.size
 block:∀ k,k≠g→w'.heap[k]?=w.heap[k]?
theorem fM.refl (g:Nat) (w:World):fM g w w:=⟨rfl,rfl,rfl,rfl,fun _ _=>rfl⟩
theorem fM.trans {g:Nat} {a b c:World} (h:fM g a b) (k:fM g b c):fM g a c :=
 ⟨k.os.trans h.os,k.tape.trans h.tape,k.output.trans h.output,k.size.trans h.size,fun i hi=>(k.block i hi).trans (h.block i hi)⟩
theorem fM.drew {g:Nat} {w:World} (n:Nat):fM g w (w.drewN n):=⟨rfl,rfl,rfl,rfl,fun _ _=>rfl⟩
theorem fM.set {g:Nat} {w:World} (o:Nat) (v:Value):fM g w (w.setCell ⟨g,o,none⟩ v) :=
 ⟨rfl,rfl,rfl,by simp[World.setCell],fun k hk=>Below.heap_setCell _ _ _ k hk⟩
theorem fM.below {g B:Nat} {w w':World} (h:fM g w w') (hB:B≤g):Below B w w':=⟨h.os,h.tape,h.output,by rw[h.size];exact Nat.le_refl _,fun k hk=>h.block k (by omega)⟩
theorem fM.cell {g b o:Nat} {w w':World} {v:Value} (h:fM g w w') (hb:b≠g) (hc:w.cell? ⟨b,o,none⟩=some v):w'.cell? ⟨b,o,none⟩=some v:=(World.cell?_of_block (h.block b hb)).trans hc
theorem aN.oth {g g' off:Nat} {w w':World} {pre post:List Value} {l:List Int} (h:aN w g off pre post l) (ho:fM g' w w') (hg:g≠g'):aN w' g off pre post l:=by
 obtain⟨h1,cur,h2,h3⟩:=h;exact⟨h1,cur,(ho.block g hg).trans h2,h3⟩
theorem aN.drew {g off:Nat} {w:World} {pre post:List Value} {l:List Int} (h:aN w g off pre post l) (n:Nat):aN (w.drewN n) g off pre post l:=h
theorem aN.cell {w:World} {g off:Nat} {pre post:List Value} {l:List Int} (h:aN w g off pre post l) (j:Nat) (hj:j<l.length):w.cell? ⟨g,off+j,none⟩=some (.int .i64 l[j]):=by
 obtain⟨h1,cur,h2,h3⟩:=h;have h5:cur[off+j]?=some (.int .i64 l[j]):=by
  rw[← Array.getElem?_toList,h3,List.append_assoc,List.getElem?_append_right (by omega),h1,Nat.add_sub_cancel_left,List.getElem?_append_left (by rw[dA];exact hj)];simp[nv,hj]
 simp[World.cell?,h2,h5]
theorem aN.frozen {w:World} {g off:Nat} {pre post:List Value} {l:List Int} (h:aN w g off pre post l) (j:Nat):w.frozen? ⟨g,off+j,none⟩=false:=by
 obtain⟨h1,cur,h2,h3⟩:=h;simp[World.frozen?,h2]
theorem aN.lt {w:World} {g off:Nat} {pre post:List Value} {l:List Int} (h:aN w g off pre post l):g<w.heap.size:=by
 obtain⟨h1,cur,h2,h3⟩:=h;exact(Array.getElem?_eq_some_iff.1 h2).1
theorem aN.set {w:World} {g off:Nat} {pre post:List Value} {l:List Int} (h:aN w g off pre post l) (j:Nat) (x:Int) (hj:j<l.length):aN (w.setCell ⟨g,off+j,none⟩ (.int .i64 x)) g off pre post (l.set j x):=by
 obtain⟨h1,cur,h2,h3⟩:=h;obtain⟨hg,hk⟩:=Array.getElem?_eq_some_iff.1 h2;refine⟨h1,cur.setIfInBounds (off+j) (.int .i64 x),?_,?_⟩
 · show (w.heap.modify g _)[g]?=_
   rw[Array.getElem?_eq_getElem (by rw[Array.size_modify];exact hg),Array.getElem_modify_self,hk];rfl
 · rw[Array.toList_setIfInBounds,h3,List.append_assoc,List.set_append_right _ _ (by omega),h1,Nat.add_sub_cancel_left,List.set_append_left _ _ (by rw[dA];exact hj),← List.append_assoc];congr 2
   simp[nv,List.map_set]
namespace So
def swp (l:List Int) (i j:Nat):List Int:=(l.set i (l.getD j 0)).set j (l.getD i 0)
theorem eD (l:List Int) (i j:Nat):(swp l i j).length=l.length:=by simp[swp]
def iE (c:Int→Int) (a:Nat):Nat→List Int→List Int
 | 0,l=>l
 | j+1,l=>if a<j+1∧c (l.getD (j+1) 0)<c (l.getD j 0) then iE c a j (swp l (j+1) j) else l
def pX (c:Int→Int) (a:Nat):Nat→Nat→List Int→List Int
 | 0,_,l=>l
 | k+1,i,l=>pX c a k (i+1) (iE c a i l)
def eU (c:Int→Int) (l:List Int) (a b:Nat):List Int:=pX c a (b-(a+1)) (a+1) l
theorem aHe (c:Int→Int) (a:Nat) (j:Nat) (l:List Int):(iE c a j l).length=l.length:=by
 induction j generalizing l with
 | zero=>rfl
 | succ j ih =>
  unfold iE;split
  · rw[ih,eD]
  · rfl
theorem aDz (c:Int→Int) (a:Nat) (k i:Nat) (l:List Int):(pX c a k i l).length=l.length:=by
 induction k generalizing i l with
 | zero=>rfl
 | succ k ih=>unfold pX;rw[ih,aHe]
theorem mG (c:Int→Int) (l:List Int) (a b:Nat):(eU c l a b).length=l.length:=aDz ..
theorem getD_at {l:List Int} {i:Nat} (h:i<l.length):l.getD i 0=l[i]:=by simp[List.getD,h]
theorem aYb {c:Int→Int} {a j:Nat} {l:List Int} (h1:a<j+1) (h2:c (l.getD (j+1) 0)<c (l.getD j 0)):iE c a (j+1) l=iE c a j (swp l (j+1) j):=by rw[iE,if_pos ⟨h1,h2⟩]
theorem aNj {c:Int→Int} {a j:Nat} {l:List Int} (h:¬ c (l.getD (j+1) 0)<c (l.getD j 0)):iE c a (j+1) l=l:=by rw[iE,if_neg (fun e=>h e.2)]
theorem aTh {c:Int→Int} {a j:Nat} {l:List Int} (h:j≤a):iE c a j l=l:=by
 cases j with
 | zero=>rfl
 | succ j=>rw[iE,if_neg (fun e=>by omega)]
theorem aQo {l:List Int} {i j:Nat} (hi:i<l.length) (hj:j<l.length) {x:Int} (hx:x∈swp l i j):x∈l:=by
 unfold swp at hx;rcases List.mem_or_eq_of_mem_set hx with h | h
 · rcases List.mem_or_eq_of_mem_set h with h | h
   · exact h
   · rw[h,getD_at hj];exact List.getElem_mem hj
 · rw[h,getD_at hi];exact List.getElem_mem hi
theorem bGn {l:List Int} {i j:Nat} (hi:i<l.length) (hj:j<l.length):swp l i j=(l.set i l[j]).set j l[i]:=by unfold swp;rw[getD_at hi,getD_at hj]
def fJ (a b:Nat):Nat→Nat→List Int→List Int
 | 0,_,l=>l
 | k+1,i,l=>fJ a b k (i+1) (swp l (a+i) (b+i))
theorem iD (a b k i:Nat) (l:List Int):(fJ a b k i l).length=l.length:=by
 induction k generalizing i l with
 | zero=>rfl
 | succ k ih=>rw[fJ,ih,eD]
def rot (m:Nat):Nat→Nat→Nat→List Int→List Int
 | 0,i,_,l=>fJ (m-i) m i 0 l
 | f+1,i,j,l=>if i=j then fJ (m-i) m i 0 l else if j<i then rot m f (i-j) j (fJ (m-i) m j 0 l) else rot m f i (j-i) (fJ (m-i) (m+j-i) i 0 l)
def rotate (l:List Int) (a m b:Nat):List Int:=rot m (b-a) (m-a) (b-m) l
theorem aNk (m f i j:Nat) (l:List Int):(rot m f i j l).length=l.length:=by
 induction f generalizing i j l with
 | zero=>exact iD ..
 | succ f ih =>
  unfold rot;split
  · exact iD ..
  · split
    · rw[ih,iD]
    · rw[ih,iD]
theorem dG (l:List Int) (a m b:Nat):(rotate l a m b).length=l.length:=aNk ..
def half (t:Nat→Bool):Nat→Nat→Nat→Nat
 | 0,i,_=>i
 | f+1,i,j=>if i<j then (if t ((i+j) / 2) then half t f ((i+j) / 2+1) j else half t f i ((i+j) / 2)) else i
theorem aAy (t:Nat→Bool) (f i j:Nat) (h:i≤j):i≤half t f i j∧half t f i j≤j:=by
 induction f generalizing i j with
 | zero=>exact⟨Nat.le_refl _,h⟩
 | succ f ih =>
  unfold half;split
  · split
    · have:=ih ((i+j) / 2+1) j (by omega);omega
    · have:=ih i ((i+j) / 2) (by omega);omega
  · omega
theorem wU {t:Nat→Bool} {f i j:Nat} (h:i<j) (ht:t ((i+j) / 2)=true):half t (f+1) i j=half t f ((i+j) / 2+1) j:=by rw[half,if_pos h,if_pos ht]
theorem aAz {t:Nat→Bool} {f i j:Nat} (h:i<j) (ht:t ((i+j) / 2)=false):half t (f+1) i j=half t f i ((i+j) / 2):=by rw[half,if_pos h,ht];rfl
theorem wV {t:Nat→Bool} {f i j:Nat} (h:¬ i<j):half t f i j=i:=by
 cases f with
 | zero=>rfl
 | succ f=>rw[half,if_neg h]
def upS:Nat→Nat→List Int→List Int
 | 0,_,l=>l
 | n+1,k,l=>upS n (k+1) (swp l k (k+1))
def dnS:Nat→Nat→List Int→List Int
 | 0,_,l=>l
 | n+1,k,l=>dnS n (k-1) (swp l k (k-1))
theorem aNl (n k:Nat) (l:List Int):(upS n k l).length=l.length:=by
 induction n generalizing k l with
 | zero=>rfl
 | succ n ih=>rw[upS,ih,eD]
theorem aNm (n k:Nat) (l:List Int):(dnS n k l).length=l.length:=by
 induction n generalizing k l with
 | zero=>rfl
 | succ n ih=>rw[dnS,ih,eD]
def gH (c:Int→Int):Nat→Nat→Nat→Nat→List Int→List Int
 | 0,_,_,_,l=>l
 | f+1,a,m,b,l =>
  if m-a=1 then upS (half (fun h=>decide (c (l.getD h 0)<c (l.getD a 0))) (b-m) m b-1-a) a l
  else if b-m=1 then dnS (m-half (fun h=>!decide (c (l.getD m 0)<c (l.getD h 0))) (m-a) a m) m l
  else
   let mid:=(a+b) / 2
   let n:=mid+m
   let lo:=if mid<m then n-b else a
   let hi:=if mid<m then mid else m
   let start:=half (fun h=>!decide (c (l.getD (n-1-h) 0)<c (l.getD h 0))) (hi-lo) lo hi
   let fin:=n-start
   let l1:=if start<m∧m<fin then rotate l start m fin else l
   let l2:=if a<start∧start<mid then gH c f a start mid l1 else l1
   if mid<fin∧fin<b then gH c f mid fin b l2 else l2
theorem kR (c:Int→Int) (f a m b:Nat) (l:List Int):(gH c f a m b l).length=l.length:=by
 induction f generalizing a m b l with
 | zero=>rfl
 | succ f ih =>
  unfold gH;split
  · exact aNl ..
  · split
    · exact aNm ..
    · dsimp only
      repeat' split
      all_goals simp only [ih,dG]
def gG (c:Int→Int) (s n:Nat):Nat→Nat→List Int→List Int
 | 0,_,l=>l
 | f+1,a,l=>if a+2*s≤n then gG c s n f (a+2*s) (gH c n a (a+s) (a+2*s) l) else (if a+s<n then gH c n a (a+s) n l else l)
def dZ (c:Int→Int) (n:Nat):Nat→Nat→List Int→List Int
 | 0,_,l=>l
 | f+1,s,l=>if s<n then dZ c n f (2*s) (gG c s n n 0 l) else l
def blocks (c:Int→Int) (n:Nat):Nat→Nat→List Int→List Int
 | 0,_,l=>l
 | f+1,a,l=>if a+20≤n then blocks c n f (a+20) (eU c l a (a+20)) else eU c l a n
def stable (c:Int→Int) (l:List Int):List Int:=dZ c l.length (l.length+1) 20 (blocks c l.length (l.length+1) 0 l)
end So
end
namespace U
theorem bP (s:ByteArray) (k:Nat) (x:Int) (hx:(k:Int)=x) (lo hi:Nat) (y z:Int) (hy:(lo:Int)=y) (hz:(hi:Int)=z) (w:World) :
 Calls prog 150 #[.string s,.int .i64 x,.int .u8 y,.int .u8 z] w fun e w'=>e=.returned (.bool (dI s k lo hi))∧w'=w:=by
 subst hx hy hz;by_cases h1:k<s.size
 · have e1:decide ((k:Int)<(s.size:Int))=true:=by simp;omega
   have hb:dI s k lo hi=(decide (lo≤s[k].toNat)&&decide (s[k].toNat≤hi)):=by unfold dI;rw[dif_pos h1]
   by_cases h2:lo≤s[k].toNat
   · have e2:decide ((lo:Int)≤(s[k].toNat:Int))=true:=by simp;omega
     by_cases h3:s[k].toNat≤hi
     · have e3:decide ((s[k].toNat:Int)≤(hi:Int))=true:=by simp;omega
       rw[hb,decide_eq_true h2,decide_eq_true h3];clear hb;go_enter func150,ntmps150;go_wp2_with fail;go_ret;exact⟨rfl,rfl⟩
     · have e3:decide ((s[k].toNat:Int)≤(hi:Int))=false:=by simp;omega
       rw[hb,decide_eq_true h2,decide_eq_false h3];clear hb;go_enter func150,ntmps150;go_wp2_with fail;go_ret;exact⟨rfl,rfl⟩
   · have e2:decide ((lo:Int)≤(s[k].toNat:Int))=false:=by simp;omega
     rw[hb,decide_eq_false h2,Bool.false_and];clear hb;go_enter func150,ntmps150;go_wp2_with fail;go_ret;exact⟨rfl,rfl⟩
 · have e1:decide ((k:Int)<(s.size:Int))=false:=by simp;omega
   rw[show dI s k lo hi=false by unfold dI;rw[dif_neg h1]];go_enter func150,ntmps150;go_wp2_with fail;go_ret;exact⟨rfl,rfl⟩
end U
end Go.Proofs.YtcgnajeenflfaaaGreatDoor
namespace Go.Proofs
open Go.Shelf
def Tryz.lays158_ren:Go.Shelf.Ren:=⟨fun | 158=>121 | 165=>161 | 166=>162 | 167=>163 | 169=>164 | 230=>165 | 203=>166 | 240=>194 | 241=>195 | 197=>152 | 118=>196 | 168=>197 | 270=>198 | 262=>199 | 276=>217 | 277=>218 | 260=>181 | 242=>219 | 313=>220 | 278=>234 | 274=>235 | 275=>236 | n=>n,fun | 9=>9 | 4=>4 | 3=>3 | 5=>5 | 72=>284 | 0=>0 | 76=>224 | 75=>36 | 107=>288 | 70=>282 | 20=>20 | 37=>99 | 127=>319 | 21=>21 | 105=>272 | 164=>186 | 162=>359 | 203=>357 | 119=>340 | 46=>252 | 139=>343 | 138=>342 | 51=>344 | 160=>365 | 208=>377 | 206=>375 | 80=>136 | n=>n,fun | 13=>8 | 3=>5 | 4=>6 | n=>n⟩
theorem Tryz.lays158:Go.Proofs.Lays.n158 prog Tryz.lays158_ren:={
 mixed:=by kernel_rfl
 f118:=func196.trans (congrArg some (by kernel_rfl))
 f158:=func121.trans (congrArg some (by kernel_rfl))
 f165:=func161.trans (congrArg some (by kernel_rfl))
 f166:=func162.trans (congrArg some (by kernel_rfl))
 f167:=func163.trans (congrArg some (by kernel_rfl))
 f168:=func197.trans (congrArg some (by kernel_rfl))
 f169:=func164.trans (congrArg some (by kernel_rfl))
 f197:=func152.trans (congrArg some (by kernel_rfl))
 f203:=func166.trans (congrArg some (by kernel_rfl))
 f230:=func165.trans (congrArg some (by kernel_rfl))
 f240:=func194.trans (congrArg some (by kernel_rfl))
 f241:=func195.trans (congrArg some (by kernel_rfl))
 f242:=func219.trans (congrArg some (by kernel_rfl))
 f260:=func181.trans (congrArg some (by kernel_rfl))
 f262:=func199.trans (congrArg some (by kernel_rfl))
 f270:=func198.trans (congrArg some (by kernel_rfl))
 f274:=func235.trans (congrArg some (by kernel_rfl))
 f275:=func236.trans (congrArg some (by kernel_rfl))
 f276:=func217.trans (congrArg some (by kernel_rfl))
 f277:=func218.trans (congrArg some (by kernel_rfl))
 f278:=func234.trans (congrArg some (by kernel_rfl))
 f313:=func220.trans (congrArg some (by kernel_rfl))
 t0:=underlying0
 a0:=Tryz.isAgg0
 z0:=Tryz.sizeOf0
 v0:=Tryz.zeroValue0
 t3:=underlying3
 a3:=Tryz.isAgg3
 z3:=Tryz.sizeOf3
 v3:=Tryz.zeroValue3
 t4:=underlying4
 a4:=Tryz.isAgg4
 z4:=Tryz.sizeOf4
 v4:=Tryz.zeroValue4
 t5:=underlying5
 a5:=Tryz.isAgg5
 z5:=Tryz.sizeOf5
 v5:=Tryz.zeroValue5
 t9:=underlying9
 a9:=Tryz.isAgg9
 z9:=Tryz.sizeOf9
 v9:=Tryz.zeroValue9
 t20:=underlying20
 a20:=Tryz.isAgg20
 z20:=Tryz.sizeOf20
 v20:=Tryz.zeroValue20
 t21:=underlying21
 a21:=Tryz.isAgg21
 z21:=Tryz.sizeOf21
 v21:=Tryz.zeroValue21
 t37:=underlying99
 a37:=Tryz.isAgg99
 z37:=Tryz.sizeOf99
 v37:=Tryz.zeroValue99
 t46:=underlying252
 a46:=Tryz.isAgg252
 z46:=Tryz.sizeOf252
 v46:=Tryz.zeroValue252
 t51:=underlying344
 a51:=Tryz.isAgg344
 z51:=Tryz.sizeOf344
 v51:=Tryz.zeroValue344
 t70:=underlying282
 a70:=Tryz.isAgg282
 z70:=Tryz.sizeOf282
 v70:=Tryz.zeroValue282
 t72:=underlying284
 a72:=Tryz.isAgg284
 z72:=Tryz.sizeOf284
 v72:=Tryz.zeroValue284
 t75:=underlying36
 a75:=Tryz.isAgg36
 z75:=Tryz.sizeOf36
 v75:=Tryz.zeroValue36
 t76:=underlying224
 a76:=Tryz.isAgg224
 z76:=Tryz.sizeOf224
 v76:=Tryz.zeroValue224
 t105:=underlying272
 a105:=Tryz.isAgg272
 z105:=Tryz.sizeOf272
 v105:=Tryz.zeroValue272
 t107:=underlying288
 a107:=Tryz.isAgg288
 z107:=Tryz.sizeOf288
 v107:=Tryz.zeroValue288
 t119:=underlying340
 a119:=Tryz.isAgg340
 z119:=Tryz.sizeOf340
 t127:=underlying319
 a127:=Tryz.isAgg319
 z127:=Tryz.sizeOf319
 v127:=Tryz.zeroValue319
 t138:=underlying342
 a138:=Tryz.isAgg342
 z138:=Tryz.sizeOf342
 v138:=Tryz.zeroValue342
 t139:=underlying343
 a139:=Tryz.isAgg343
 z139:=Tryz.sizeOf343
 v139:=Tryz.zeroValue343
 t160:=underlying365
 a160:=Tryz.isAgg365
 z160:=Tryz.sizeOf365
 v160:=Tryz.zeroValue365
 t162:=underlying359
 a162:=Tryz.isAgg359
 z162:=Tryz.sizeOf359
 v162:=Tryz.zeroValue359
 t164:=underlying186
 a164:=Tryz.isAgg186
 z164:=Tryz.sizeOf186
 v164:=Tryz.zeroValue186
 t203:=underlying357
 a203:=Tryz.isAgg357
 z203:=Tryz.sizeOf357
 v203:=Tryz.zeroValue357
 t206:=underlying375
 a206:=Tryz.isAgg375
 z206:=Tryz.sizeOf375
 v206:=Tryz.zeroValue375
 t208:=underlying377
 a208:=Tryz.isAgg377
 z208:=Tryz.sizeOf377
 v208:=Tryz.zeroValue377
 g3:=by kernel_rfl
 g4:=by kernel_rfl
 g13:=by kernel_rfl }
theorem Tryz.Builder_Extra_158:Builder.Extra prog Tryz.lays158_ren:={
 sizeBuilder:=by kernel_rfl
 liesBuilder:=by kernel_rfl
 t5:=underlying5
 a5:=Tryz.isAgg5
 z5:=Tryz.sizeOf5
 v5:=Tryz.zeroValue5
 infoByte:=by kernel_rfl
 cellsByte:=by kernel_rfl
 sizeByte:=by kernel_rfl
 neB5:=by decide }
open Go.RowKit in
theorem Tryz.strings_ToUpper_ascii (s:ByteArray) (w:World) (hs:s.size≤140737488355328) (hascii:∀ (j:Nat) (b:UInt8),s.data.toList[j]?=some b→b.toNat<128) :
 Calls prog 121 #[.string s] w fun e w'=>e=.returned (.string ⟨(Lib.toUpperA s.data.toList).toArray⟩)∧Below w.heap.size w w':=Any.strings_ToUpper_ascii Tryz.lays158 Tryz.Builder_Extra_158 s w hs hascii
def Tryz.laysM171_ren:Go.Shelf.Ren:=⟨fun | 171=>89 | 243=>118 | 246=>159 | 283=>188 | 284=>189 | 285=>190 | 286=>191 | 129=>213 | 317=>212 | 318=>214 | 319=>215 | 320=>216 | 337=>232 | 338=>233 | n=>n,fun | 3=>3 | 9=>9 | 2=>2 | 4=>4 | 171=>313 | 0=>0 | 53=>279 | 37=>99 | 5=>5 | 173=>316 | 212=>351 | 51=>344 | 20=>20 | 213=>352 | 46=>252 | 232=>372 | 233=>373 | n=>n,fun | 17=>7 | 18=>9 | 19=>10 | n=>n⟩
theorem Tryz.laysM171:Go.Proofs.LaysM.n171 prog Tryz.laysM171_ren:={
 mixed:=by kernel_rfl
 f129:=func213.trans (congrArg some (by kernel_rfl))
 f171:=func89.trans (congrArg some (by kernel_rfl))
 f243:=func118.trans (congrArg some (by kernel_rfl))
 f246:=func159.trans (congrArg some (by kernel_rfl))
 f283:=func188.trans (congrArg some (by kernel_rfl))
 f284:=func189.trans (congrArg some (by kernel_rfl))
 f285:=func190.trans (congrArg some (by kernel_rfl))
 f286:=func191.trans (congrArg some (by kernel_rfl))
 f317:=func212.trans (congrArg some (by kernel_rfl))
 f318:=func214.trans (congrArg some (by kernel_rfl))
 f319:=func215.trans (congrArg some (by kernel_rfl))
 f320:=func216.trans (congrArg some (by kernel_rfl))
 f337:=func232.trans (congrArg some (by kernel_rfl))
 f338:=func233.trans (congrArg some (by kernel_rfl))
 t0:=underlying0
 a0:=Tryz.isAgg0
 z0:=Tryz.sizeOf0
 v0:=Tryz.zeroValue0
 t2:=underlying2
 a2:=Tryz.isAgg2
 z2:=Tryz.sizeOf2
 v2:=Tryz.zeroValue2
 t3:=underlying3
 a3:=Tryz.isAgg3
 z3:=Tryz.sizeOf3
 v3:=Tryz.zeroValue3
 t4:=underlying4
 a4:=Tryz.isAgg4
 z4:=Tryz.sizeOf4
 v4:=Tryz.zeroValue4
 t5:=underlying5
 a5:=Tryz.isAgg5
 z5:=Tryz.sizeOf5
 v5:=Tryz.zeroValue5
 t9:=underlying9
 a9:=Tryz.isAgg9
 z9:=Tryz.sizeOf9
 v9:=Tryz.zeroValue9
 t20:=underlying20
 a20:=Tryz.isAgg20
 z20:=Tryz.sizeOf20
 v20:=Tryz.zeroValue20
 t37:=underlying99
 a37:=Tryz.isAgg99
 z37:=Tryz.sizeOf99
 v37:=Tryz.zeroValue99
 t46:=underlying252
 a46:=Tryz.isAgg252
 z46:=Tryz.sizeOf252
 v46:=Tryz.zeroValue252
 t51:=underlying344
 a51:=Tryz.isAgg344
 z51:=Tryz.sizeOf344
 v51:=Tryz.zeroValue344
 t53:=underlying279
 a53:=Tryz.isAgg279
 z53:=Tryz.sizeOf279
 v53:=Tryz.zeroValue279
 t171:=underlying313
 a171:=Tryz.isAgg313
 z171:=Tryz.sizeOf313
 v171:=Tryz.zeroValue313
 t173:=underlying316
 a173:=Tryz.isAgg316
 z173:=Tryz.sizeOf316
 v173:=Tryz.zeroValue316
 t212:=underlying351
 a212:=Tryz.isAgg351
 z212:=Tryz.sizeOf351
 v212:=Tryz.zeroValue351
 t213:=underlying352
 a213:=Tryz.isAgg352
 z213:=Tryz.sizeOf352
 t232:=underlying372
 a232:=Tryz.isAgg372
 z232:=Tryz.sizeOf372
 v232:=Tryz.zeroValue372
 t233:=underlying373
 a233:=Tryz.isAgg373
 z233:=Tryz.sizeOf373
 v233:=Tryz.zeroValue373
 g17:=by kernel_rfl
 g18:=by kernel_rfl
 g19:=by kernel_rfl
 i0:=by kernel_rfl
 i2:=by kernel_rfl
 i3:=by kernel_rfl
 i4:=by kernel_rfl
 i5:=by kernel_rfl
 i9:=by kernel_rfl
 i20:=by kernel_rfl
 i37:=by kernel_rfl
 i46:=by kernel_rfl
 i51:=by kernel_rfl
 i53:=by kernel_rfl
 i171:=by kernel_rfl
 i173:=by kernel_rfl
 i212:=by kernel_rfl
 i232:=by kernel_rfl
 i233:=by kernel_rfl
 m17:=by kernel_rfl
 m18:=by kernel_rfl
 m19:=by kernel_rfl }
open Go.RowKit Go.Sort Go.Lib in
theorem Tryz.strconv_Itoa (n:Int) (h0:-9223372036854775808≤n) (h1:n≤9223372036854775807) (w:World) (htab:Lib.TabIs prog w "internal/strconv.uint64pow10" .u64 Lib.pow10Tab) :
 Calls prog 89 #[.int .i64 n] w fun e w'=>e=.returned (.string ⟨(Lib.itoa n).toArray⟩)∧∃ k os,w'=grow (w.drewN k) os:=Any.strconv_Itoa Tryz.laysM171 n h0 h1 w htab
def Tryz.laysC245_ren:Go.Shelf.Ren:=⟨fun | 245=>117 | 279=>155 | 280=>156 | 281=>157 | 282=>158 | 316=>186 | 171=>89 | 205=>187 | 243=>118 | 246=>159 | 283=>188 | 284=>189 | 285=>190 | 286=>191 | 129=>213 | 317=>212 | 318=>214 | 319=>215 | 320=>216 | 337=>232 | 338=>233 | n=>n,fun | 9=>9 | 3=>3 | 75=>36 | 167=>275 | 4=>4 | 168=>276 | 210=>311 | 37=>99 | 0=>0 | 127=>319 | 145=>349 | 143=>347 | 2=>2 | 171=>313 | 53=>279 | 5=>5 | 173=>316 | 212=>351 | 51=>344 | 20=>20 | 213=>352 | 46=>252 | 232=>372 | 233=>373 | 80=>136 | n=>n,fun | 15=>3 | 16=>4 | 17=>7 | 18=>9 | 19=>10 | n=>n⟩
theorem Tryz.laysC245:Go.Proofs.LaysC.n245 prog Tryz.laysC245_ren:={
 mixed:=by kernel_rfl
 f129:=func213.trans (congrArg some (by kernel_rfl))
 f171:=func89.trans (congrArg some (by kernel_rfl))
 f205:=func187.trans (congrArg some (by kernel_rfl))
 f243:=func118.trans (congrArg some (by kernel_rfl))
 f245:=func117.trans (congrArg some (by kernel_rfl))
 f246:=func159.trans (congrArg some (by kernel_rfl))
 f279:=func155.trans (congrArg some (by kernel_rfl))
 f280:=func156.trans (congrArg some (by kernel_rfl))
 f281:=func157.trans (congrArg some (by kernel_rfl))
 f282:=func158.trans (congrArg some (by kernel_rfl))
 f283:=func188.trans (congrArg some (by kernel_rfl))
 f284:=func189.trans (congrArg some (by kernel_rfl))
 f285:=func190.trans (congrArg some (by kernel_rfl))
 f286:=func191.trans (congrArg some (by kernel_rfl))
 f316:=func186.trans (congrArg some (by kernel_rfl))
 f317:=func212.trans (congrArg some (by kernel_rfl))
 f318:=func214.trans (congrArg some (by kernel_rfl))
 f319:=func215.trans (congrArg some (by kernel_rfl))
 f320:=func216.trans (congrArg some (by kernel_rfl))
 f337:=func232.trans (congrArg some (by kernel_rfl))
 f338:=func233.trans (congrArg some (by kernel_rfl))
 t0:=underlying0
 a0:=Tryz.isAgg0
 z0:=Tryz.sizeOf0
 v0:=Tryz.zeroValue0
 t2:=underlying2
 a2:=Tryz.isAgg2
 z2:=Tryz.sizeOf2
 v2:=Tryz.zeroValue2
 t3:=underlying3
 a3:=Tryz.isAgg3
 z3:=Tryz.sizeOf3
 v3:=Tryz.zeroValue3
 t4:=underlying4
 a4:=Tryz.isAgg4
 z4:=Tryz.sizeOf4
 v4:=Tryz.zeroValue4
 t5:=underlying5
 a5:=Tryz.isAgg5
 z5:=Tryz.sizeOf5
 v5:=Tryz.zeroValue5
 t9:=underlying9
 a9:=Tryz.isAgg9
 z9:=Tryz.sizeOf9
 v9:=Tryz.zeroValue9
 t20:=underlying20
 a20:=Tryz.isAgg20
 z20:=Tryz.sizeOf20
 v20:=Tryz.zeroValue20
 t37:=underlying99
 a37:=Tryz.isAgg99
 z37:=Tryz.sizeOf99
 v37:=Tryz.zeroValue99
 t46:=underlying252
 a46:=Tryz.isAgg252
 z46:=Tryz.sizeOf252
 v46:=Tryz.zeroValue252
 t51:=underlying344
 a51:=Tryz.isAgg344
 z51:=Tryz.sizeOf344
 v51:=Tryz.zeroValue344
 t53:=underlying279
 a53:=Tryz.isAgg279
 z53:=Tryz.sizeOf279
 v53:=Tryz.zeroValue279
 t75:=underlying36
 a75:=Tryz.isAgg36
 z75:=Tryz.sizeOf36
 v75:=Tryz.zeroValue36
 t127:=underlying319
 a127:=Tryz.isAgg319
 z127:=Tryz.sizeOf319
 v127:=Tryz.zeroValue319
 t143:=underlying347
 a143:=Tryz.isAgg347
 z143:=Tryz.sizeOf347
 v143:=Tryz.zeroValue347
 t145:=underlying349
 a145:=Tryz.isAgg349
 z145:=Tryz.sizeOf349
 v145:=Tryz.zeroValue349
 t167:=underlying275
 a167:=Tryz.isAgg275
 z167:=Tryz.sizeOf275
 v167:=Tryz.zeroValue275
 t168:=underlying276
 a168:=Tryz.isAgg276
 z168:=Tryz.sizeOf276
 v168:=Tryz.zeroValue276
 t171:=underlying313
 a171:=Tryz.isAgg313
 z171:=Tryz.sizeOf313
 v171:=Tryz.zeroValue313
 t173:=underlying316
 a173:=Tryz.isAgg316
 z173:=Tryz.sizeOf316
 v173:=Tryz.zeroValue316
 t210:=underlying311
 a210:=Tryz.isAgg311
 z210:=Tryz.sizeOf311
 v210:=Tryz.zeroValue311
 t212:=underlying351
 a212:=Tryz.isAgg351
 z212:=Tryz.sizeOf351
 v212:=Tryz.zeroValue351
 t213:=underlying352
 a213:=Tryz.isAgg352
 z213:=Tryz.sizeOf352
 t232:=underlying372
 a232:=Tryz.isAgg372
 z232:=Tryz.sizeOf372
 v232:=Tryz.zeroValue372
 t233:=underlying373
 a233:=Tryz.isAgg373
 z233:=Tryz.sizeOf373
 v233:=Tryz.zeroValue373
 g15:=by kernel_rfl
 g16:=by kernel_rfl
 g17:=by kernel_rfl
 g18:=by kernel_rfl
 g19:=by kernel_rfl
 t80:=underlying136
 a80:=Tryz.isAgg136
 z80:=Tryz.sizeOf136
 v80:=Tryz.zeroValue136
 i0:=by kernel_rfl
 i2:=by kernel_rfl
 i3:=by kernel_rfl
 i4:=by kernel_rfl
 i5:=by kernel_rfl
 i9:=by kernel_rfl
 i20:=by kernel_rfl
 i37:=by kernel_rfl
 i46:=by kernel_rfl
 i51:=by kernel_rfl
 i53:=by kernel_rfl
 i75:=by kernel_rfl
 i80:=by kernel_rfl
 i127:=by kernel_rfl
 i143:=by kernel_rfl
 i145:=by kernel_rfl
 i167:=by kernel_rfl
 i168:=by kernel_rfl
 i171:=by kernel_rfl
 i173:=by kernel_rfl
 i210:=by kernel_rfl
 i212:=by kernel_rfl
 i232:=by kernel_rfl
 i233:=by kernel_rfl
 m15:=by kernel_rfl
 m16:=by kernel_rfl
 m17:=by kernel_rfl
 m18:=by kernel_rfl
 m19:=by kernel_rfl
 c0:=by kernel_rfl
 c2:=by kernel_rfl
 c3:=by kernel_rfl
 c4:=by kernel_rfl
 c5:=by kernel_rfl
 c9:=by kernel_rfl
 c20:=by kernel_rfl
 c37:=by kernel_rfl
 c46:=by kernel_rfl
 c51:=by kernel_rfl
 c53:=by kernel_rfl
 c75:=by kernel_rfl
 c80:=by kernel_rfl
 c127:=by kernel_rfl
 c143:=by kernel_rfl
 c145:=by kernel_rfl
 c167:=by kernel_rfl
 c168:=by kernel_rfl
 c171:=by kernel_rfl
 c173:=by kernel_rfl
 c210:=by kernel_rfl
 c212:=by kernel_rfl
 c213:=by kernel_rfl
 c232:=by kernel_rfl
 c233:=by kernel_rfl }
open Go.RowKit in
theorem Tryz.strconv_toError_syntax (fn s:ByteArray) (base bits:Int) (ev:Value) (w:World) (hlim:s.size≤281474976710656) (hv:w.cell? ⟨3,0,none⟩=some ev) (hev:ev=.nilIface∨∃ te pe,ev=.iface te pe) :
 Calls prog 117 #[.string fn,.string s,.int .i64 base,.int .i64 bits,.iface 275 (.int .i64 2)] w fun e w'=>∃ N,e=.returned (.iface 276 (.pointer (some ⟨N,0,none⟩)))∧w.heap.size≤N∧w'.heap[N]?=some (.cells #[.string fn,.string s,ev] 311 (0,0))∧Below w.heap.size w w':=Any.strconv_toError_syntax Tryz.laysC245 fn s base bits ev w hlim hv hev
open Go.RowKit in
theorem Tryz.strconv_toError_range (fn s:ByteArray) (base bits:Int) (ev:Value) (w:World) (hlim:s.size≤281474976710656) (hv:w.cell? ⟨4,0,none⟩=some ev) (hev:ev=.nilIface∨∃ te pe,ev=.iface te pe) :
 Calls prog 117 #[.string fn,.string s,.int .i64 base,.int .i64 bits,.iface 275 (.int .i64 1)] w fun e w'=>∃ N,e=.returned (.iface 276 (.pointer (some ⟨N,0,none⟩)))∧w.heap.size≤N∧w'.heap[N]?=some (.cells #[.string fn,.string s,ev] 311 (0,0))∧Below w.heap.size w w':=Any.strconv_toError_range Tryz.laysC245 fn s base bits ev w hlim hv hev
def Tryz.laysC172_ren:Go.Shelf.Ren:=⟨fun | 172=>88 | 244=>116 | 245=>117 | 247=>120 | 279=>155 | 280=>156 | 281=>157 | 282=>158 | 287=>160 | 316=>186 | 171=>89 | 205=>187 | 321=>192 | 322=>193 | 243=>118 | 246=>159 | 283=>188 | 284=>189 | 285=>190 | 286=>191 | 129=>213 | 317=>212 | 318=>214 | 319=>215 | 320=>216 | 337=>232 | 338=>233 | n=>n,fun | 9=>9 | 3=>3 | 75=>36 | 76=>224 | 4=>4 | 5=>5 | 167=>275 | 37=>99 | 0=>0 | 85=>231 | 2=>2 | 168=>276 | 53=>279 | 175=>280 | 46=>252 | 210=>311 | 127=>319 | 145=>349 | 143=>347 | 21=>21 | 171=>313 | 173=>316 | 212=>351 | 51=>344 | 20=>20 | 213=>352 | 232=>372 | 233=>373 | 80=>136 | n=>n,fun | 15=>3 | 16=>4 | 17=>7 | 18=>9 | 19=>10 | n=>n⟩
theorem Tryz.laysC172:Go.Proofs.LaysC.n172 prog Tryz.laysC172_ren:={
 mixed:=by kernel_rfl
 f129:=func213.trans (congrArg some (by kernel_rfl))
 f171:=func89.trans (congrArg some (by kernel_rfl))
 f172:=func88.trans (congrArg some (by kernel_rfl))
 f205:=func187.trans (congrArg some (by kernel_rfl))
 f243:=func118.trans (congrArg some (by kernel_rfl))
 f244:=func116.trans (congrArg some (by kernel_rfl))
 f245:=func117.trans (congrArg some (by kernel_rfl))
 f246:=func159.trans (congrArg some (by kernel_rfl))
 f247:=func120.trans (congrArg some (by kernel_rfl))
 f279:=func155.trans (congrArg some (by kernel_rfl))
 f280:=func156.trans (congrArg some (by kernel_rfl))
 f281:=func157.trans (congrArg some (by kernel_rfl))
 f282:=func158.trans (congrArg some (by kernel_rfl))
 f283:=func188.trans (congrArg some (by kernel_rfl))
 f284:=func189.trans (congrArg some (by kernel_rfl))
 f285:=func190.trans (congrArg some (by kernel_rfl))
 f286:=func191.trans (congrArg some (by kernel_rfl))
 f287:=func160.trans (congrArg some (by kernel_rfl))
 f316:=func186.trans (congrArg some (by kernel_rfl))
 f317:=func212.trans (congrArg some (by kernel_rfl))
 f318:=func214.trans (congrArg some (by kernel_rfl))
 f319:=func215.trans (congrArg some (by kernel_rfl))
 f320:=func216.trans (congrArg some (by kernel_rfl))
 f321:=func192.trans (congrArg some (by kernel_rfl))
 f322:=func193.trans (congrArg some (by kernel_rfl))
 f337:=func232.trans (congrArg some (by kernel_rfl))
 f338:=func233.trans (congrArg some (by kernel_rfl))
 t0:=underlying0
 a0:=Tryz.isAgg0
 z0:=Tryz.sizeOf0
 v0:=Tryz.zeroValue0
 t2:=underlying2
 a2:=Tryz.isAgg2
 z2:=Tryz.sizeOf2
 v2:=Tryz.zeroValue2
 t3:=underlying3
 a3:=Tryz.isAgg3
 z3:=Tryz.sizeOf3
 v3:=Tryz.zeroValue3
 t4:=underlying4
 a4:=Tryz.isAgg4
 z4:=Tryz.sizeOf4
 v4:=Tryz.zeroValue4
 t5:=underlying5
 a5:=Tryz.isAgg5
 z5:=Tryz.sizeOf5
 v5:=Tryz.zeroValue5
 t9:=underlying9
 a9:=Tryz.isAgg9
 z9:=Tryz.sizeOf9
 v9:=Tryz.zeroValue9
 t20:=underlying20
 a20:=Tryz.isAgg20
 z20:=Tryz.sizeOf20
 v20:=Tryz.zeroValue20
 t21:=underlying21
 a21:=Tryz.isAgg21
 z21:=Tryz.sizeOf21
 v21:=Tryz.zeroValue21
 t37:=underlying99
 a37:=Tryz.isAgg99
 z37:=Tryz.sizeOf99
 v37:=Tryz.zeroValue99
 t46:=underlying252
 a46:=Tryz.isAgg252
 z46:=Tryz.sizeOf252
 v46:=Tryz.zeroValue252
 t51:=underlying344
 a51:=Tryz.isAgg344
 z51:=Tryz.sizeOf344
 v51:=Tryz.zeroValue344
 t53:=underlying279
 a53:=Tryz.isAgg279
 z53:=Tryz.sizeOf279
 v53:=Tryz.zeroValue279
 t75:=underlying36
 a75:=Tryz.isAgg36
 z75:=Tryz.sizeOf36
 v75:=Tryz.zeroValue36
 t76:=underlying224
 a76:=Tryz.isAgg224
 z76:=Tryz.sizeOf224
 v76:=Tryz.zeroValue224
 t85:=underlying231
 a85:=Tryz.isAgg231
 z85:=Tryz.sizeOf231
 v85:=Tryz.zeroValue231
 t127:=underlying319
 a127:=Tryz.isAgg319
 z127:=Tryz.sizeOf319
 v127:=Tryz.zeroValue319
 t143:=underlying347
 a143:=Tryz.isAgg347
 z143:=Tryz.sizeOf347
 v143:=Tryz.zeroValue347
 t145:=underlying349
 a145:=Tryz.isAgg349
 z145:=Tryz.sizeOf349
 v145:=Tryz.zeroValue349
 t167:=underlying275
 a167:=Tryz.isAgg275
 z167:=Tryz.sizeOf275
 v167:=Tryz.zeroValue275
 t168:=underlying276
 a168:=Tryz.isAgg276
 z168:=Tryz.sizeOf276
 v168:=Tryz.zeroValue276
 t171:=underlying313
 a171:=Tryz.isAgg313
 z171:=Tryz.sizeOf313
 v171:=Tryz.zeroValue313
 t173:=underlying316
 a173:=Tryz.isAgg316
 z173:=Tryz.sizeOf316
 v173:=Tryz.zeroValue316
 t175:=underlying280
 a175:=Tryz.isAgg280
 z175:=Tryz.sizeOf280
 v175:=Tryz.zeroValue280
 t210:=underlying311
 a210:=Tryz.isAgg311
 z210:=Tryz.sizeOf311
 v210:=Tryz.zeroValue311
 t212:=underlying351
 a212:=Tryz.isAgg351
 z212:=Tryz.sizeOf351
 v212:=Tryz.zeroValue351
 t213:=underlying352
 a213:=Tryz.isAgg352
 z213:=Tryz.sizeOf352
 t232:=underlying372
 a232:=Tryz.isAgg372
 z232:=Tryz.sizeOf372
 v232:=Tryz.zeroValue372
 t233:=underlying373
 a233:=Tryz.isAgg373
 z233:=Tryz.sizeOf373
 v233:=Tryz.zeroValue373
 g15:=by kernel_rfl
 g16:=by kernel_rfl
 g17:=by kernel_rfl
 g18:=by kernel_rfl
 g19:=by kernel_rfl
 t80:=underlying136
 a80:=Tryz.isAgg136
 z80:=Tryz.sizeOf136
 v80:=Tryz.zeroValue136
 i0:=by kernel_rfl
 i2:=by kernel_rfl
 i3:=by kernel_rfl
 i4:=by kernel_rfl
 i5:=by kernel_rfl
 i9:=by kernel_rfl
 i20:=by kernel_rfl
 i21:=by kernel_rfl
 i37:=by kernel_rfl
 i46:=by kernel_rfl
 i51:=by kernel_rfl
 i53:=by kernel_rfl
 i75:=by kernel_rfl
 i76:=by kernel_rfl
 i80:=by kernel_rfl
 i85:=by kernel_rfl
 i127:=by kernel_rfl
 i143:=by kernel_rfl
 i145:=by kernel_rfl
 i167:=by kernel_rfl
 i168:=by kernel_rfl
 i171:=by kernel_rfl
 i173:=by kernel_rfl
 i175:=by kernel_rfl
 i210:=by kernel_rfl
 i212:=by kernel_rfl
 i232:=by kernel_rfl
 i233:=by kernel_rfl
 m15:=by kernel_rfl
 m16:=by kernel_rfl
 m17:=by kernel_rfl
 m18:=by kernel_rfl
 m19:=by kernel_rfl
 c0:=by kernel_rfl
 c2:=by kernel_rfl
 c3:=by kernel_rfl
 c4:=by kernel_rfl
 c5:=by kernel_rfl
 c9:=by kernel_rfl
 c20:=by kernel_rfl
 c21:=by kernel_rfl
 c37:=by kernel_rfl
 c46:=by kernel_rfl
 c51:=by kernel_rfl
 c53:=by kernel_rfl
 c75:=by kernel_rfl
 c76:=by kernel_rfl
 c80:=by kernel_rfl
 c85:=by kernel_rfl
 c127:=by kernel_rfl
 c143:=by kernel_rfl
 c145:=by kernel_rfl
 c167:=by kernel_rfl
 c168:=by kernel_rfl
 c171:=by kernel_rfl
 c173:=by kernel_rfl
 c175:=by kernel_rfl
 c210:=by kernel_rfl
 c212:=by kernel_rfl
 c213:=by kernel_rfl
 c232:=by kernel_rfl
 c233:=by kernel_rfl }
open Go.RowKit in
theorem Tryz.strconv_Atoi_ok (s:ByteArray) (hmax:s.size≤9223372036854775806) (v:Int) (h:Lib.atoiAll s.data.toList=.ok v) (w:World) :
 Calls prog 88 #[.string s] w fun e w'=>e=.returned (.tuple #[.int .i64 v,.nilIface])∧(w'=w∨∃ t,w'=Lib.bytesWorld w 5 t):=Any.strconv_Atoi_ok Tryz.laysC172 s hmax v h w
open Go.RowKit in
theorem Tryz.strconv_Atoi_range (s:ByteArray) (hlim:s.size≤281474976710656) (h:Lib.atoiAll s.data.toList=.range) (ev:Value) (w:World) (hv:w.cell? ⟨4,0,none⟩=some ev) (hev:ev=.nilIface∨∃ te pe,ev=.iface te pe) :
 Calls prog 88 #[.string s] w fun e w'=>∃ N,e=.returned (.tuple #[.int .i64 (Lib.atoiSat s.data.toList),.iface 276 (.pointer (some ⟨N,0,none⟩))])∧w.heap.size≤N∧w'.heap[N]?=some (.cells #[.string ⟨#[65,116,111,105]⟩,.string s,ev] 311 (0,0))∧Below w.heap.size w w':=Any.strconv_Atoi_range Tryz.laysC172 s hlim h ev w hv hev
def Tryz.lays145_ren:Go.Shelf.Ren:=⟨fun | 145=>91 | 220=>119 | 219=>154 | 217=>182 | 225=>183 | 224=>184 | 267=>185 | 266=>210 | 314=>211 | n=>n,fun | 9=>9 | 4=>4 | 59=>229 | 3=>3 | 5=>5 | 46=>252 | 146=>345 | 51=>344 | n=>n,fun | 1=>2 | n=>n⟩
theorem Tryz.lays145:Go.Proofs.Lays.n145 prog Tryz.lays145_ren:={
 mixed:=by kernel_rfl
 f145:=func91.trans (congrArg some (by kernel_rfl))
 f217:=func182.trans (congrArg some (by kernel_rfl))
 f219:=func154.trans (congrArg some (by kernel_rfl))
 f220:=func119.trans (congrArg some (by kernel_rfl))
 f224:=func184.trans (congrArg some (by kernel_rfl))
 f225:=func183.trans (congrArg some (by kernel_rfl))
 f266:=func210.trans (congrArg some (by kernel_rfl))
 f267:=func185.trans (congrArg some (by kernel_rfl))
 f314:=func211.trans (congrArg some (by kernel_rfl))
 t3:=underlying3
 a3:=Tryz.isAgg3
 z3:=Tryz.sizeOf3
 v3:=Tryz.zeroValue3
 t4:=underlying4
 a4:=Tryz.isAgg4
 z4:=Tryz.sizeOf4
 v4:=Tryz.zeroValue4
 t5:=underlying5
 a5:=Tryz.isAgg5
 z5:=Tryz.sizeOf5
 v5:=Tryz.zeroValue5
 t9:=underlying9
 a9:=Tryz.isAgg9
 z9:=Tryz.sizeOf9
 v9:=Tryz.zeroValue9
 t46:=underlying252
 a46:=Tryz.isAgg252
 z46:=Tryz.sizeOf252
 v46:=Tryz.zeroValue252
 t51:=underlying344
 a51:=Tryz.isAgg344
 z51:=Tryz.sizeOf344
 v51:=Tryz.zeroValue344
 t59:=underlying229
 a59:=Tryz.isAgg229
 z59:=Tryz.sizeOf229
 v59:=Tryz.zeroValue229
 t146:=underlying345
 a146:=Tryz.isAgg345
 z146:=Tryz.sizeOf345
 v146:=Tryz.zeroValue345
 g1:=by kernel_rfl }
open Go.RowKit Go.Lib in
theorem Tryz.strings_Cut (s sep:ByteArray) (m:Int) (w:World) (hs:s.size<4294967281) (hm:w.cell? ⟨2,0,none⟩=some (.int .i64 m)) :
 Calls prog 91 #[.string s,.string sep] w fun e w'=>e=.returned (.tuple #[.string ⟨(Lib.cut s.data.toList sep.data.toList).1.toArray⟩,.string ⟨(Lib.cut s.data.toList sep.data.toList).2.1.toArray⟩,.bool (Lib.cut s.data.toList sep.data.toList).2.2])∧∃ n,w'=w.drewN n:=Any.strings_Cut Tryz.lays145 s sep m w hs hm
def Tryz.lays146_ren:Go.Shelf.Ren:=⟨fun | 146=>59 | 221=>86 | 268=>110 | 138=>111 | 143=>112 | 195=>151 | 197=>152 | 218=>153 | 219=>154 | 260=>181 | 217=>182 | 225=>183 | 224=>184 | 267=>185 | 266=>210 | 314=>211 | n=>n,fun | 9=>9 | 31=>159 | 3=>3 | 4=>4 | 0=>0 | 105=>272 | 21=>21 | 5=>5 | 46=>252 | 119=>340 | 139=>343 | 138=>342 | 146=>345 | 51=>344 | n=>n,fun | 1=>2 | 3=>5 | 4=>6 | n=>n⟩
theorem Tryz.lays146:Go.Proofs.Lays.n146 prog Tryz.lays146_ren:={
 mixed:=by kernel_rfl
 f138:=func111.trans (congrArg some (by kernel_rfl))
 f143:=func112.trans (congrArg some (by kernel_rfl))
 f146:=func59.trans (congrArg some (by kernel_rfl))
 f195:=func151.trans (congrArg some (by kernel_rfl))
 f197:=func152.trans (congrArg some (by kernel_rfl))
 f217:=func182.trans (congrArg some (by kernel_rfl))
 f218:=func153.trans (congrArg some (by kernel_rfl))
 f219:=func154.trans (congrArg some (by kernel_rfl))
 f221:=func86.trans (congrArg some (by kernel_rfl))
 f224:=func184.trans (congrArg some (by kernel_rfl))
 f225:=func183.trans (congrArg some (by kernel_rfl))
 f260:=func181.trans (congrArg some (by kernel_rfl))
 f266:=func210.trans (congrArg some (by kernel_rfl))
 f267:=func185.trans (congrArg some (by kernel_rfl))
 f268:=func110.trans (congrArg some (by kernel_rfl))
 f314:=func211.trans (congrArg some (by kernel_rfl))
 t0:=underlying0
 a0:=Tryz.isAgg0
 z0:=Tryz.sizeOf0
 v0:=Tryz.zeroValue0
 t3:=underlying3
 a3:=Tryz.isAgg3
 z3:=Tryz.sizeOf3
 v3:=Tryz.zeroValue3
 t4:=underlying4
 a4:=Tryz.isAgg4
 z4:=Tryz.sizeOf4
 v4:=Tryz.zeroValue4
 t5:=underlying5
 a5:=Tryz.isAgg5
 z5:=Tryz.sizeOf5
 v5:=Tryz.zeroValue5
 t9:=underlying9
 a9:=Tryz.isAgg9
 z9:=Tryz.sizeOf9
 v9:=Tryz.zeroValue9
 t21:=underlying21
 a21:=Tryz.isAgg21
 z21:=Tryz.sizeOf21
 v21:=Tryz.zeroValue21
 t31:=underlying159
 a31:=Tryz.isAgg159
 z31:=Tryz.sizeOf159
 v31:=Tryz.zeroValue159
 t46:=underlying252
 a46:=Tryz.isAgg252
 z46:=Tryz.sizeOf252
 v46:=Tryz.zeroValue252
 t51:=underlying344
 a51:=Tryz.isAgg344
 z51:=Tryz.sizeOf344
 v51:=Tryz.zeroValue344
 t105:=underlying272
 a105:=Tryz.isAgg272
 z105:=Tryz.sizeOf272
 v105:=Tryz.zeroValue272
 t119:=underlying340
 a119:=Tryz.isAgg340
 z119:=Tryz.sizeOf340
 t138:=underlying342
 a138:=Tryz.isAgg342
 z138:=Tryz.sizeOf342
 v138:=Tryz.zeroValue342
 t139:=underlying343
 a139:=Tryz.isAgg343
 z139:=Tryz.sizeOf343
 v139:=Tryz.zeroValue343
 t146:=underlying345
 a146:=Tryz.isAgg345
 z146:=Tryz.sizeOf345
 v146:=Tryz.zeroValue345
 g1:=by kernel_rfl
 g3:=by kernel_rfl
 g4:=by kernel_rfl }
open Go.RowKit Go.Lib in
theorem Tryz.strings_Split (s sep:ByteArray) (m:Int) (w:World) (hs:s.size<4294967281) (hm:w.cell? ⟨2,0,none⟩=some (.int .i64 m)) (h1:1≤sep.size) :
 Calls prog 59 #[.string s,.string sep] w fun e w' =>
  e=.returned (.slice (some ⟨w.heap.size,0,none⟩) (Lib.countB s sep+1) (Lib.countB s sep+1))∧w'=w.alloc (.cells ((Lib.splitB sep 0 (Lib.countB s sep) s).map Value.string).toArray 9):=Any.strings_Split Tryz.lays146 (by kernel_rfl) s sep m w hs hm h1
end Go.Proofs
