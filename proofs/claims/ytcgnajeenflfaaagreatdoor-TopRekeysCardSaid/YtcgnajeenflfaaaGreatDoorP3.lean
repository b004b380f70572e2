import Derived.Test.YtcgnajeenflfaaaGreatDoorP2
set_option maxRecDepth 100000
set_option maxHeartbeats 4000000
set_option linter.all false
open Go.Proofs.Tryz Go.RowKit
namespace Go.Proofs.YtcgnajeenflfaaaGreatDoor
section
open Go.Extern.Stop Go.Stop Go.Extern
theorem Ae.tL (t:Addr) (w:World):(ReflectliteValue.unpack (.iface 145 (.pointer (some t)))).run prog w
 = .ok (.agg #[.pointer (some ⟨11,145,none⟩),.pointer (some ⟨w.heap.size,0,none⟩),.int .u64 150]) (w.alloc (.cells #[.pointer (some t)] 145)):=by kernel_rfl
theorem Ae.aGy (a:Addr) (w:World):(ReflectliteValue.methodAny (ReflectliteValue.valueError "reflectlite.Value.Type" 0) (fun t _ _ _=>ReflectliteType.toType t) #[.agg #[.pointer (some ⟨11,145,none⟩),.pointer (some a),.int .u64 150]]).run prog w
 = .ok (.iface 197 (.agg #[.pointer (some ⟨11,145,none⟩)])) w:=by kernel_rfl
theorem Ae.aGz (w:World):((ReflectliteType.abiMethod fun t=>(fun a:Nat=>Value.int IntKind.u8 (a:Int)) <$> Rtype.kind t) #[.pointer (some ⟨11,145,none⟩)]).run prog w=.ok (.int .u8 22) w:=by kernel_rfl
theorem Ae.aHa (w:World):((ReflectliteType.abiMethod fun t=>(fun a:Nat=>Value.int IntKind.u8 (a:Int)) <$> Rtype.kind t) #[.pointer (some ⟨11,41,none⟩)]).run prog w=.ok (.int .u8 2) w:=by kernel_rfl
theorem Ae.wT (a:Addr) (w:World):(ReflectliteValue.parts (.agg #[.pointer (some ⟨11,145,none⟩),.pointer (some a),.int .u64 150])).run prog w=.ok (some (145,a,150)) w:=by kernel_rfl
theorem Ae.aAx (a p:Addr) (W:World) (ha:W.cell? a=some (.pointer (some p))) :
 (ReflectliteValue.method (ReflectliteValue.valueError "reflectlite.Value.IsNil" 0) ReflectliteValue.isNil #[.agg #[.pointer (some ⟨11,145,none⟩),.pointer (some a),.int .u64 150]]).run prog W=.ok (.bool false) W:=by
 rw[rlm];simp only [Sem.run_bind,Ae.wT,Result.andThen];simp[ReflectliteValue.isNil,loadVar,isAgg,underlying,underlying145,ha,Result.andThen]
theorem Ae.aHb (w:World):(ReflectliteType.method ReflectliteType.elem #[.agg #[.pointer (some ⟨11,145,none⟩)]]).run prog w=.ok (.iface 197 (.agg #[.pointer (some ⟨11,41,none⟩)])) w:=by kernel_rfl
theorem Ae.lU (w:World):(ReflectliteType.relation "Implements" ReflectliteType.implements_ #[.agg #[.pointer (some ⟨11,41,none⟩)],.iface 197 (.agg #[.pointer (some ⟨11,36,none⟩)])]).run prog w=.ok (.bool true) w:=by kernel_rfl
theorem Ae.aBv (v:Value) (w:World):(ReflectliteType.typeOf #[.iface 41 v]).run prog w=.ok (.iface 197 (.agg #[.pointer (some ⟨11,41,none⟩)])) w:=by kernel_rfl
theorem Ae.qF (w:World):(ReflectliteType.relation "AssignableTo" ReflectliteType.assignableTo #[.agg #[.pointer (some ⟨11,41,none⟩)],.iface 197 (.agg #[.pointer (some ⟨11,41,none⟩)])]).run prog w=.ok (.bool true) w:=by kernel_rfl
theorem Ae.yV (e:Int) (w:World):(ReflectliteValue.unpack (.iface 41 (.int .i64 e))).run prog w
 = .ok (.agg #[.pointer (some ⟨11,41,none⟩),.pointer (some ⟨w.heap.size,0,none⟩),.int .u64 130]) (w.alloc (.cells #[.int .i64 e] 41)):=by kernel_rfl
theorem Ae.aBw (w:World):(Rtype.elem? 145).run prog w=.ok (some 41) w:=by kernel_rfl
theorem Ae.bGl (p:Addr) (w:World):(ReflectliteValue.mk 41 p ReflectliteValue.flagAddr).run prog w=.ok (.agg #[.pointer (some ⟨11,41,none⟩),.pointer (some p),.int .u64 386]) w:=by kernel_rfl
theorem Ae.aHc (a p:Addr) (W:World) (ha:W.cell? a=some (.pointer (some p))) :
 (ReflectliteValue.method (ReflectliteValue.valueError "reflectlite.Value.Elem" 0) ReflectliteValue.elem #[.agg #[.pointer (some ⟨11,145,none⟩),.pointer (some a),.int .u64 150]]).run prog W
  = .ok (.agg #[.pointer (some ⟨11,41,none⟩),.pointer (some p),.int .u64 386]) W:=by
 rw[rlm];simp only [Sem.run_bind,Ae.wT,Result.andThen];simp[ReflectliteValue.elem,loadVar,isAgg,underlying,underlying145,ha,Result.andThen,Ae.aBw,Ae.bGl]
theorem Ae.aBx (a:Addr) (w:World):(ReflectliteValue.parts (.agg #[.pointer (some ⟨11,41,none⟩),.pointer (some a),.int .u64 386])).run prog w=.ok (some (41,a,386)) w:=by kernel_rfl
theorem Ae.aHd (a:Addr) (w:World):(ReflectliteValue.parts (.agg #[.pointer (some ⟨11,41,none⟩),.pointer (some a),.int .u64 130])).run prog w=.ok (some (41,a,130)) w:=by kernel_rfl
theorem Ae.aBy (w:World):(Rtype.directlyAssignable 41 41).run prog w=.ok true w:=by kernel_rfl
theorem Ae.aYa (ta b:Addr) (e:Int) (old:Value) (W:World) (hb:W.cell? b=some (.int .i64 e)) (ht:W.cell? ta=some old) (hf:W.frozen? ta=false) :
 (ReflectliteValue.set #[.agg #[.pointer (some ⟨11,41,none⟩),.pointer (some ta),.int .u64 386],.agg #[.pointer (some ⟨11,41,none⟩),.pointer (some b),.int .u64 130]]).run prog W
  = .ok (.tuple #[]) (W.setCell ta (.int .i64 e)):=by
 rw[rls];simp only [Sem.run_bind,Ae.aBx,Ae.aHd,Result.andThen];simp[ReflectliteValue.flagAddr,loadVar,isAgg,underlying,underlying41,hb,Result.andThen,Ae.aBy,storeVar,Value.cells,storeCells,Addr.add];rw[run_store prog W ta _ _ (by rfl)];simp[ht,hf]
theorem aHq (e:Int) (t:Addr) (old:Value) (w:World) (hg:w.cell? ⟨1,0,none⟩=some (.iface 197 (.agg #[.pointer (some ⟨11,36,none⟩)]))) (ht0:w.cell? t=some old) (hf0:w.frozen? t=false) :
 Calls prog 42 #[.iface 41 (.int .i64 e),.iface 145 (.pointer (some t))] w fun ev w'=>ev=.returned (.bool true)∧w'=((((w.alloc (.cells #[.pointer (some t)] 145)).alloc (.cells #[.pointer (some ⟨11,145,none⟩),.pointer (some ⟨w.heap.size,0,none⟩),.int .u64 150] 189)).alloc (.cells #[.pointer (some ⟨11,145,none⟩),.pointer (some ⟨w.heap.size,0,none⟩),.int .u64 150] 189)).alloc (.cells #[.int .i64 e] 41)).setCell t (.int .i64 e):=by
 have h6:=@run_callFunc_extern prog 71 _ (fun args=>ReflectliteValue.unpack (args.getD 0 (.tuple #[]))) func71 (by kernel_rfl) (by kernel_rfl) (by kernel_rfl) (by kernel_rfl);have h7:=@run_callFunc_extern prog 72 _ (ReflectliteValue.methodAny (ReflectliteValue.valueError "reflectlite.Value.Type" 0) (fun t _ _ _=>ReflectliteType.toType t)) func72 (by kernel_rfl) (by kernel_rfl) (by kernel_rfl) (by kernel_rfl);have h8:=@run_callFunc_extern prog 73 _ (ReflectliteValue.method (ReflectliteValue.valueError "reflectlite.Value.IsNil" 0) ReflectliteValue.isNil) func73 (by kernel_rfl) (by kernel_rfl) (by kernel_rfl) (by kernel_rfl);have h27:=@run_callFunc_extern prog 268 _ (ReflectliteType.abiMethod fun t=>do pure (.int .u8 (← Rtype.kind t))) func268 (by kernel_rfl) (by kernel_rfl) (by kernel_rfl) (by kernel_rfl);have h37:=@run_callFunc_extern prog 291 _ (ReflectliteType.method ReflectliteType.elem) func291 (by kernel_rfl) (by kernel_rfl) (by kernel_rfl) (by kernel_rfl);have h38:=@run_callFunc_extern prog 292 _ (ReflectliteType.relation "Implements" ReflectliteType.implements_) func292 (by kernel_rfl) (by kernel_rfl) (by kernel_rfl) (by kernel_rfl);have h10:=@run_callFunc_extern prog 45 _ ReflectliteType.typeOf func45 (by kernel_rfl) (by kernel_rfl) (by kernel_rfl) (by kernel_rfl);have h35:=@run_callFunc_extern prog 289 _ (ReflectliteType.relation "AssignableTo" ReflectliteType.assignableTo) func289 (by kernel_rfl) (by kernel_rfl) (by kernel_rfl) (by kernel_rfl)
 have h11:=@run_callFunc_extern prog 99 _ (ReflectliteValue.method (ReflectliteValue.valueError "reflectlite.Value.Elem" 0) ReflectliteValue.elem) func99 (by kernel_rfl) (by kernel_rfl) (by kernel_rfl) (by kernel_rfl);have h12:=@run_callFunc_extern prog 100 _ ReflectliteValue.set func100 (by kernel_rfl) (by kernel_rfl) (by kernel_rfl) (by kernel_rfl);have tO:=Ae.aBv;have mA:=As.iX;have a25:=Ae.qF;have v25:=Ae.yV;have f6:=Ae.tL;have f7:=Ae.aGy;have mK:=As.vH;have mE:=As.vI;have mI:=As.kJ;have k27:=Ae.aGz;have k25:=Ae.aHa;have e27:=Ae.aHb;have i25:=Ae.lU;have n8:=Ae.aAx ⟨w.heap.size,0,none⟩ t ((w.alloc (.cells #[.pointer (some t)] 145)).alloc (.cells #[.pointer (some ⟨11,145,none⟩),.pointer (some ⟨w.heap.size,0,none⟩),.int .u64 150] 189)) (by simp);have hlt:1<w.heap.size:=World.block_lt_of_cell? w _ hg;have hg2:((w.alloc (.cells #[.pointer (some t)] 145)).alloc (.cells #[.pointer (some ⟨11,145,none⟩),.pointer (some ⟨w.heap.size,0,none⟩),.int .u64 150] 189)).cell? ⟨1,0,none⟩=some (.iface 197 (.agg #[.pointer (some ⟨11,36,none⟩)])):=by
  rw[World.cell?_alloc_lt _ _ ⟨1,0,none⟩ (by simp;omega),World.cell?_alloc_lt _ _ ⟨1,0,none⟩ hlt];exact hg
 have htl:t.block<w.heap.size:=by
  rcases Nat.lt_or_ge t.block w.heap.size with h | h
  · exact h
  · simp[World.cell?,Array.getElem?_eq_none h] at ht0
 have el:=Ae.aHc ⟨w.heap.size,0,none⟩ t (((w.alloc (.cells #[.pointer (some t)] 145)).alloc (.cells #[.pointer (some ⟨11,145,none⟩),.pointer (some ⟨w.heap.size,0,none⟩),.int .u64 150] 189)).alloc (.cells #[.pointer (some ⟨11,145,none⟩),.pointer (some ⟨w.heap.size,0,none⟩),.int .u64 150] 189)) (by rw[World.cell?_alloc_lt _ _ ⟨w.heap.size,0,none⟩ (by simp;omega)];simp);have st:=Ae.aYa t ⟨w.heap.size+1+1+1,0,none⟩ e old ((((w.alloc (.cells #[.pointer (some t)] 145)).alloc (.cells #[.pointer (some ⟨11,145,none⟩),.pointer (some ⟨w.heap.size,0,none⟩),.int .u64 150] 189)).alloc (.cells #[.pointer (some ⟨11,145,none⟩),.pointer (some ⟨w.heap.size,0,none⟩),.int .u64 150] 189)).alloc (.cells #[.int .i64 e] 41))
  (by rw[World.cell?_alloc_at _ _ _ _ (by simp)];rfl)
  (by rw[World.cell?_alloc_lt _ _ t (by simp;omega),World.cell?_alloc_lt _ _ t (by simp;omega),World.cell?_alloc_lt _ _ t (by simp;omega),World.cell?_alloc_lt _ _ t htl];exact ht0)
  (by rw[World.frozen?_alloc_old _ _ t (by simp;omega),World.frozen?_alloc_old _ _ t (by simp;omega),World.frozen?_alloc_old _ _ t (by simp;omega),World.frozen?_alloc_old _ _ t (Nat.ne_of_lt htl)];exact hf0)
 go_enter func42,ntmps42;go_wp2
 refine wp_loop_rounds 1 ?_;rw[rounds_succ];go_wp2
 go_ret;exact⟨rfl,rfl⟩
theorem Ae.bDd (v:Value) (w:World):(ReflectliteType.typeOf #[.iface 347 v]).run prog w=.ok (.iface 197 (.agg #[.pointer (some ⟨11,347,none⟩)])) w:=by kernel_rfl
theorem Ae.aKu (w:World):(ReflectliteType.relation "AssignableTo" ReflectliteType.assignableTo #[.agg #[.pointer (some ⟨11,347,none⟩)],.iface 197 (.agg #[.pointer (some ⟨11,41,none⟩)])]).run prog w=.ok (.bool false) w:=by kernel_rfl
theorem bDe (v:Value) (t:Addr) (w:World) (hg:w.cell? ⟨1,0,none⟩=some (.iface 197 (.agg #[.pointer (some ⟨11,36,none⟩)]))) :
 Calls prog 42 #[.iface 347 v,.iface 145 (.pointer (some t))] w fun ev w'=>ev=.returned (.bool false)∧Below w.heap.size w w':=by
 have h6:=@run_callFunc_extern prog 71 _ (fun args=>ReflectliteValue.unpack (args.getD 0 (.tuple #[]))) func71 (by kernel_rfl) (by kernel_rfl) (by kernel_rfl) (by kernel_rfl);have h7:=@run_callFunc_extern prog 72 _ (ReflectliteValue.methodAny (ReflectliteValue.valueError "reflectlite.Value.Type" 0) (fun t _ _ _=>ReflectliteType.toType t)) func72 (by kernel_rfl) (by kernel_rfl) (by kernel_rfl) (by kernel_rfl);have h8:=@run_callFunc_extern prog 73 _ (ReflectliteValue.method (ReflectliteValue.valueError "reflectlite.Value.IsNil" 0) ReflectliteValue.isNil) func73 (by kernel_rfl) (by kernel_rfl) (by kernel_rfl) (by kernel_rfl);have h27:=@run_callFunc_extern prog 268 _ (ReflectliteType.abiMethod fun t=>do pure (.int .u8 (← Rtype.kind t))) func268 (by kernel_rfl) (by kernel_rfl) (by kernel_rfl) (by kernel_rfl);have h37:=@run_callFunc_extern prog 291 _ (ReflectliteType.method ReflectliteType.elem) func291 (by kernel_rfl) (by kernel_rfl) (by kernel_rfl) (by kernel_rfl);have h38:=@run_callFunc_extern prog 292 _ (ReflectliteType.relation "Implements" ReflectliteType.implements_) func292 (by kernel_rfl) (by kernel_rfl) (by kernel_rfl) (by kernel_rfl);have h10:=@run_callFunc_extern prog 45 _ ReflectliteType.typeOf func45 (by kernel_rfl) (by kernel_rfl) (by kernel_rfl) (by kernel_rfl);have h35:=@run_callFunc_extern prog 289 _ (ReflectliteType.relation "AssignableTo" ReflectliteType.assignableTo) func289 (by kernel_rfl) (by kernel_rfl) (by kernel_rfl) (by kernel_rfl)
 have h11:=@run_callFunc_extern prog 99 _ (ReflectliteValue.method (ReflectliteValue.valueError "reflectlite.Value.Elem" 0) ReflectliteValue.elem) func99 (by kernel_rfl) (by kernel_rfl) (by kernel_rfl) (by kernel_rfl);have h12:=@run_callFunc_extern prog 100 _ ReflectliteValue.set func100 (by kernel_rfl) (by kernel_rfl) (by kernel_rfl) (by kernel_rfl);have tO:=Ae.bDd;have mA:=As.iX;have a25:=Ae.aKu;have t1:=fun (v:Value) (w:World)=>run_typeAssert_lacksB (P:=prog) (z:=.nilIface) (t:=347) underlying238 (by kernel_rfl) (by kernel_rfl) v 36 w
 have t2:=fun (v:Value) (w:World)=>run_typeAssert_lacksB (P:=prog) (z:=.nilIface) (t:=347) underlying202 (by kernel_rfl) (by kernel_rfl) v 36 w
 have t3:=fun (v:Value) (w:World)=>run_typeAssert_lacksB (P:=prog) (z:=.nilIface) (t:=347) underlying204 (by kernel_rfl) (by kernel_rfl) v 36 w
 have f6:=Ae.tL;have f7:=Ae.aGy;have mK:=As.vH;have mE:=As.vI;have mI:=As.kJ;have k27:=Ae.aGz;have k25:=Ae.aHa;have e27:=Ae.aHb;have i25:=Ae.lU;have n8:=Ae.aAx ⟨w.heap.size,0,none⟩ t ((w.alloc (.cells #[.pointer (some t)] 145)).alloc (.cells #[.pointer (some ⟨11,145,none⟩),.pointer (some ⟨w.heap.size,0,none⟩),.int .u64 150] 189)) (by simp);have hlt:1<w.heap.size:=World.block_lt_of_cell? w _ hg;have hg2:((w.alloc (.cells #[.pointer (some t)] 145)).alloc (.cells #[.pointer (some ⟨11,145,none⟩),.pointer (some ⟨w.heap.size,0,none⟩),.int .u64 150] 189)).cell? ⟨1,0,none⟩=some (.iface 197 (.agg #[.pointer (some ⟨11,36,none⟩)])):=by
  rw[World.cell?_alloc_lt _ _ ⟨1,0,none⟩ (by simp;omega),World.cell?_alloc_lt _ _ ⟨1,0,none⟩ hlt];exact hg
 go_enter func42,ntmps42;go_wp2
 refine wp_loop_rounds 1 ?_;rw[rounds_succ];go_wp2
 go_ret;exact⟨rfl,by repeat (first | exact Below.refl _ _ | refine Below.alloc ?_ (by simp;try omega) _)⟩
end
