import Derived.Test.YtcgnajeenflfaaaGreatDoorP31
set_option maxRecDepth 100000
set_option maxHeartbeats 4000000
set_option linter.all false
open Go.Proofs.Tryz Go.RowKit
namespace Go.Proofs.YtcgnajeenflfaaaGreatDoor
namespace Sc
open V (Same)
theorem topNumber_any (c:UInt8) (hc:c≠0) (w:World):Calls prog 16 #[.int .u8 (c.toNat:Int)] w fun e w'=>e=.returned (.agg #[.int .u8 2,.bool false,.bool false,.string ⟨#[c]⟩,.string ⟨#[]⟩,.slice none 0 0])∧Below w.heap.size w w':=by
 have hcv:=conv_one c
 have q1:((c.toNat:Int)==0)=false:=by
  have:c.toNat≠0:=fun e=>hc (UInt8.toNat_inj.1 (by rw[e];rfl))
  simp;omega
 clear hc
 go_enter func16,ntmps16
 go_wp2_with fail
 refine bodyPost_ret (v:=.agg #[.int .u8 2,.bool false,.bool false,.string ⟨#[c]⟩,.string ⟨#[]⟩,.slice none 0 0]) (by simp[results,Tryz.f16,go_sem]) rfl ?_
 exact⟨rfl,(zr.alloc lr _).alloc (by simp) _⟩
theorem topTuple_any (a:Option Addr) (n c:Nat) (w:World):Calls prog 15 #[.slice a n c] w fun e w'=>e=.returned (.agg #[.int .u8 7,.bool false,.bool false,.string ⟨#[]⟩,.string ⟨#[]⟩,.slice a n c])∧Below w.heap.size w w':=by
 go_enter func15,ntmps15
 go_wp2_with fail
 refine bodyPost_ret (v:=.agg #[.int .u8 7,.bool false,.bool false,.string ⟨#[]⟩,.string ⟨#[]⟩,.slice a n c]) (by simp[results,Tryz.f15,go_sem]) rfl ?_
 exact⟨rfl,zr.alloc lr _⟩
def sNum:Fd:=.mk ⟨#[97]⟩ 2 true 0 false false ⟨#[]⟩ false ⟨#[]⟩ 0 ⟨0,false,false⟩ []
def sTxt:Fd:=.mk ⟨#[116]⟩ 6 false 0 false false ⟨#[]⟩ false ⟨#[]⟩ 0 ⟨1,false,false⟩ []
theorem small_fi {w:World} {B:Nat} (hB:Blk w B 79 #[.string ⟨#[97]⟩,.int .u8 2,.bool true,.int .u8 0,.bool false,.bool false,.string ⟨#[]⟩,.bool false,.string ⟨#[]⟩,.int .i64 0,.int .i64 0,.bool false,.bool false,.slice none 0 0,.string ⟨#[116]⟩,.int .u8 6,.bool false,.int .u8 0,.bool false,.bool false,.string ⟨#[]⟩,.bool false,.string ⟨#[]⟩,.int .i64 0,.int .i64 1,.bool false,.bool false,.slice none 0 0]):FI w 0 (B+1) [sNum,sTxt] (.slice (some ⟨B,0,none⟩) 2 2):=by
 have c0:FCells w B 0 sNum (.slice none 0 0):=by
  intro k hk
  match k,hk with
   | 0,_=>exact hB.cell 0
   | 1,_=>exact hB.cell 1
   | 2,_=>exact hB.cell 2
   | 3,_=>exact hB.cell 3
   | 4,_=>exact hB.cell 4
   | 5,_=>exact hB.cell 5
   | 6,_=>exact hB.cell 6
   | 7,_=>exact hB.cell 7
   | 8,_=>exact hB.cell 8
   | 9,_=>exact hB.cell 9
   | 10,_=>exact hB.cell 10
   | 11,_=>exact hB.cell 11
   | 12,_=>exact hB.cell 12
   | 13,_=>exact hB.cell 13
   | n+14,h=>exact absurd h (by omega)
 have c1:FCells w B 14 sTxt (.slice none 0 0):=by
  intro k hk
  match k,hk with
   | 0,_=>exact hB.cell 14
   | 1,_=>exact hB.cell 15
   | 2,_=>exact hB.cell 16
   | 3,_=>exact hB.cell 17
   | 4,_=>exact hB.cell 18
   | 5,_=>exact hB.cell 19
   | 6,_=>exact hB.cell 20
   | 7,_=>exact hB.cell 21
   | 8,_=>exact hB.cell 22
   | 9,_=>exact hB.cell 23
   | 10,_=>exact hB.cell 24
   | 11,_=>exact hB.cell 25
   | 12,_=>exact hB.cell 26
   | 13,_=>exact hB.cell 27
   | n+14,h=>exact absurd h (by omega)
 have ff0:FFit sNum:=⟨by decide,by decide,by decide,by decide,by decide,(by unfold D.isI64;decide),(by unfold D.isI64;decide),by decide⟩
 have ff1:FFit sTxt:=⟨by decide,by decide,by decide,by decide,by decide,(by unfold D.isI64;decide),(by unfold D.isI64;decide),by decide⟩
 refine FI.mk (w:=w) [sNum,sTxt] (some ⟨B,0,none⟩) 2 (fun _=>.slice none 0 0) lr (fun j hj=>?_) (fun j hj=>?_) (fun j hj=>?_)
 · match j,hj with
   | 0,_=>exact⟨B,0,rfl,Nat.zero_le _,Nat.lt_succ_self _,c0⟩
   | 1,_=>exact⟨B,0,rfl,Nat.zero_le _,Nat.lt_succ_self _,c1⟩
 · match j,hj with
   | 0,_=>exact ff0
   | 1,_=>exact ff1
 · match j,hj with
   | 0,_=>exact FI.nil _ _ _
   | 1,_=>exact FI.nil _ _ _
theorem topSmall_any (w:World):Calls prog 17 #[] w fun e w'=>∃ B,B<w'.heap.size∧e=.returned (.agg #[.int .i64 200,.slice (some ⟨B,0,none⟩) 2 2])∧FI w' 0 w'.heap.size [sNum,sTxt] (.slice (some ⟨B,0,none⟩) 2 2)∧Below w.heap.size w w':=by
 go_enter func17,ntmps17
 go_wp2_with fail
 refine bodyPost_ret (v:=.agg #[.int .i64 200,.slice (some ⟨w.heap.size+1,0,none⟩) 2 2]) (by simp[results,Tryz.f17,go_sem]) rfl ?_
 have hB:=Blk.new (w.alloc (.cells #[.int .i64 200,.slice (some ⟨w.heap.size+1,0,none⟩) 2 2] 26)) 79 #[.string ⟨#[97]⟩,.int .u8 2,.bool true,.int .u8 0,.bool false,.bool false,.string ⟨#[]⟩,.bool false,.string ⟨#[]⟩,.int .i64 0,.int .i64 0,.bool false,.bool false,.slice none 0 0,.string ⟨#[116]⟩,.int .u8 6,.bool false,.int .u8 0,.bool false,.bool false,.string ⟨#[]⟩,.bool false,.string ⟨#[]⟩,.int .i64 0,.int .i64 1,.bool false,.bool false,.slice none 0 0]
 rw[World.size_alloc] at hB
 exact⟨w.heap.size+1,hB.lt,rfl,(small_fi hB).wide lr hB.lt,(zr.alloc lr _).alloc (by simp) _⟩
end Sc
namespace Ta
theorem syllable_any (x:Int) (w:World):Calls prog 115 #[.int .i64 x] w fun e w'=>e=.returned (.bool (YtcgnajeenflfaaaGreatDoor.D.sylB x))∧w'=w:=by
 by_cases h1:44032≤x
 · by_cases h2:x<55204
   · rw[show YtcgnajeenflfaaaGreatDoor.D.sylB x=true by simp[YtcgnajeenflfaaaGreatDoor.D.sylB];omega]
     have d0:decide (44032≤x)=true:=by simp;omega
     have d1:decide (x<55204)=true:=by simp;omega
     clear h1 h2
     go_enter func115,ntmps115
     go_wp2_with fail
     go_ret
     exact⟨rfl,rfl⟩
   · rw[show YtcgnajeenflfaaaGreatDoor.D.sylB x=false by simp[YtcgnajeenflfaaaGreatDoor.D.sylB];omega]
     have d0:decide (44032≤x)=true:=by simp;omega
     have d1:decide (x<55204)=false:=by simp;omega
     clear h1 h2
     go_enter func115,ntmps115
     go_wp2_with fail
     go_ret
     exact⟨rfl,rfl⟩
 · rw[show YtcgnajeenflfaaaGreatDoor.D.sylB x=false by simp[YtcgnajeenflfaaaGreatDoor.D.sylB];omega]
   have d0:decide (44032≤x)=false:=by simp;omega
   clear h1
   go_enter func115,ntmps115
   go_wp2_with fail
   go_ret
   exact⟨rfl,rfl⟩
def El.fits (x:El):Prop:=(0≤x.p∧x.p≤65535)∧(0≤x.s∧x.s≤65535)∧(0≤x.t∧x.t≤65535)
def RightPost (x:El) (w:World) (e:Ending) (w':World):Prop:=(∃ b:Bool,e=.returned (.bool b)∧(b=true→x.fits))∧Below w.heap.size w w'
theorem right_fine (x:El) (w:World) (hx:x.fits):Calls prog 64 #[.agg #[.bool x.v,.int .i64 x.p,.int .i64 x.s,.int .i64 x.t]] w (RightPost x w):=by
 obtain⟨v,p,s,t⟩:=x
 obtain⟨⟨p1,p2⟩,⟨s1,s2⟩,t1,t2⟩:=hx
 simp only at p1 p2 s1 s2 t1 t2
 have HX:=zh (show El.fits ⟨v,p,s,t⟩ from⟨⟨p1,p2⟩,⟨s1,s2⟩,t1,t2⟩)
 have a1:decide (p<0)=false:=decide_eq_false (by omega)
 have a2:decide (65535<p)=false:=decide_eq_false (by omega)
 have a3:decide (s<0)=false:=decide_eq_false (by omega)
 have a4:decide (65535<s)=false:=decide_eq_false (by omega)
 have a5:decide (t<0)=false:=decide_eq_false (by omega)
 have a6:decide (65535<t)=false:=decide_eq_false (by omega)
 clear p1 p2 s1 s2 t1 t2
 go_enter func64,ntmps64
 go_wp2_with fail
 refine wp_loop_rounds 4 ?_
 rw[rounds_succ]
 go_wp2_with fail
 rw[rounds_succ]
 go_wp2_with fail
 rw[rounds_succ]
 go_wp2_with fail
 rw[rounds_succ]
 obtain⟨b1,hb1⟩:∃ b,decide (p≤64319)=b:=⟨_,rfl⟩
 obtain⟨b2,hb2⟩:∃ b,(p==0)=b:=⟨_,rfl⟩
 obtain⟨b3,hb3⟩:∃ b,(s != 0)=b:=⟨_,rfl⟩
 obtain⟨b4,hb4⟩:∃ b,(s==0)=b:=⟨_,rfl⟩
 obtain⟨b5,hb5⟩:∃ b,(t != 0)=b:=⟨_,rfl⟩
 obtain⟨b6,hb6⟩:∃ b,(p != 0)=b:=⟨_,rfl⟩
 cases b1<;>cases b2<;>cases b3<;>cases b4<;>cases b5<;>cases b6<;>cases v
 all_goals
  go_wp2_with fail
  go_ret
  exact⟨⟨_,rfl,fun _=>HX.out⟩,(zr.alloc lr _).alloc (by simp) _⟩
theorem right_bad (x:El) (w:World) (hx:¬ x.fits):Calls prog 64 #[.agg #[.bool x.v,.int .i64 x.p,.int .i64 x.s,.int .i64 x.t]] w (RightPost x w):=by
 obtain⟨v,p,s,t⟩:=x
 simp only
 by_cases hp1:p<0
 · have ap1:decide (p<0)=true:=decide_eq_true hp1
   clear hx
   go_enter func64,ntmps64
   go_wp2_with fail
   refine wp_loop_rounds 4 ?_
   rw[rounds_succ]
   go_wp2_with fail
   go_ret
   exact⟨⟨_,rfl,fun h=>by cases h⟩,(zr.alloc lr _).alloc (by simp) _⟩
 have ap1:decide (p<0)=false:=decide_eq_false hp1
 by_cases hp2:65535<p
 · have ap2:decide (65535<p)=true:=decide_eq_true hp2
   clear hx
   go_enter func64,ntmps64
   go_wp2_with fail
   refine wp_loop_rounds 4 ?_
   rw[rounds_succ]
   go_wp2_with fail
   go_ret
   exact⟨⟨_,rfl,fun h=>by cases h⟩,(zr.alloc lr _).alloc (by simp) _⟩
 have ap2:decide (65535<p)=false:=decide_eq_false hp2
 by_cases hs1:s<0
 · have as1:decide (s<0)=true:=decide_eq_true hs1
   clear hx
   go_enter func64,ntmps64
   go_wp2_with fail
   refine wp_loop_rounds 4 ?_
   rw[rounds_succ]
   go_wp2_with fail
   rw[rounds_succ]
   go_wp2_with fail
   go_ret
   exact⟨⟨_,rfl,fun h=>by cases h⟩,(zr.alloc lr _).alloc (by simp) _⟩
 have as1:decide (s<0)=false:=decide_eq_false hs1
 by_cases hs2:65535<s
 · have as2:decide (65535<s)=true:=decide_eq_true hs2
   clear hx
   go_enter func64,ntmps64
   go_wp2_with fail
   refine wp_loop_rounds 4 ?_
   rw[rounds_succ]
   go_wp2_with fail
   rw[rounds_succ]
   go_wp2_with fail
   go_ret
   exact⟨⟨_,rfl,fun h=>by cases h⟩,(zr.alloc lr _).alloc (by simp) _⟩
 have as2:decide (65535<s)=false:=decide_eq_false hs2
 by_cases ht1:t<0
 · have at1:decide (t<0)=true:=decide_eq_true ht1
   clear hx
   go_enter func64,ntmps64
   go_wp2_with fail
   refine wp_loop_rounds 4 ?_
   rw[rounds_succ]
   go_wp2_with fail
   rw[rounds_succ]
   go_wp2_with fail
   rw[rounds_succ]
   go_wp2_with fail
   go_ret
   exact⟨⟨_,rfl,fun h=>by cases h⟩,(zr.alloc lr _).alloc (by simp) _⟩
 have at1:decide (t<0)=false:=decide_eq_false ht1
 by_cases ht2:65535<t
 · have at2:decide (65535<t)=true:=decide_eq_true ht2
   clear hx
   go_enter func64,ntmps64
   go_wp2_with fail
   refine wp_loop_rounds 4 ?_
   rw[rounds_succ]
   go_wp2_with fail
   rw[rounds_succ]
   go_wp2_with fail
   rw[rounds_succ]
   go_wp2_with fail
   go_ret
   exact⟨⟨_,rfl,fun h=>by cases h⟩,(zr.alloc lr _).alloc (by simp) _⟩
 have at2:decide (65535<t)=false:=decide_eq_false ht2
 exact absurd (⟨⟨(by omega:0≤p),(by omega:p≤65535)⟩,⟨(by omega:0≤s),(by omega:s≤65535)⟩,(by omega:0≤t),(by omega:t≤65535)⟩:El.fits ⟨v,p,s,t⟩) hx
theorem right_any (x:El) (w:World):Calls prog 64 #[.agg #[.bool x.v,.int .i64 x.p,.int .i64 x.s,.int .i64 x.t]] w (RightPost x w):=by
 by_cases h:x.fits
 · exact right_fine x w h
 · exact right_bad x w h
end Ta
section
open Go.Extern.Stop Go.Stop Go.Extern
theorem As.valueOf27 (t:Addr) (w:World):(ReflectliteValue.unpack (.iface 114 (.pointer (some t)))).run prog w
 = .ok (.agg #[.pointer (some ⟨11,114,none⟩),.pointer (some ⟨w.heap.size,0,none⟩),.int .u64 150]) (w.alloc (.cells #[.pointer (some t)] 114)):=by kernel_rfl
theorem As.type27 (a:Addr) (w:World):(ReflectliteValue.methodAny (ReflectliteValue.valueError "reflectlite.Value.Type" 0) (fun t _ _ _=>ReflectliteType.toType t) #[.agg #[.pointer (some ⟨11,114,none⟩),.pointer (some a),.int .u64 150]]).run prog w
 = .ok (.iface 197 (.agg #[.pointer (some ⟨11,114,none⟩)])) w:=by kernel_rfl
theorem As.methodKind (h:Value) (w:World):(Go.method 512 197 (.agg #[h]) "Kind").run prog w=.ok (268,h) w:=by kernel_rfl
theorem As.kind27 (w:World):((ReflectliteType.abiMethod fun t=>(fun a:Nat=>Value.int IntKind.u8 (a:Int)) <$> Rtype.kind t) #[.pointer (some ⟨11,114,none⟩)]).run prog w=.ok (.int .u8 22) w:=by kernel_rfl
theorem As.kind25 (w:World):((ReflectliteType.abiMethod fun t=>(fun a:Nat=>Value.int IntKind.u8 (a:Int)) <$> Rtype.kind t) #[.pointer (some ⟨11,39,none⟩)]).run prog w=.ok (.int .u8 22) w:=by kernel_rfl
theorem rlm (z:Sem Value) (f:TypeId→Addr→Nat→Nat→Sem Value) (v:Value) :
 ReflectliteValue.method z f #[v]=(do match ← ReflectliteValue.parts v with | none=>z | some (t,a,fl)=>f t a fl (fl % 32)):=rfl
theorem As.parts27 (a:Addr) (w:World):(ReflectliteValue.parts (.agg #[.pointer (some ⟨11,114,none⟩),.pointer (some a),.int .u64 150])).run prog w=.ok (some (114,a,150)) w:=by kernel_rfl
theorem As.isNil27 (a p:Addr) (W:World) (ha:W.cell? a=some (.pointer (some p))) :
 (ReflectliteValue.method (ReflectliteValue.valueError "reflectlite.Value.IsNil" 0) ReflectliteValue.isNil #[.agg #[.pointer (some ⟨11,114,none⟩),.pointer (some a),.int .u64 150]]).run prog W=.ok (.bool false) W:=by
 rw[rlm]
 simp only [Sem.run_bind,As.parts27,Result.andThen]
 simp[ReflectliteValue.isNil,loadVar,isAgg,underlying,underlying114,ha,Result.andThen]
theorem As.methodElem (h:Value) (w:World):(Go.method 512 197 (.agg #[h]) "Elem").run prog w=.ok (291,.agg #[h]) w:=by kernel_rfl
theorem As.methodImplements (h:Value) (w:World):(Go.method 512 197 (.agg #[h]) "Implements").run prog w=.ok (292,.agg #[h]) w:=by kernel_rfl
theorem As.methodAssignableTo (h:Value) (w:World):(Go.method 512 197 (.agg #[h]) "AssignableTo").run prog w=.ok (289,.agg #[h]) w:=by kernel_rfl
theorem As.elem27 (w:World):(ReflectliteType.method ReflectliteType.elem #[.agg #[.pointer (some ⟨11,114,none⟩)]]).run prog w=.ok (.iface 197 (.agg #[.pointer (some ⟨11,39,none⟩)])) w:=by kernel_rfl
theorem As.implements25 (w:World):(ReflectliteType.relation "Implements" ReflectliteType.implements_ #[.agg #[.pointer (some ⟨11,39,none⟩)],.iface 197 (.agg #[.pointer (some ⟨11,36,none⟩)])]).run prog w=.ok (.bool true) w:=by kernel_rfl
theorem As.typeOf25 (v:Value) (w:World):(ReflectliteType.typeOf #[.iface 39 v]).run prog w=.ok (.iface 197 (.agg #[.pointer (some ⟨11,39,none⟩)])) w:=by kernel_rfl
theorem As.assignable25 (w:World):(ReflectliteType.relation "AssignableTo" ReflectliteType.assignableTo #[.agg #[.pointer (some ⟨11,39,none⟩)],.iface 197 (.agg #[.pointer (some ⟨11,39,none⟩)])]).run prog w=.ok (.bool true) w:=by kernel_rfl
theorem As.valueOf25 (e:Addr) (w:World):(ReflectliteValue.unpack (.iface 39 (.pointer (some e)))).run prog w
 = .ok (.agg #[.pointer (some ⟨11,39,none⟩),.pointer (some ⟨w.heap.size,0,none⟩),.int .u64 150]) (w.alloc (.cells #[.pointer (some e)] 39)):=by kernel_rfl
theorem As.elemOf27 (w:World):(Rtype.elem? 114).run prog w=.ok (some 39) w:=by kernel_rfl
theorem As.mk25 (p:Addr) (w:World):(ReflectliteValue.mk 39 p ReflectliteValue.flagAddr).run prog w=.ok (.agg #[.pointer (some ⟨11,39,none⟩),.pointer (some p),.int .u64 406]) w:=by kernel_rfl
theorem As.elemV27 (a p:Addr) (W:World) (ha:W.cell? a=some (.pointer (some p))) :
 (ReflectliteValue.method (ReflectliteValue.valueError "reflectlite.Value.Elem" 0) ReflectliteValue.elem #[.agg #[.pointer (some ⟨11,114,none⟩),.pointer (some a),.int .u64 150]]).run prog W
  = .ok (.agg #[.pointer (some ⟨11,39,none⟩),.pointer (some p),.int .u64 406]) W:=by
 rw[rlm]
 simp only [Sem.run_bind,As.parts27,Result.andThen]
 simp[ReflectliteValue.elem,loadVar,isAgg,underlying,underlying114,ha,Result.andThen,As.elemOf27,As.mk25]
theorem rls (v x:Value):ReflectliteValue.set #[v,x]=(do
 let (some (dst,a,fl),some (src,b,_)):=(← ReflectliteValue.parts v,← ReflectliteValue.parts x)
  | unsupported (.noEntry "extern/(internal/reflectlite.Value).Set.zeroValue")
 if fl / ReflectliteValue.flagAddr % 2==0 then unsupported (.noEntry "extern/(internal/reflectlite.Value).Set.unaddressable")
 let val ← loadVar src b
 if ← Rtype.directlyAssignable dst src then storeVar dst a val
 else if ← Rtype.implements dst src then
  if (← Rtype.kind src)==20 then
   match val with
   | .nilIface=>unsupported (.noEntry "extern/reflectlite: a nil value of one interface type handed on as a value of another")
   | _=>storeVar dst a val
  else storeVar dst a (.iface src val)
 else panicString ("reflectlite.Set: value of type " ++ (← Rtype.spelt src) ++ " is not assignable to type " ++ (← Rtype.spelt dst))
 pure (.tuple #[])):=rfl
theorem As.parts25a (a:Addr) (w:World):(ReflectliteValue.parts (.agg #[.pointer (some ⟨11,39,none⟩),.pointer (some a),.int .u64 406])).run prog w=.ok (some (39,a,406)) w:=by kernel_rfl
theorem As.parts25 (a:Addr) (w:World):(ReflectliteValue.parts (.agg #[.pointer (some ⟨11,39,none⟩),.pointer (some a),.int .u64 150])).run prog w=.ok (some (39,a,150)) w:=by kernel_rfl
theorem As.direct25 (w:World):(Rtype.directlyAssignable 39 39).run prog w=.ok true w:=by kernel_rfl
theorem As.set25 (ta b e:Addr) (old:Value) (W:World) (hb:W.cell? b=some (.pointer (some e))) (ht:W.cell? ta=some old) (hf:W.frozen? ta=false) :
 (ReflectliteValue.set #[.agg #[.pointer (some ⟨11,39,none⟩),.pointer (some ta),.int .u64 406],.agg #[.pointer (some ⟨11,39,none⟩),.pointer (some b),.int .u64 150]]).run prog W
  = .ok (.tuple #[]) (W.setCell ta (.pointer (some e))):=by
 rw[rls]
 simp only [Sem.run_bind,As.parts25a,As.parts25,Result.andThen]
 simp[ReflectliteValue.flagAddr,loadVar,isAgg,underlying,underlying39,hb,Result.andThen,As.direct25,storeVar,Value.cells,storeCells,Addr.add]
 rw[run_store prog W ta _ _ (by rfl)]
 simp[ht,hf]
theorem as_hit (e t:Addr) (old:Value) (w:World) (hg:w.cell? ⟨1,0,none⟩=some (.iface 197 (.agg #[.pointer (some ⟨11,36,none⟩)]))) (ht0:w.cell? t=some old) (hf0:w.frozen? t=false) :
 Calls prog 42 #[.iface 39 (.pointer (some e)),.iface 114 (.pointer (some t))] w fun ev w'=>ev=.returned (.bool true)∧w'=((((w.alloc (.cells #[.pointer (some t)] 114)).alloc (.cells #[.pointer (some ⟨11,114,none⟩),.pointer (some ⟨w.heap.size,0,none⟩),.int .u64 150] 189)).alloc (.cells #[.pointer (some ⟨11,114,none⟩),.pointer (some ⟨w.heap.size,0,none⟩),.int .u64 150] 189)).alloc (.cells #[.pointer (some e)] 39)).setCell t (.pointer (some e)):=by
 have h6:=@run_callFunc_extern prog 71 _ (fun args=>ReflectliteValue.unpack (args.getD 0 (.tuple #[]))) func71 (by kernel_rfl) (by kernel_rfl) (by kernel_rfl) (by kernel_rfl)
 have h7:=@run_callFunc_extern prog 72 _ (ReflectliteValue.methodAny (ReflectliteValue.valueError "reflectlite.Value.Type" 0) (fun t _ _ _=>ReflectliteType.toType t)) func72 (by kernel_rfl) (by kernel_rfl) (by kernel_rfl) (by kernel_rfl)
 have h8:=@run_callFunc_extern prog 73 _ (ReflectliteValue.method (ReflectliteValue.valueError "reflectlite.Value.IsNil" 0) ReflectliteValue.isNil) func73 (by kernel_rfl) (by kernel_rfl) (by kernel_rfl) (by kernel_rfl)
 have h27:=@run_callFunc_extern prog 268 _ (ReflectliteType.abiMethod fun t=>do pure (.int .u8 (← Rtype.kind t))) func268 (by kernel_rfl) (by kernel_rfl) (by kernel_rfl) (by kernel_rfl)
 have h37:=@run_callFunc_extern prog 291 _ (ReflectliteType.method ReflectliteType.elem) func291 (by kernel_rfl) (by kernel_rfl) (by kernel_rfl) (by kernel_rfl)
 have h38:=@run_callFunc_extern prog 292 _ (ReflectliteType.relation "Implements" ReflectliteType.implements_) func292 (by kernel_rfl) (by kernel_rfl) (by kernel_rfl) (by kernel_rfl)
 have h10:=@run_callFunc_extern prog 45 _ ReflectliteType.typeOf func45 (by kernel_rfl) (by kernel_rfl) (by kernel_rfl) (by kernel_rfl)
 have h35:=@run_callFunc_extern prog 289 _ (ReflectliteType.relation "AssignableTo" ReflectliteType.assignableTo) func289 (by kernel_rfl) (by kernel_rfl) (by kernel_rfl) (by kernel_rfl)
 have h11:=@run_callFunc_extern prog 99 _ (ReflectliteValue.method (ReflectliteValue.valueError "reflectlite.Value.Elem" 0) ReflectliteValue.elem) func99 (by kernel_rfl) (by kernel_rfl) (by kernel_rfl) (by kernel_rfl)
 have h12:=@run_callFunc_extern prog 100 _ ReflectliteValue.set func100 (by kernel_rfl) (by kernel_rfl) (by kernel_rfl) (by kernel_rfl)
 have tO:=As.typeOf25
 have mA:=As.methodAssignableTo
 have a25:=As.assignable25
 have v25:=As.valueOf25
 have f6:=As.valueOf27
 have f7:=As.type27
 have mK:=As.methodKind
 have mE:=As.methodElem
 have mI:=As.methodImplements
 have k27:=As.kind27
 have k25:=As.kind25
 have e27:=As.elem27
 have i25:=As.implements25
 have n8:=As.isNil27 ⟨w.heap.size,0,none⟩ t ((w.alloc (.cells #[.pointer (some t)] 114)).alloc (.cells #[.pointer (some ⟨11,114,none⟩),.pointer (some ⟨w.heap.size,0,none⟩),.int .u64 150] 189)) (by simp)
 have hlt:1<w.heap.size:=World.block_lt_of_cell? w _ hg
 have hg2:((w.alloc (.cells #[.pointer (some t)] 114)).alloc (.cells #[.pointer (some ⟨11,114,none⟩),.pointer (some ⟨w.heap.size,0,none⟩),.int .u64 150] 189)).cell? ⟨1,0,none⟩=some (.iface 197 (.agg #[.pointer (some ⟨11,36,none⟩)])):=by
  rw[World.cell?_alloc_lt _ _ ⟨1,0,none⟩ (by simp;omega),World.cell?_alloc_lt _ _ ⟨1,0,none⟩ hlt];exact hg
 have htl:t.block<w.heap.size:=by
  rcases Nat.lt_or_ge t.block w.heap.size with h | h
  · exact h
  · simp[World.cell?,Array.getElem?_eq_none h] at ht0
 have el:=As.elemV27 ⟨w.heap.size,0,none⟩ t (((w.alloc (.cells #[.pointer (some t)] 114)).alloc (.cells #[.pointer (some ⟨11,114,none⟩),.pointer (some ⟨w.heap.size,0,none⟩),.int .u64 150] 189)).alloc (.cells #[.pointer (some ⟨11,114,none⟩),.pointer (some ⟨w.heap.size,0,none⟩),.int .u64 150] 189)) (by rw[World.cell?_alloc_lt _ _ ⟨w.heap.size,0,none⟩ (by simp;omega)];simp)
 have st:=As.set25 t ⟨w.heap.size+1+1+1,0,none⟩ e old ((((w.alloc (.cells #[.pointer (some t)] 114)).alloc (.cells #[.pointer (some ⟨11,114,none⟩),.pointer (some ⟨w.heap.size,0,none⟩),.int .u64 150] 189)).alloc (.cells #[.pointer (some ⟨11,114,none⟩),.pointer (some ⟨w.heap.size,0,none⟩),.int .u64 150] 189)).alloc (.cells #[.pointer (some e)] 39))
  (by rw[World.cell?_alloc_at _ _ _ _ (by simp)];rfl)
  (by rw[World.cell?_alloc_lt _ _ t (by simp;omega),World.cell?_alloc_lt _ _ t (by simp;omega),World.cell?_alloc_lt _ _ t (by simp;omega),World.cell?_alloc_lt _ _ t htl];exact ht0)
  (by rw[World.frozen?_alloc_old _ _ t (by simp;omega),World.frozen?_alloc_old _ _ t (by simp;omega),World.frozen?_alloc_old _ _ t (by simp;omega),World.frozen?_alloc_old _ _ t (Nat.ne_of_lt htl)];exact hf0)
 go_enter func42,ntmps42
 go_wp2
 refine wp_loop_rounds 1 ?_
 rw[rounds_succ]
 go_wp2
 go_ret
 exact⟨rfl,rfl⟩
end
namespace V
theorem is_truth_truth (V:Value) (w:World):(Instr.typeAssert (.iface 148 V) 34 148 true).run prog w=.ok (.tuple #[V,.bool true]) w:=by kernel_rfl
theorem is_truth_whole (V:Value) (w:World):(Instr.typeAssert (.iface 220 V) 34 148 true).run prog w=.ok (.tuple #[.agg #[.bool false],.bool false]) w:=by kernel_rfl
theorem is_truth_row (V:Value) (w:World):(Instr.typeAssert (.iface 222 V) 34 148 true).run prog w=.ok (.tuple #[.agg #[.bool false],.bool false]) w:=by kernel_rfl
theorem is_truth_tuple (V:Value) (w:World):(Instr.typeAssert (.iface 118 V) 34 148 true).run prog w=.ok (.tuple #[.agg #[.bool false],.bool false]) w:=by kernel_rfl
theorem samev_truth (x y:Bool) (w:World) :
 Calls prog 36 #[.iface 148 (.agg #[.bool x]),.iface 148 (.agg #[.bool y])] w fun e w'=>e=.returned (.bool (x==y))∧Below w.heap.size w w':=by
 have f1:=is_truth_truth
 have m1:∀ w:World,(method 512 148 (.agg #[.bool x]) "Kind").run prog w=.ok (282,.agg #[.bool x]) w:=fun _=>by kernel_rfl
 have m2:∀ w:World,(method 512 148 (.agg #[.bool y]) "Kind").run prog w=.ok (282,.agg #[.bool y]) w:=fun _=>by kernel_rfl
 have m3:∀ w:World,(method 512 148 (.agg #[.bool y]) "Part").run prog w=.ok (283,.agg #[.bool y]) w:=fun _=>by kernel_rfl
 have fd:∀ w:World,(Instr.field 57 (.agg #[.int .u8 1,.bool y,.bool false,.string ⟨#[]⟩,.string ⟨#[]⟩,.slice none 0 0]) 1).run prog w=.ok (.bool y) w:=fun _=>by kernel_rfl
 go_enter func36,ntmps36
 go_wp2_with fail
 refine(kind_truth _ _).mono ?_
 rintro e w1 ⟨rfl,hb1⟩
 go_wp2_with fail
 refine(kind_truth _ _).mono ?_
 rintro e w2 ⟨rfl,hb2⟩
 go_wp2_with fail
 have hB:Below w.heap.size w w2:=two hb1 hb2
 have hBa:=hB.alloc hB.size (.cells #[.bool x] 148)
 have hc:(w2.alloc (.cells #[.bool x] 148)).cell? ⟨w2.heap.size,0,none⟩=some (.bool x):=by simp
 obtain⟨W3,hW3⟩:∃ W3,W3=w2.alloc (.cells #[.bool x] 148):=⟨_,rfl⟩
 rw[← hW3] at hBa hc ⊢
 have hBd:=hBa.drew
 clear hW3
 go_region_held3 (fun w'=>w'.cell? ⟨w2.heap.size,0,none⟩=some (.bool x)∧Below w.heap.size w w') (go_keep) (first
  | (go_at_call 283;refine(part_truth y _).mono ?_;rintro e w4 ⟨rfl,hb4⟩;have k1:=keeps hb4 (p:=⟨w2.heap.size,0,none⟩) (v:=.bool x) (by assumption);have k2:=two (by assumption) hb4))
 go_wp2_with fail
 go_ret
 exact⟨rfl,by assumption⟩
theorem samev_whole (x y:Bool) (a b:ByteArray) (w:World) (E:Bool) (hE:(x==y&&a.toList==b.toList)=E) :
 Calls prog 36 #[.iface 220 (.agg #[.bool x,.string a]),.iface 220 (.agg #[.bool y,.string b])] w fun e w'=>e=.returned (.bool E)∧Below w.heap.size w w':=by
 have f1:=is_truth_whole
 have f2:=has_Number_whole
 have m1:∀ w:World,(method 512 220 (.agg #[.bool x,.string a]) "Kind").run prog w=.ok (300,.agg #[.bool x,.string a]) w:=fun _=>by kernel_rfl
 have m2:∀ w:World,(method 512 220 (.agg #[.bool y,.string b]) "Kind").run prog w=.ok (300,.agg #[.bool y,.string b]) w:=fun _=>by kernel_rfl
 have m3:∀ w:World,(method 512 220 (.agg #[.bool x,.string a]) "Num").run prog w=.ok (301,.agg #[.bool x,.string a]) w:=fun _=>by kernel_rfl
 have m4:∀ w:World,(method 512 220 (.agg #[.bool y,.string b]) "Num").run prog w=.ok (301,.agg #[.bool y,.string b]) w:=fun _=>by kernel_rfl
 have h24:=eql_num x y a b E hE
 clear hE
 go_enter func36,ntmps36
 go_wp2_with fail
 refine(kind_whole _ _ _).mono ?_
 rintro e w1 ⟨rfl,hb1⟩
 go_wp2_with fail
 refine(kind_whole _ _ _).mono ?_
 rintro e w2 ⟨rfl,hb2⟩
 go_wp2_with fail
 refine(num_whole _ _ _).mono ?_
 rintro e w3 ⟨rfl,hb3⟩
 go_wp2_with fail
 refine(num_whole _ _ _).mono ?_
 rintro e w4 ⟨rfl,hb4⟩
 go_wp2_with fail
 go_ret
 exact⟨rfl,two (two (two hb1 hb2) hb3) hb4⟩
theorem samev_row (k:Nat) (a b:ByteArray) (w:World) (E:Bool) (hE:(a.toList==b.toList)=E) :
 Calls prog 36 #[.iface 222 (.agg #[.int .u8 k,.string a]),.iface 222 (.agg #[.int .u8 k,.string b])] w fun e w'=>e=.returned (.bool E)∧Below w.heap.size w w':=by
 have f1:=is_truth_row
 have f2:=has_Number_row
 have f3:=has_Raw_row
 have q0:((k:Int) != (k:Int))=false:=by simp
 have m1:∀ w:World,(method 512 222 (.agg #[.int .u8 k,.string a]) "Kind").run prog w=.ok (304,.agg #[.int .u8 k,.string a]) w:=fun _=>by kernel_rfl
 have m2:∀ w:World,(method 512 222 (.agg #[.int .u8 k,.string b]) "Kind").run prog w=.ok (304,.agg #[.int .u8 k,.string b]) w:=fun _=>by kernel_rfl
 have m3:∀ w:World,(method 512 222 (.agg #[.int .u8 k,.string a]) "Bytes").run prog w=.ok (303,.agg #[.int .u8 k,.string a]) w:=fun _=>by kernel_rfl
 have m4:∀ w:World,(method 512 222 (.agg #[.int .u8 k,.string b]) "Bytes").run prog w=.ok (303,.agg #[.int .u8 k,.string b]) w:=fun _=>by kernel_rfl
 go_enter func36,ntmps36
 go_wp2_with fail
 refine(kind_row _ _ _).mono ?_
 rintro e w1 ⟨rfl,hb1⟩
 go_wp2_with fail
 refine(kind_row _ _ _).mono ?_
 rintro e w2 ⟨rfl,hb2⟩
 go_wp2_with fail
 refine(bytes_row _ _ _).mono ?_
 rintro e w3 ⟨rfl,hb3⟩
 go_wp2_with fail
 refine(bytes_row _ _ _).mono ?_
 rintro e w4 ⟨rfl,hb4⟩
 go_wp2_with fail
 go_ret
 exact⟨rfl,two (two (two hb1 hb2) hb3) hb4⟩
