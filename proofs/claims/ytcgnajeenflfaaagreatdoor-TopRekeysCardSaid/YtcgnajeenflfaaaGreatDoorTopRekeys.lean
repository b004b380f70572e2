import Derived.LaidMore
import Derived.Lay
import Derived.Lib.SmallJoins
import Derived.Test.YtcgnajeenflfaaaGreatDoorCards
import Derived.Test.YtcgnajeenflfaaaGreatDoorTie
import Derived.Test.YtcgnajeenflfaaaGreatDoorP50
set_option maxRecDepth 100000
set_option maxHeartbeats 4000000
set_option linter.all false
open Go.Proofs.Tryz Go.RowKit
namespace Go.Proofs.YtcgnajeenflfaaaGreatDoor
namespace topRekeys
open Go.ChangeShapes Go.WideShapes Go.ChangeAt Go.RowKit
open Go.ChangeMaps (open_string shut_string)
open Sc Lo Rk
set_option linter.unusedVariables false
theorem own:ownKnob prog.godebug=none:=by kernel_rfl
theorem laidOut:laidOutB prog=true:=by kernel_rfl
noncomputable abbrev flat:List (String×DataW Unit):=Rows.topRekeysRow.laid.filter fun x=>x.2.handleName?.isNone
noncomputable def base0 (os:Os):World :=
 let w0:=World.holding prog os ⟨#[],#[],[]⟩
 { w0 with heap:=w0.heap.modify 1 fun
  | .cells _ t frozen=>.cells #[.iface 197 (.agg #[.pointer (some ⟨11,36,none⟩)])] t frozen
  | o=>o }
noncomputable def zL (os:Os):World:=(base0 os).layVars prog flat
theorem aIn (os:Os):(zL os).os=os:=World.layVars_os _ _ _
theorem bBt {P:Program} {w0:World} {laid:List (String×DataW Unit)} (args:Array Value) (hf:w0.layFits P laid []=true) (hi:w0.layIfaces P laid (w0.layVars P laid)=true) :
 laidMet P laid ((w0.layVars P laid).forCall (fun _ _=>0) ⟨#[],args,[]⟩).memory:=by
 have e1:(laid.filter fun x=>(laid.map (·.1)).contains x.1)=laid:=List.filter_eq_self.2 fun x hx=>List.contains_iff_mem.2 (List.mem_map.2 ⟨x,hx,rfl⟩)
 have e2:(laid.filter fun x=>!(laid.map (·.1)).contains x.1)=[]:=List.filter_eq_nil_iff.2 fun x hx=>by rw[List.contains_iff_mem.2 (List.mem_map.2 ⟨x,hx,rfl⟩)];simp
 have h:laidMet P laid (w0.layVars P laid):=laidMet_layVars (w0:=w0) (laid.map (·.1)) [] (by rw[e1]) (by rw[e1];exact hf) (by rw[e1];exact hi) (by rw[e2];exact LaidIn.none);exact h.of_heap (by simp[World.memory,World.forCall,Input.heap])
theorem aEk (os:Os) (args:Array Value):laidMetH prog Rows.topRekeysRow.laid ((zL os).forCall (fun _ _=>0) ⟨#[],args,[]⟩).memory :=
 laidMetH_of_parts (bBt args (by kernel_rfl) (by kernel_rfl)) (by kernel_rfl)
theorem lifted (os:Os) (started:os.Started) (H:Type) (enc:TypeId×Value→H) :
 ReturnsInHanded {} Tryz.checked os 4 .any (fun w args=>(Rows.topRekeysSpec.pre enc prog Tryz.f4 Rows.topRekeysRow.domain false w args∧laidMetH prog Rows.topRekeysRow.laid w)∧sizedMet enc prog Tryz.f4 (OpenSpec.ofChange Rows.topRekeysSpec) false w args)
  (Rows.topRekeysSpec.post enc prog Tryz.f4 false true false false):=by
 refine aIe (C:=Tryz.checked) (X:=fun w _=>laidMetH prog Rows.topRekeysRow.laid w) (fun _ _ _ hh h=>h.of_heap hh) own started (by kernel_rfl) func4
  (ChangeSpec.witness_shaped (enc:=enc) (C:=Tryz.checked) (os:=os) (X:=fun w _=>laidMetH prog Rows.topRekeysRow.laid w) false (zL os) #[.agg #[.string ByteArray.empty,.string ByteArray.empty,.int .i64 0,.slice none 0 0],.agg #[.int .i64 0,.slice none 0 0,.slice none 0 0],.agg #[.int .u8 0,.bool false,.bool false,.string ByteArray.empty,.string ByteArray.empty,.slice none 0 0]] 8 (aIn _)
   (World.shaped_of_ZipB (by kernel_rfl) (by kernel_rfl)) (by kernel_rfl) (by kernel_rfl) (by kernel_rfl) (aEk os _)) ?_
 intro W base args ds gs before bFc hW hcnd hsz hL hsh _;have hval:∀ (j:Nat) t v,Tryz.f4.params[j]?=some t→args[j]?=some v→Value.okWide prog W .any base t v:=bFc;have hW':=hW;obtain⟨p,q,hA0,hV,rfl,hfz,hnd⟩:=hW;have hA:DataW.TrodAll enc prog W 0 (fun _=>true) true Tryz.f4.params.toList args.toList ds p:=hA0;rw[Tryz.params4] at hA hval;obtain⟨v0,vs0,d0,ds0,p0,q0,hargs,rfl,rfl,h0,r0⟩:=trodAll_cons hA;obtain⟨v1,vs1,d1,ds1,p1,q1,rfl,rfl,rfl,h1,r1⟩:=trodAll_cons r0;obtain⟨v2,vs2,d2,ds2,p2,q2,rfl,rfl,rfl,h2,r2⟩:=trodAll_cons r1;obtain⟨rfl,rfl,rfl⟩:=trodAll_nil r2;obtain rfl:args=#[v0,v1,v2]:=by cases args;simp_all
 obtain⟨rfl,rfl⟩:=trodVars_none hV;rw[Tryz.params4] at hsz;have k0:=h0;have k1:=h1;have k2:=h2;have lt0:∀ x∈p0,x.block<W.heap.size:=by obtain⟨m,hm⟩:=k0;exact DataW.trod_lt m _ _ _ hm
 have lt1:∀ x∈p1,x.block<W.heap.size:=by obtain⟨m,hm⟩:=k1;exact DataW.trod_lt m _ _ _ hm
 have lt2:∀ x∈p2,x.block<W.heap.size:=by obtain⟨m,hm⟩:=k2;exact DataW.trod_lt m _ _ _ hm
 have z0:∀ n∈d0.weights prog 28,n≤reachBytes:=fun n hn=>by simpa using List.all_eq_true.1 hsz n (DataW.weights_mem_each (j:=0) rfl rfl n hn)
 have z1:∀ n∈d1.weights prog 51,n≤reachBytes:=fun n hn=>by simpa using List.all_eq_true.1 hsz n (DataW.weights_mem_each (j:=1) rfl rfl n hn)
 have z2:∀ n∈d2.weights prog 57,n≤reachBytes:=fun n hn=>by simpa using List.all_eq_true.1 hsz n (DataW.weights_mem_each (j:=2) rfl rfl n hn)
 obtain⟨s,t,lim,F,a0,c0,rfl,hF,hFl⟩:=aYi (hval 0 28 v0 rfl rfl) h0 z0;obtain⟨jA,F2,b0,c2,L,l0,l1,rfl,hF2,bVd,hS,hSl⟩:=V.aIb (hval 1 51 v1 rfl rfl) h1 z1;obtain⟨p,u,rfl,hf,hp⟩:=V.aVm (hval 2 57 v2 rfl rfl) h2 z2;have hg:=aLv hL hsh (by simp[Rows.topRekeysRow]) (by simp[Rows.topRekeysRow]) (by simp[Rows.topRekeysRow]) (by simp[Rows.topRekeysRow]);have he:=aDh hL (by simp[Rows.topRekeysRow]);have hn:=aEf hL (by simp[Rows.topRekeysRow]);clear hA0 bFc hL;refine(topRekeys_any s t lim jA F F2 a0 b0 l0 c0 c2 l1 L p u W hFl bVd hSl hf hg he hn hF hF2 hS hp).mono fun e W' ⟨he,bel⟩=>?_
 subst he;exact⟨_,rfl,_,_,_,[],_,[],hW',trodAll_mk1 (shut_bool underlying4 _),(trodAll_cons_mk (Below.trod laidOut (by kernel_rfl) (of_decide_eq_true (by kernel_rfl)) k0 bel lt0) (trodAll_cons_mk (Below.trod laidOut (by kernel_rfl) (of_decide_eq_true (by kernel_rfl)) k1 bel lt1) (trodAll_cons_mk (Below.trod laidOut (by kernel_rfl) (of_decide_eq_true (by kernel_rfl)) k2 bel lt2) trodAll_mk0))),rfl,bel.frame _,fun h=>by cases h⟩
theorem wrap:Tryz.f4.isWrapper prog Rows.topRekeysRow.wrapper Rows.topRekeysRow.mainSum:=by
 unfold Func.isWrapper;first | (rw[if_pos (by decide +kernel)];kernel_rfl) | (rw[if_neg (by decide +kernel)];exact⟨rfl,rfl⟩)
theorem over:Rows.topRekeysRow.holds Tryz.pinned (OpenSpec.ofChange Rows.topRekeysSpec) :=
 OpenClaim.holds_of_wide 4 Tryz.f4 rfl rfl rfl rfl rfl rfl rfl ⟨rfl,rfl,rfl,rfl,rfl⟩ rfl rfl rfl rfl rfl named func4 closed inst wrap
  (fun os started H enc _=>lifted os started H enc)
theorem proved:Rows.TopRekeysCardSaid :=
 Claim7.holds_tied_plain_at .later [] [.data,.data,.data,.data,.handle,.sentinel,.sentinel,.sentinel,.pinned,.pinned] true (true, "8b1f583de6fd4028691ac25381a7038230e6af7d948ad6fd58f37f6bf1fac66a") true over (fun _ h=>by cases h) (by kernel_rfl) (fun _ h=>by cases h) topRekeys_row_tie rfl ⟨rfl,rfl⟩ (by kernel_rfl) rfl
  (fun f fn hf hfn=>by
   obtain rfl:f=4:=Option.some.inj ((show prog.funcNamed "dovetail/dovetailtop.TopRekeys" = some 4 by kernel_rfl).symm.trans hf) |>.symm;obtain rfl:fn=Tryz.f4:=(Option.some.inj (func4.symm.trans hfn)).symm;exact⟨by kernel_rfl,fun j t ht=>by
    rw[Tryz.params4] at ht;have hm:t∈([28,51,57]:List TypeId):=by simpa using Array.mem_of_getElem? ht
    have hall:(([28,51,57]:List TypeId).all fun u=>!prog.wantsStandIn u)=true:=by kernel_rfl
    exact(show prog.wantsStandIn t=false by simpa using List.all_eq_true.1 hall t hm)⟩)
  (by kernel_rfl)
